-- %hmode
-- %dsl
/- (*taker).machine of package packed. -/
import Derived.Test.YthlcginebeapdaaAmTak
import Derived.Test.YthlcginebeapdaaUnp
import Derived.Test.YthlcginebeapdaaAmH
import Derived.Test.YthlcginebeapdaaAmW
namespace Go.Proofs.Ythlcginebeapdaa
open Go.RowKit
set_option linter.unusedSimpArgs false
set_option linter.unusedVariables false
set_option maxRecDepth 100000

theorem pc_take (l R : List Nat) (n x : Nat) (hb : ∀ c ∈ l, c < 256) (hn : n ≤ l.length) (hn4 : n ≤ 4) (hx : numB (l.take n) = x) (hR : l.drop n = R) (H0 : List (Nat × Row)) {H2 : List (Nat × Row)} {K : List V} (h : LH ⟨0, [], H2, []⟩ ((900, tkR l) :: H0)) : PC Try.prog 47 [.ref 900 0, .i n] H2 K (fun v H' K' => v = .i x ∧ H' = (900, tkR R) :: H0 ∧ K' = K) := by
 subst hx hR
 exact PC.less (pc_take0 l n hb hn hn4 H0 K) (LH.of h)
abbrev bxM (u v : V) : Row := ⟨24, [u, v], false, 0⟩
abbrev bxS (u v : V) : Row := ⟨50, [u, v], false, 0⟩
abbrev bxB (v : V) : Row := ⟨4, [v], false, 0⟩
def mcP (n b : Nat) (R0 : List Nat) (v : V) : Prop := match stsL n R0 with
 | none => ∃ k a m cap, v = .tup [.agg [.i k, .d (.p (.slice a m cap))], .b false]
 | some (L, r) => v = .tup [mV ⟨(b : Int) - 1, L⟩, .b (decide (r = []))]
set_option maxHeartbeats 8000000 in
theorem pc_machine (n b : Nat) (R0 B : List Nat) (hb : ∀ c ∈ n :: b :: R0, c < 256) (hlen : R0.length ≤ 8000) : PC Try.prog 49 [.ref 900 0] [(900, tkR (n :: b :: R0)), (22, bxM (.i 0) .nil)] [.ref 22 0, .d (bytesD B)] (fun v H' K' => mcP n b R0 v ∧ v.pure ∧ H' = [(22, bxM (.i 0) .nil)] ∧ K' = [.ref 22 0, .d (bytesD B)]) := by
 have hb1 : ∀ c ∈ b :: R0, c < 256 := fun c hc => hb c (List.mem_cons_of_mem _ hc)
 have hbR : ∀ c ∈ R0, c < 256 := fun c hc => hb1 c (List.mem_cons_of_mem _ hc)
 have hn1 : numB ((n :: b :: R0).take 1) = n := by simp [numB]
 have hn2 : numB ((b :: R0).take 1) = b := by simp [numB]
 have hn256 : n < 256 := hb n (by simp)
 have hb256 : b < 256 := hb b (by simp)
 refine pc_machine_of (X := stsL n R0 = none) (n := 52) (T1 := [(3, .ref 3 0), (2, .ref 2 0), (0, .ref 900 0)]) (H1 := [(3, bxB (.b false)), (2, bxM (.i 0) .nil), (900, tkR (n :: b :: R0)), (22, bxM (.i 0) .nil)]) ⟨Try.func49, rfl, rfl, rfl, rfl⟩ (by simp) rfl rfl (fun h k a m cap => by rw [mcP, h]; exact ⟨k, a, m, cap, rfl⟩) (fun w0 out kx => ?_) ?_ rfl (by decide) (fun w0 out kx ds => ?_)
 ·skip
  simp only [enum]
  refine AW.region ?_
  refine AL.sm rfl (sm_alloc (l := [.d (.p (.int .i64 0)), .d (.p (.slice none 0 0))]) 2 inf24 rfl (by first | rfl | simp [S.clean, S.put, S.newObj, S.forget, V.has, V.hasL, junkIf, setL, V.cs, hasL_i, hasL_d, hasL_b, hasL_s, hasL_n, hasL_rep, hasL_flat, hasL_append, -List.map_set]) rfl rfl) ?_
  refine AL.sm rfl (sm_alloc (l := [.d (.p (.bool false))]) 3 inf4 rfl (by first | rfl | simp [S.clean, S.put, S.newObj, S.forget, V.has, V.hasL, junkIf, setL, V.cs, hasL_i, hasL_d, hasL_b, hasL_s, hasL_n, hasL_rep, hasL_flat, hasL_append, -List.map_set]) rfl rfl) ?_
  refine AL.nil ?_
  try simp only [thenS, S.put, S.newObj, setL, V.cs, List.length_cons, List.length_nil, List.take_succ_cons, List.take_zero, List.drop_succ_cons, List.drop_zero, List.drop_nil, List.nil_append, List.cons_append, List.append_nil, Nat.zero_add, Nat.reduceAdd, List.map_cons, List.map_nil, List.set_cons_zero, List.set_cons_succ]
  exact ⟨trivial, trivial⟩
 ·intro a w p h h1 h2
  have e3 : ∀ y, (a.put (some 6) y).eval (.tmp 6) = y := fun y => by simp [Act.eval, Act.put, Array.getD_eq_getD_getElem?, h1]
  have e4 : a.eval (.tmp 3) = .pointer (some p) := by simp [Act.eval, Array.getD_eq_getD_getElem?, h2]
  refine wp_region_lit (wpList_plain rfl fun K hK => ?_)
  unfold Oper.wp
  simp only [execOp, List.map_toArray, List.map_cons, List.map_nil, e4]
  have hmf : ∀ (fn : Go.Fn) (first cap : Array Value) (w : World), (Instr.makeFunc fn first cap).run Try.prog w = .ok (.func fn first cap) w := fun _ _ _ _ => rfl
  rw [Sem.run_bind, hmf]
  refine hK _ _ (wpList_plain rfl fun K2 hK2 => ?_)
  unfold Oper.wp
  simp only [execOp, resolve, e3, List.map_toArray, List.map_nil]
  refine hK2 _ _ ?_
  exact ⟨rfl, rfl, .func (.func 64) #[] #[.pointer (some p)], by simp [Deferred.ofValue, Act.put, h]⟩
 ·skip
  refine AW.seq ?_
  refine AW.region ?_
  refine AL.rp rfl rfl (rp_move rfl rfl) ?_
  try simp only [S.put, S.newObj, setL, V.cs, List.length_cons, List.length_nil, List.take_succ_cons, List.take_zero, List.drop_succ_cons, List.drop_zero, List.drop_nil, List.nil_append, List.cons_append, List.append_nil, Nat.zero_add, Nat.reduceAdd]
  refine AL.pc [0, 2, 3] (ts := [_, _, _]) (args := [_, _]) (post := ?pc0) ?hc0 rfl rfl rfl rfl rfl rfl rfl rfl rfl ?_
  case hc0 => (refine pc_take (n :: b :: R0) (b :: R0) 1 n hb (by simp) (by decide) hn1 rfl [(3, bxB (.b false)), (2, bxM (.i 0) .nil), (22, bxM (.i 0) .nil)] ?_ <;> first | rfl | exact ⟨rfl, rfl, trivial⟩ | exact ⟨rfl, rfl, rfl, rfl, trivial⟩ | exact ⟨rfl, rfl, rfl, rfl, rfl, trivial⟩ | exact ⟨rfl, rfl, rfl, rfl, rfl, rfl, trivial⟩ | exact ⟨rfl, rfl, rfl, rfl, rfl, rfl, rfl, trivial⟩ | (simp [V.lowL, V.low]; done))
  rintro _ _ _ ⟨rfl, rfl, rfl⟩
  simp only [back, S.put, List.cons_append, List.nil_append, List.zip_cons_cons, List.zip_nil_left, List.drop_succ_cons, List.drop_zero, List.length_cons, List.length_nil, Nat.zero_add, Nat.reduceAdd]
  refine AL.rp rfl rfl (rp_assign rfl rfl) ?_
  refine AL.nil ?_
  try simp only [thenS, S.put]
  refine AW.seq ?_
  refine AW.region ?_
  refine AL.rp rfl rfl (rp_move rfl rfl) ?_
  try simp only [S.put, S.newObj, setL, V.cs, List.length_cons, List.length_nil, List.take_succ_cons, List.take_zero, List.drop_succ_cons, List.drop_zero, List.drop_nil, List.nil_append, List.cons_append, List.append_nil, Nat.zero_add, Nat.reduceAdd]
  refine AL.pc [0, 2, 3, 4] (ts := [_, _, _, _]) (args := [_, _]) (post := ?pc1) ?hc1 rfl rfl rfl rfl rfl rfl rfl rfl rfl ?_
  case hc1 => (refine pc_take (b :: R0) R0 1 b hb1 (by simp) (by decide) hn2 rfl [(3, bxB (.b false)), (2, bxM (.i 0) .nil), (22, bxM (.i 0) .nil)] ?_ <;> first | rfl | exact ⟨rfl, rfl, trivial⟩ | exact ⟨rfl, rfl, rfl, rfl, trivial⟩ | exact ⟨rfl, rfl, rfl, rfl, rfl, trivial⟩ | exact ⟨rfl, rfl, rfl, rfl, rfl, rfl, trivial⟩ | exact ⟨rfl, rfl, rfl, rfl, rfl, rfl, rfl, trivial⟩ | (simp [V.lowL, V.low]; done))
  rintro _ _ _ ⟨rfl, rfl, rfl⟩
  simp only [back, S.put, List.cons_append, List.nil_append, List.zip_cons_cons, List.zip_nil_left, List.drop_succ_cons, List.drop_zero, List.length_cons, List.length_nil, Nat.zero_add, Nat.reduceAdd]
  refine AL.rp rfl rfl (rp_sub rfl rfl rfl (by first | omega | (dsimp only; omega))) ?_
  (first | (refine AL.rp rfl rfl (rp_field_ref Try.underlying24 rfl rfl rfl inf3 (by decide) rfl) ?_) | (refine AL.rp rfl rfl (rp_field_ad Try.underlying24 rfl rfl rfl inf3 (by decide) rfl) ?_))
  (first | (refine AL.st rfl (st_store_map2 inf3 rfl rfl rfl rfl rfl rfl rfl rfl (by first | assumption | omega)) ?_) | (refine AL.st rfl (st_store inf3 rfl rfl rfl rfl rfl rfl rfl (by first | decide | (simp; done)) rfl) ?_))
  refine AL.nil ?_
  try simp only [thenS, S.put, S.newObj, setL, V.cs, List.length_cons, List.length_nil, List.take_succ_cons, List.take_zero, List.drop_succ_cons, List.drop_zero, List.drop_nil, List.nil_append, List.cons_append, List.append_nil, Nat.zero_add, Nat.reduceAdd, List.map_cons, List.map_nil, List.set_cons_zero, List.set_cons_succ]
  refine AW.seq ?_
  refine AW.seq ?_
  refine AW.adoptH 2 1 901 2 50 rfl rfl rfl (by simp [S.clean, V.has, V.hasL, V.cs, setL]) ?_
  refine AW.region ?_
  refine AL.rp rfl rfl (rp_move rfl rfl) ?_
  refine AL.rp rfl rfl (rp_move rfl rfl) ?_
  refine AL.nil ?_
  try simp only [thenS, S.put]
  refine AW.block ?_
  refine AW.loop (fun s' => ∃ (q : Nat) (P : List St) (R : List Nat), q ≤ n ∧ Gone n R0 q P R ∧ s' = ⟨52, [(0, .ref 900 0), (2, .ref 2 0), (3, .ref 3 0), (13, .i n), (14, .i q)], (900, tkR R) :: [(3, bxB (.b false)), (2, bxM (.i ((b : Int) - 1)) (.own 901 2 q (decide (q = 0)))), (901, ⟨50, P.flatMap stV2, decide (q = 0), 2⟩), (22, bxM (.i 0) .nil)], [.ref 3 0, .ref 22 0, .d (bytesD B)]⟩) (fun s' => n - s'.nat 14) ⟨_, ?_, 0, [], R0, Nat.zero_le _, Gone.init n R0, rfl⟩ ?_
  ·exact (Less.of rfl (by repeat (first | exact trivial | refine ⟨⟨_, rfl, Wk.refl _⟩, ?_⟩ | refine ⟨⟨_, rfl, Wk.nil _ _⟩, ?_⟩ | refine ⟨⟨_, rfl, Wk.junk _⟩, ?_⟩)) (by repeat (first | exact trivial | refine ⟨rfl, ?_⟩)) rfl)
  rintro s' ⟨q, P, R, hq, hG, rfl⟩
  have hPl := hG.len
  have hRl := hG.le
  have hRb := hG.lt hbR
  have hflP : (P.flatMap stV2).length = q * 2 := by rw [flat_len (sz := 2) (fun _ => rfl), hPl]
  by_cases hlt : q < n
  ·have hfail := hG.fail hlt
   have hstep := hG.step hlt
   by_cases h4 : 4 ≤ R.length
   ·obtain ⟨F, hF⟩ : ∃ F, numB (R.take 4) = F := ⟨_, rfl⟩
    obtain ⟨R4, hR4⟩ : ∃ R4, R.drop 4 = R4 := ⟨_, rfl⟩
    have hR4l : R4.length = R.length - 4 := by rw [← hR4, List.length_drop]
    have hR4b : ∀ c ∈ R4, c < 256 := fun c hc => hRb c (List.mem_of_mem_drop (hR4 ▸ hc))
    refine AW.seq ?_
    refine AW.region ?_
    (first | (refine AL.rp rfl rfl (rp_lssT rfl rfl rfl (by first | assumption | omega | (dsimp only; omega))) ?_) | (refine AL.rp rfl rfl (rp_lssF rfl rfl rfl (by first | assumption | omega | (dsimp only; omega))) ?_) | (refine AL.rp rfl rfl (rp_lss rfl rfl rfl) ?_))
    refine AL.nil ?_
    try simp only [thenS, S.put]
    refine AW.seq ?_
    refine AW.condT rfl ?_
    refine AW.skip ?_
    try simp only [thenS]
    refine AW.seq ?_
    refine AW.block ?_
    refine AW.seq ?_
    refine AW.region ?_
    refine AL.rp rfl rfl (rp_move rfl rfl) ?_
    try simp only [S.put, S.newObj, setL, V.cs, List.length_cons, List.length_nil, List.take_succ_cons, List.take_zero, List.drop_succ_cons, List.drop_zero, List.drop_nil, List.nil_append, List.cons_append, List.append_nil, Nat.zero_add, Nat.reduceAdd]
    refine AL.pc [0, 2, 3, 13, 14] (ts := [_, _, _, _, _]) (args := [_, _]) (post := ?pc2) ?hc2 rfl rfl rfl rfl rfl rfl rfl rfl rfl ?_
    case hc2 => (refine pc_take R R4 4 F hRb h4 (by decide) hF hR4 [(3, bxB (.b false)), (2, bxM (.i ((b : Int) - 1)) (.own 901 2 q (decide (q = 0)))), (901, ⟨50, P.flatMap stV2, decide (q = 0), 2⟩), (22, bxM (.i 0) .nil)] ?_ <;> first | rfl | exact ⟨rfl, rfl, trivial⟩ | exact ⟨rfl, rfl, rfl, rfl, trivial⟩ | exact ⟨rfl, rfl, rfl, rfl, rfl, trivial⟩ | exact ⟨rfl, rfl, rfl, rfl, rfl, rfl, trivial⟩ | exact ⟨rfl, rfl, rfl, rfl, rfl, rfl, rfl, trivial⟩ | (simp [V.lowL, V.low]; done))
    rintro _ _ _ ⟨rfl, rfl, rfl⟩
    simp only [back, S.put, List.cons_append, List.nil_append, List.zip_cons_cons, List.zip_nil_left, List.drop_succ_cons, List.drop_zero, List.length_cons, List.length_nil, Nat.zero_add, Nat.reduceAdd]
    refine AL.rp rfl rfl (rp_build (vs := [(0, _)]) (zs := [.d (.p (.int .i64 0)), .d (.p (.slice none 0 0))]) pl50 inf50 rfl rfl rfl rfl) ?_
    refine AL.sm rfl (sm_alloc (l := [.d (.p (.int .i64 0)), .d (.p (.slice none 0 0))]) 5 inf50 rfl (by first | rfl | simp [S.clean, S.put, S.newObj, S.forget, V.has, V.hasL, junkIf, setL, V.cs, hasL_i, hasL_d, hasL_b, hasL_s, hasL_n, hasL_rep, hasL_flat, hasL_append, -List.map_set]) rfl rfl) ?_
    refine AL.st rfl (st_store_any inf50 rfl rfl rfl rfl rfl rfl rfl rfl (by first | decide | (simp; done) | (simp; omega)) rfl) ?_
    refine AL.nil ?_
    try simp only [thenS, S.put, S.newObj, setL, V.cs, List.length_cons, List.length_nil, List.take_succ_cons, List.take_zero, List.drop_succ_cons, List.drop_zero, List.drop_nil, List.nil_append, List.cons_append, List.append_nil, Nat.zero_add, Nat.reduceAdd, List.map_cons, List.map_nil, List.set_cons_zero, List.set_cons_succ]
    refine AW.seq ?_
    refine AW.seq ?_
    by_cases h6 : 2 ≤ R4.length
    ·obtain ⟨M, hM⟩ : ∃ M, numB (R4.take 2) = M := ⟨_, rfl⟩
     have hMm : manyL R = M := by rw [manyL, hR4, hM]
     obtain ⟨R6, hR6⟩ : ∃ R6, R4.drop 2 = R6 := ⟨_, rfl⟩
     have hR6d : R.drop 6 = R6 := by rw [← hR6, ← hR4, List.drop_drop]
     have hR6l : R6.length = R.length - 6 := by rw [← hR6d, List.length_drop]
     have hR6b : ∀ c ∈ R6, c < 256 := fun c hc => hRb c (List.mem_of_mem_drop (hR6d ▸ hc))
     have hso : stOf R = ⟨F, arcsL M R6⟩ := by rw [stOf, hF, hMm, hR6d]
     have hM4 : M < 4294967296 := by rw [← hM]; exact numB_lt4 _ (fun c hc => hR4b c (List.mem_of_mem_take hc)) (by rw [List.length_take]; omega)
     refine AW.region ?_
     refine AL.rp rfl rfl (rp_move rfl rfl) ?_
     try simp only [S.put, S.newObj, setL, V.cs, List.length_cons, List.length_nil, List.take_succ_cons, List.take_zero, List.drop_succ_cons, List.drop_zero, List.drop_nil, List.nil_append, List.cons_append, List.append_nil, Nat.zero_add, Nat.reduceAdd]
     refine AL.pc [0, 2, 3, 5, 13, 14] (ts := [_, _, _, _, _, _]) (args := [_, _]) (post := ?pc3) ?hc3 rfl rfl rfl rfl rfl rfl rfl rfl rfl ?_
     case hc3 => (refine pc_take R4 R6 2 M hR4b h6 (by decide) hM hR6 [(5, bxS (.i F) .nil), (3, bxB (.b false)), (2, bxM (.i ((b : Int) - 1)) (.own 901 2 q (decide (q = 0)))), (901, ⟨50, P.flatMap stV2, decide (q = 0), 2⟩), (22, bxM (.i 0) .nil)] ?_ <;> first | rfl | exact ⟨rfl, rfl, trivial⟩ | exact ⟨rfl, rfl, rfl, rfl, trivial⟩ | exact ⟨rfl, rfl, rfl, rfl, rfl, trivial⟩ | exact ⟨rfl, rfl, rfl, rfl, rfl, rfl, trivial⟩ | exact ⟨rfl, rfl, rfl, rfl, rfl, rfl, rfl, trivial⟩ | (simp [V.lowL, V.low]; done))
     rintro _ _ _ ⟨rfl, rfl, rfl⟩
     simp only [back, S.put, List.cons_append, List.nil_append, List.zip_cons_cons, List.zip_nil_left, List.drop_succ_cons, List.drop_zero, List.length_cons, List.length_nil, Nat.zero_add, Nat.reduceAdd]
     refine AL.rp rfl rfl (rp_move rfl rfl) ?_
     refine AL.nil ?_
     try simp only [thenS, S.put]
     refine AW.block ?_
     refine AW.adoptH 5 1 902 4 54 rfl rfl rfl (by simp [S.clean, V.has, V.hasL, V.cs, setL, hasL_flat]) ?_
     refine AW.loop (fun s' => ∃ (i : Nat) (A : List Ar) (W : List Nat), i ≤ M ∧ A = arcsL i R6 ∧ W = R6.drop (9 * i) ∧ 9 * i ≤ R6.length ∧ s' = ⟨52, [(0, .ref 900 0), (2, .ref 2 0), (3, .ref 3 0), (5, .ref 5 0), (13, .i n), (14, .i q), (20, .i M), (21, .i i)], (900, tkR W) :: [(5, bxS (.i F) (.own 902 4 i (decide (i = 0)))), (902, ⟨54, A.flatMap arV2, decide (i = 0), 4⟩), (3, bxB (.b false)), (2, bxM (.i ((b : Int) - 1)) (.own 901 2 q (decide (q = 0)))), (901, ⟨50, P.flatMap stV2, decide (q = 0), 2⟩), (22, bxM (.i 0) .nil)], [.ref 3 0, .ref 22 0, .d (bytesD B)]⟩) (fun s' => M - s'.nat 21) ⟨_, ?_, 0, [], R6, Nat.zero_le _, rfl, rfl, Nat.zero_le _, rfl⟩ ?_
     ·exact (Less.of rfl (by repeat (first | exact trivial | refine ⟨⟨_, rfl, Wk.refl _⟩, ?_⟩ | refine ⟨⟨_, rfl, Wk.nil _ _⟩, ?_⟩ | refine ⟨⟨_, rfl, Wk.junk _⟩, ?_⟩)) (by repeat (first | exact trivial | refine ⟨rfl, ?_⟩)) rfl)
     rintro s' ⟨i, A, W, hi, hA, hW, h9i, rfl⟩
     have hAl : A.length = i := by rw [hA, arcsL_len]
     have hWl : W.length = R6.length - 9 * i := by rw [hW, List.length_drop]
     have hWb : ∀ c ∈ W, c < 256 := fun c hc => hR6b c (List.mem_of_mem_drop (hW ▸ hc))
     have hflA : (A.flatMap arV2).length = i * 4 := by rw [flat_len (sz := 4) (fun _ => rfl), hAl]
     by_cases hil : i < M
     ·obtain ⟨W1, hW1⟩ : ∃ x, W.drop 2 = x := ⟨_, rfl⟩
      obtain ⟨W2, hW2⟩ : ∃ x, W1.drop 2 = x := ⟨_, rfl⟩
      obtain ⟨W3, hW3⟩ : ∃ x, W2.drop 4 = x := ⟨_, rfl⟩
      obtain ⟨W4, hW4⟩ : ∃ x, W3.drop 1 = x := ⟨_, rfl⟩
      have l1 : W1.length = W.length - 2 := by rw [← hW1, List.length_drop]
      have l2 : W2.length = W.length - 4 := by rw [← hW2, List.length_drop]; omega
      have l3 : W3.length = W.length - 8 := by rw [← hW3, List.length_drop]; omega
      have b1 : ∀ c ∈ W1, c < 256 := fun c hc => hWb c (List.mem_of_mem_drop (hW1 ▸ hc))
      have b2 : ∀ c ∈ W2, c < 256 := fun c hc => b1 c (List.mem_of_mem_drop (hW2 ▸ hc))
      have b3 : ∀ c ∈ W3, c < 256 := fun c hc => b2 c (List.mem_of_mem_drop (hW3 ▸ hc))
      obtain ⟨x1, hx1⟩ : ∃ x, numB (W.take 2) = x := ⟨_, rfl⟩
      obtain ⟨x2, hx2⟩ : ∃ x, numB (W1.take 2) = x := ⟨_, rfl⟩
      obtain ⟨x3, hx3⟩ : ∃ x, numB (W2.take 4) = x := ⟨_, rfl⟩
      obtain ⟨x4, hx4⟩ : ∃ x, numB (W3.take 1) = x := ⟨_, rfl⟩
      have hAs : arcsL (i + 1) R6 = A ++ [⟨x1, x2, x3, x4⟩] := by
       rw [arcsL_snoc, ← hA, ← hW, arcAt]
       simp only [← hx1, ← hx2, ← hx3, ← hx4, ← hW3, ← hW2, ← hW1, List.drop_drop]
      have hWs : R6.drop (9 * (i + 1)) = W4 := by
       rw [← hW4, ← hW3, ← hW2, ← hW1, hW]
       simp only [List.drop_drop]
       rw [show 9 * (i + 1) = 9 * i + 2 + 2 + 4 + 1 by omega]
      by_cases h9 : 9 ≤ W.length
      ·skip
       refine AW.seq ?_
       refine AW.region ?_
       (first | (refine AL.rp rfl rfl (rp_lssT rfl rfl rfl (by first | assumption | omega | (dsimp only; omega))) ?_) | (refine AL.rp rfl rfl (rp_lssF rfl rfl rfl (by first | assumption | omega | (dsimp only; omega))) ?_) | (refine AL.rp rfl rfl (rp_lss rfl rfl rfl) ?_))
       refine AL.nil ?_
       try simp only [thenS, S.put]
       refine AW.seq ?_
       refine AW.condT rfl ?_
       refine AW.skip ?_
       try simp only [thenS]
       refine AW.seq ?_
       refine AW.block ?_
       refine AW.drawT (N := ?N5) (l := #[false, false, false, false, false, false, false, false, false, false, false, false, false, false, false]) 15 (by kernel_rfl) rfl rfl ?_ ?_
       rotate_left
       (first | (refine AN.rp (i := 0) (l' := #[true, false, false, false, false, false, false, false, false, false, false, false, false, false, false]) rfl rfl rfl (fun _ _ h => h) (by kernel_rfl) rfl (rp_field_ref Try.underlying50 rfl rfl rfl inf48 (by decide) rfl) ?_) | (refine AN.rp (i := 0) (l' := #[true, false, false, false, false, false, false, false, false, false, false, false, false, false, false]) rfl rfl rfl (fun _ _ h => h) (by kernel_rfl) rfl (rp_field_ad Try.underlying50 rfl rfl rfl inf48 (by decide) rfl) ?_))
       refine AN.rp (i := 2) (l' := #[true, false, true, false, false, false, false, false, false, false, false, false, false, false, false]) rfl rfl rfl (fun _ _ h => h) (by kernel_rfl) rfl (rp_move rfl rfl) ?_
       refine AN.rp (i := 4) (l' := #[true, false, true, false, true, false, false, false, false, false, false, false, false, false, false]) rfl rfl rfl (fun _ _ h => h) (by kernel_rfl) rfl (rp_move rfl rfl) ?_
       refine AN.rp (i := 6) (l' := #[true, false, true, false, true, false, true, false, false, false, false, false, false, false, false]) rfl rfl rfl (fun _ _ h => h) (by kernel_rfl) rfl (rp_move rfl rfl) ?_
       refine AN.rp (i := 8) (l' := #[true, false, true, false, true, false, true, false, true, false, false, false, false, false, false]) rfl rfl rfl (fun _ _ h => h) (by kernel_rfl) rfl (rp_move rfl rfl) ?_
       refine AN.br2 (i := 1) (j := 3) (by kernel_rfl) ?_ ?_
       ·refine BR.mk (l' := #[true, true, true, false, true, false, true, false, true, false, false, false, false, false, false]) rfl rfl rfl ?_
        (first | (refine ST.rd rfl (rd_load_ref Try.underlying48 rfl rfl rfl rfl rfl rfl) ?_) | (refine ST.rd rfl (rd_load_ad Try.underlying48 rfl rfl rfl rfl) ?_) | (refine ST.rd rfl (rd_load_map Try.underlying48 rfl rfl rfl rfl rfl rfl (by assumption)) ?_) | (refine ST.rd rfl (rd_load_flat Try.underlying48 rfl rfl rfl rfl rfl rfl (fun _ => rfl) (by assumption) rfl) ?_))
        refine AN.br1 (i := 3) (by kernel_rfl) ?_
        refine BR.mk (l' := #[true, true, true, true, true, false, true, false, true, false, false, false, false, false, false]) rfl rfl rfl ?_
        try simp only [S.put, S.newObj, setL, V.cs, List.length_cons, List.length_nil, List.take_succ_cons, List.take_zero, List.drop_succ_cons, List.drop_zero, List.drop_nil, List.nil_append, List.cons_append, List.append_nil, Nat.zero_add, Nat.reduceAdd]
        refine ST.pc [0, 2, 3, 5, 13, 14, 20, 21, 23, 24, 25, 27, 29, 31] (ts := [_, _, _, _, _, _, _, _, _, _, _, _, _, _]) (args := [_, _]) (post := ?pc5) ?hc5 rfl rfl rfl rfl rfl rfl rfl rfl rfl ?_
        case hc5 => (refine pc_take W W1 2 x1 hWb (by omega) (by decide) hx1 hW1 [(5, bxS (.i F) (.own 902 4 i (decide (i = 0)))), (902, ⟨54, A.flatMap arV2, decide (i = 0), 4⟩), (3, bxB (.b false)), (2, bxM (.i ((b : Int) - 1)) (.own 901 2 q (decide (q = 0)))), (901, ⟨50, P.flatMap stV2, decide (q = 0), 2⟩), (22, bxM (.i 0) .nil)] ?_ <;> first | rfl | exact ⟨rfl, rfl, trivial⟩ | exact ⟨rfl, rfl, rfl, rfl, trivial⟩ | exact ⟨rfl, rfl, rfl, rfl, rfl, trivial⟩ | exact ⟨rfl, rfl, rfl, rfl, rfl, rfl, trivial⟩ | exact ⟨rfl, rfl, rfl, rfl, rfl, rfl, rfl, trivial⟩ | (simp [V.lowL, V.low]; done))
        rintro _ _ _ ⟨rfl, rfl, rfl⟩
        simp only [back, S.put, List.cons_append, List.nil_append, List.zip_cons_cons, List.zip_nil_left, List.drop_succ_cons, List.drop_zero, List.length_cons, List.length_nil, Nat.zero_add, Nat.reduceAdd]
        refine AN.br1 (i := 5) (by kernel_rfl) ?_
        refine BR.mk (l' := #[true, true, true, true, true, true, true, false, true, false, false, false, false, false, false]) rfl rfl rfl ?_
        try simp only [S.put, S.newObj, setL, V.cs, List.length_cons, List.length_nil, List.take_succ_cons, List.take_zero, List.drop_succ_cons, List.drop_zero, List.drop_nil, List.nil_append, List.cons_append, List.append_nil, Nat.zero_add, Nat.reduceAdd]
        refine ST.pc [0, 2, 3, 5, 13, 14, 20, 21, 23, 24, 25, 26, 27, 29, 31] (ts := [_, _, _, _, _, _, _, _, _, _, _, _, _, _, _]) (args := [_, _]) (post := ?pc6) ?hc6 rfl rfl rfl rfl rfl rfl rfl rfl rfl ?_
        case hc6 => (refine pc_take W1 W2 2 x2 b1 (by omega) (by decide) hx2 hW2 [(5, bxS (.i F) (.own 902 4 i (decide (i = 0)))), (902, ⟨54, A.flatMap arV2, decide (i = 0), 4⟩), (3, bxB (.b false)), (2, bxM (.i ((b : Int) - 1)) (.own 901 2 q (decide (q = 0)))), (901, ⟨50, P.flatMap stV2, decide (q = 0), 2⟩), (22, bxM (.i 0) .nil)] ?_ <;> first | rfl | exact ⟨rfl, rfl, trivial⟩ | exact ⟨rfl, rfl, rfl, rfl, trivial⟩ | exact ⟨rfl, rfl, rfl, rfl, rfl, trivial⟩ | exact ⟨rfl, rfl, rfl, rfl, rfl, rfl, trivial⟩ | exact ⟨rfl, rfl, rfl, rfl, rfl, rfl, rfl, trivial⟩ | (simp [V.lowL, V.low]; done))
        rintro _ _ _ ⟨rfl, rfl, rfl⟩
        simp only [back, S.put, List.cons_append, List.nil_append, List.zip_cons_cons, List.zip_nil_left, List.drop_succ_cons, List.drop_zero, List.length_cons, List.length_nil, Nat.zero_add, Nat.reduceAdd]
        refine AN.br1 (i := 7) (by kernel_rfl) ?_
        refine BR.mk (l' := #[true, true, true, true, true, true, true, true, true, false, false, false, false, false, false]) rfl rfl rfl ?_
        try simp only [S.put, S.newObj, setL, V.cs, List.length_cons, List.length_nil, List.take_succ_cons, List.take_zero, List.drop_succ_cons, List.drop_zero, List.drop_nil, List.nil_append, List.cons_append, List.append_nil, Nat.zero_add, Nat.reduceAdd]
        refine ST.pc [0, 2, 3, 5, 13, 14, 20, 21, 23, 24, 25, 26, 27, 28, 29, 31] (ts := [_, _, _, _, _, _, _, _, _, _, _, _, _, _, _, _]) (args := [_, _]) (post := ?pc7) ?hc7 rfl rfl rfl rfl rfl rfl rfl rfl rfl ?_
        case hc7 => (refine pc_take W2 W3 4 x3 b2 (by omega) (by decide) hx3 hW3 [(5, bxS (.i F) (.own 902 4 i (decide (i = 0)))), (902, ⟨54, A.flatMap arV2, decide (i = 0), 4⟩), (3, bxB (.b false)), (2, bxM (.i ((b : Int) - 1)) (.own 901 2 q (decide (q = 0)))), (901, ⟨50, P.flatMap stV2, decide (q = 0), 2⟩), (22, bxM (.i 0) .nil)] ?_ <;> first | rfl | exact ⟨rfl, rfl, trivial⟩ | exact ⟨rfl, rfl, rfl, rfl, trivial⟩ | exact ⟨rfl, rfl, rfl, rfl, rfl, trivial⟩ | exact ⟨rfl, rfl, rfl, rfl, rfl, rfl, trivial⟩ | exact ⟨rfl, rfl, rfl, rfl, rfl, rfl, rfl, trivial⟩ | (simp [V.lowL, V.low]; done))
        rintro _ _ _ ⟨rfl, rfl, rfl⟩
        simp only [back, S.put, List.cons_append, List.nil_append, List.zip_cons_cons, List.zip_nil_left, List.drop_succ_cons, List.drop_zero, List.length_cons, List.length_nil, Nat.zero_add, Nat.reduceAdd]
        refine AN.br1 (i := 9) (by kernel_rfl) ?_
        refine BR.mk (l' := #[true, true, true, true, true, true, true, true, true, true, false, false, false, false, false]) rfl rfl rfl ?_
        try simp only [S.put, S.newObj, setL, V.cs, List.length_cons, List.length_nil, List.take_succ_cons, List.take_zero, List.drop_succ_cons, List.drop_zero, List.drop_nil, List.nil_append, List.cons_append, List.append_nil, Nat.zero_add, Nat.reduceAdd]
        refine ST.pc [0, 2, 3, 5, 13, 14, 20, 21, 23, 24, 25, 26, 27, 28, 29, 30, 31] (ts := [_, _, _, _, _, _, _, _, _, _, _, _, _, _, _, _, _]) (args := [_, _]) (post := ?pc8) ?hc8 rfl rfl rfl rfl rfl rfl rfl rfl rfl ?_
        case hc8 => (refine pc_take W3 W4 1 x4 b3 (by omega) (by decide) hx4 hW4 [(5, bxS (.i F) (.own 902 4 i (decide (i = 0)))), (902, ⟨54, A.flatMap arV2, decide (i = 0), 4⟩), (3, bxB (.b false)), (2, bxM (.i ((b : Int) - 1)) (.own 901 2 q (decide (q = 0)))), (901, ⟨50, P.flatMap stV2, decide (q = 0), 2⟩), (22, bxM (.i 0) .nil)] ?_ <;> first | rfl | exact ⟨rfl, rfl, trivial⟩ | exact ⟨rfl, rfl, rfl, rfl, trivial⟩ | exact ⟨rfl, rfl, rfl, rfl, rfl, trivial⟩ | exact ⟨rfl, rfl, rfl, rfl, rfl, rfl, trivial⟩ | exact ⟨rfl, rfl, rfl, rfl, rfl, rfl, rfl, trivial⟩ | (simp [V.lowL, V.low]; done))
        rintro _ _ _ ⟨rfl, rfl, rfl⟩
        simp only [back, S.put, List.cons_append, List.nil_append, List.zip_cons_cons, List.zip_nil_left, List.drop_succ_cons, List.drop_zero, List.length_cons, List.length_nil, Nat.zero_add, Nat.reduceAdd]
        refine AN.rp (i := 10) (l' := #[true, true, true, true, true, true, true, true, true, true, true, false, false, false, false]) rfl rfl rfl (fun _ _ h => h) (by kernel_rfl) rfl (rp_build (vs := [(0, _), (1, _), (2, _), (3, _)]) (zs := [.d (.p (.int .i64 0)), .d (.p (.int .i64 0)), .d (.p (.int .i64 0)), .d (.p (.int .i64 0))]) pl54 inf54 rfl rfl rfl rfl) ?_
        refine AN.br1 (i := 11) (by kernel_rfl) ?_
        refine BR.mk (l' := #[true, true, true, true, true, true, true, true, true, true, true, true, false, false, false]) rfl rfl rfl ?_
        refine ST.sm (sm_slice (vs := [(0, _)]) (zs := [.d (.p (.int .i64 0)), .d (.p (.int .i64 0)), .d (.p (.int .i64 0)), .d (.p (.int .i64 0))]) 910 Try.underlying48 inf54 rfl rfl (by decide) (by decide) (by decide) rfl rfl rfl rfl (by first | rfl | simp [S.clean, S.put, S.newObj, S.forget, V.has, V.hasL, junkIf, setL, V.cs, hasL_i, hasL_d, hasL_b, hasL_s, hasL_n, hasL_rep, hasL_flat, hasL_append, -List.map_set]) (by first | rfl | simp [S.clean, S.put, S.newObj, S.forget, V.has, V.hasL, junkIf, setL, V.cs, hasL_i, hasL_d, hasL_b, hasL_s, hasL_n, hasL_rep, hasL_flat, hasL_append, -List.map_set]) rfl) ?_
        refine AN.br1 (i := 12) (by kernel_rfl) ?_
        refine BR.mk (l' := #[true, true, true, true, true, true, true, true, true, true, true, true, true, false, false]) rfl rfl rfl ?_
        refine ST.st (st_appendF Try.underlying48 inf54 rfl (by decide) rfl rfl rfl rfl rfl rfl (by first | assumption | rfl | (simp; done)) (by first | rfl | simp [S.clean, S.put, S.newObj, S.forget, V.has, V.hasL, junkIf, setL, V.cs, hasL_i, hasL_d, hasL_b, hasL_s, hasL_n, hasL_rep, hasL_flat, hasL_append, -List.map_set]) rfl rfl rfl rfl rfl (by first | rfl | simp [S.clean, S.put, S.newObj, S.forget, V.has, V.hasL, junkIf, setL, V.cs, hasL_i, hasL_d, hasL_b, hasL_s, hasL_n, hasL_rep, hasL_flat, hasL_append, -List.map_set]) rfl (by decide) (by omega) (by omega) rfl) ?_
        simp only [S.forget, S.put, S.newObj, junkIf, V.has, V.hasL, hasL_i, hasL_b, hasL_s, hasL_d, hasL_n, hasL_rep, hasL_flat, hasL_append, List.map_cons, List.map_nil, List.filter_cons, List.filter_nil, Nat.reduceBNe, Nat.reduceBEq, eq_self, bne_self_eq_false,  Bool.not_true, Bool.not_false, Bool.or_false, Bool.or_true, Bool.false_or, Bool.true_or, if_true, if_false, Bool.false_eq_true, ite_true, ite_false, ↓reduceIte, beq_self_eq_true, Nat.reduceEqDiff]
        (first | (refine AN.rp (i := 13) (l' := #[true, true, true, true, true, true, true, true, true, true, true, true, true, true, false]) rfl rfl rfl (fun _ _ h => h) (by kernel_rfl) rfl (rp_field_ref Try.underlying50 rfl rfl rfl inf48 (by decide) rfl) ?_) | (refine AN.rp (i := 13) (l' := #[true, true, true, true, true, true, true, true, true, true, true, true, true, true, false]) rfl rfl rfl (fun _ _ h => h) (by kernel_rfl) rfl (rp_field_ad Try.underlying50 rfl rfl rfl inf48 (by decide) rfl) ?_))
        refine AN.br1 (i := 14) (by kernel_rfl) ?_
        refine BR.mk (l' := #[true, true, true, true, true, true, true, true, true, true, true, true, true, true, true]) rfl rfl rfl ?_
        (first | (refine ST.st (st_store_map2 inf48 rfl rfl rfl rfl rfl rfl rfl rfl (by first | assumption | omega)) ?_) | (refine ST.st (st_store inf48 rfl rfl rfl rfl rfl rfl rfl (by first | decide | (simp; done)) rfl) ?_))
        refine AN.nil (by kernel_rfl) ?_
        show Less _ _
        exact Less.dd _
       ·refine BR.mk (l' := #[true, false, true, true, true, false, true, false, true, false, false, false, false, false, false]) rfl rfl rfl ?_
        try simp only [S.put, S.newObj, setL, V.cs, List.length_cons, List.length_nil, List.take_succ_cons, List.take_zero, List.drop_succ_cons, List.drop_zero, List.drop_nil, List.nil_append, List.cons_append, List.append_nil, Nat.zero_add, Nat.reduceAdd]
        refine ST.pc [0, 2, 3, 5, 13, 14, 20, 21, 23, 25, 27, 29, 31] (ts := [_, _, _, _, _, _, _, _, _, _, _, _, _]) (args := [_, _]) (post := ?pc9) ?hc9 rfl rfl rfl rfl rfl rfl rfl rfl rfl ?_
        case hc9 => (refine pc_take W W1 2 x1 hWb (by omega) (by decide) hx1 hW1 [(5, bxS (.i F) (.own 902 4 i (decide (i = 0)))), (902, ⟨54, A.flatMap arV2, decide (i = 0), 4⟩), (3, bxB (.b false)), (2, bxM (.i ((b : Int) - 1)) (.own 901 2 q (decide (q = 0)))), (901, ⟨50, P.flatMap stV2, decide (q = 0), 2⟩), (22, bxM (.i 0) .nil)] ?_ <;> first | rfl | exact ⟨rfl, rfl, trivial⟩ | exact ⟨rfl, rfl, rfl, rfl, trivial⟩ | exact ⟨rfl, rfl, rfl, rfl, rfl, trivial⟩ | exact ⟨rfl, rfl, rfl, rfl, rfl, rfl, trivial⟩ | exact ⟨rfl, rfl, rfl, rfl, rfl, rfl, rfl, trivial⟩ | (simp [V.lowL, V.low]; done))
        rintro _ _ _ ⟨rfl, rfl, rfl⟩
        simp only [back, S.put, List.cons_append, List.nil_append, List.zip_cons_cons, List.zip_nil_left, List.drop_succ_cons, List.drop_zero, List.length_cons, List.length_nil, Nat.zero_add, Nat.reduceAdd]
        refine AN.br2 (i := 1) (j := 5) (by kernel_rfl) ?_ ?_
        ·refine BR.mk (l' := #[true, true, true, true, true, false, true, false, true, false, false, false, false, false, false]) rfl rfl rfl ?_
         (first | (refine ST.rd rfl (rd_load_ref Try.underlying48 rfl rfl rfl rfl rfl rfl) ?_) | (refine ST.rd rfl (rd_load_ad Try.underlying48 rfl rfl rfl rfl) ?_) | (refine ST.rd rfl (rd_load_map Try.underlying48 rfl rfl rfl rfl rfl rfl (by assumption)) ?_) | (refine ST.rd rfl (rd_load_flat Try.underlying48 rfl rfl rfl rfl rfl rfl (fun _ => rfl) (by assumption) rfl) ?_))
         refine AN.br1 (i := 5) (by kernel_rfl) ?_
         refine BR.mk (l' := #[true, true, true, true, true, true, true, false, true, false, false, false, false, false, false]) rfl rfl rfl ?_
         try simp only [S.put, S.newObj, setL, V.cs, List.length_cons, List.length_nil, List.take_succ_cons, List.take_zero, List.drop_succ_cons, List.drop_zero, List.drop_nil, List.nil_append, List.cons_append, List.append_nil, Nat.zero_add, Nat.reduceAdd]
         refine ST.pc [0, 2, 3, 5, 13, 14, 20, 21, 23, 24, 25, 26, 27, 29, 31] (ts := [_, _, _, _, _, _, _, _, _, _, _, _, _, _, _]) (args := [_, _]) (post := ?pc10) ?hc10 rfl rfl rfl rfl rfl rfl rfl rfl rfl ?_
         case hc10 => (refine pc_take W1 W2 2 x2 b1 (by omega) (by decide) hx2 hW2 [(5, bxS (.i F) (.own 902 4 i (decide (i = 0)))), (902, ⟨54, A.flatMap arV2, decide (i = 0), 4⟩), (3, bxB (.b false)), (2, bxM (.i ((b : Int) - 1)) (.own 901 2 q (decide (q = 0)))), (901, ⟨50, P.flatMap stV2, decide (q = 0), 2⟩), (22, bxM (.i 0) .nil)] ?_ <;> first | rfl | exact ⟨rfl, rfl, trivial⟩ | exact ⟨rfl, rfl, rfl, rfl, trivial⟩ | exact ⟨rfl, rfl, rfl, rfl, rfl, trivial⟩ | exact ⟨rfl, rfl, rfl, rfl, rfl, rfl, trivial⟩ | exact ⟨rfl, rfl, rfl, rfl, rfl, rfl, rfl, trivial⟩ | (simp [V.lowL, V.low]; done))
         rintro _ _ _ ⟨rfl, rfl, rfl⟩
         simp only [back, S.put, List.cons_append, List.nil_append, List.zip_cons_cons, List.zip_nil_left, List.drop_succ_cons, List.drop_zero, List.length_cons, List.length_nil, Nat.zero_add, Nat.reduceAdd]
         refine AN.br1 (i := 7) (by kernel_rfl) ?_
         refine BR.mk (l' := #[true, true, true, true, true, true, true, true, true, false, false, false, false, false, false]) rfl rfl rfl ?_
         try simp only [S.put, S.newObj, setL, V.cs, List.length_cons, List.length_nil, List.take_succ_cons, List.take_zero, List.drop_succ_cons, List.drop_zero, List.drop_nil, List.nil_append, List.cons_append, List.append_nil, Nat.zero_add, Nat.reduceAdd]
         refine ST.pc [0, 2, 3, 5, 13, 14, 20, 21, 23, 24, 25, 26, 27, 28, 29, 31] (ts := [_, _, _, _, _, _, _, _, _, _, _, _, _, _, _, _]) (args := [_, _]) (post := ?pc11) ?hc11 rfl rfl rfl rfl rfl rfl rfl rfl rfl ?_
         case hc11 => (refine pc_take W2 W3 4 x3 b2 (by omega) (by decide) hx3 hW3 [(5, bxS (.i F) (.own 902 4 i (decide (i = 0)))), (902, ⟨54, A.flatMap arV2, decide (i = 0), 4⟩), (3, bxB (.b false)), (2, bxM (.i ((b : Int) - 1)) (.own 901 2 q (decide (q = 0)))), (901, ⟨50, P.flatMap stV2, decide (q = 0), 2⟩), (22, bxM (.i 0) .nil)] ?_ <;> first | rfl | exact ⟨rfl, rfl, trivial⟩ | exact ⟨rfl, rfl, rfl, rfl, trivial⟩ | exact ⟨rfl, rfl, rfl, rfl, rfl, trivial⟩ | exact ⟨rfl, rfl, rfl, rfl, rfl, rfl, trivial⟩ | exact ⟨rfl, rfl, rfl, rfl, rfl, rfl, rfl, trivial⟩ | (simp [V.lowL, V.low]; done))
         rintro _ _ _ ⟨rfl, rfl, rfl⟩
         simp only [back, S.put, List.cons_append, List.nil_append, List.zip_cons_cons, List.zip_nil_left, List.drop_succ_cons, List.drop_zero, List.length_cons, List.length_nil, Nat.zero_add, Nat.reduceAdd]
         refine AN.br1 (i := 9) (by kernel_rfl) ?_
         refine BR.mk (l' := #[true, true, true, true, true, true, true, true, true, true, false, false, false, false, false]) rfl rfl rfl ?_
         try simp only [S.put, S.newObj, setL, V.cs, List.length_cons, List.length_nil, List.take_succ_cons, List.take_zero, List.drop_succ_cons, List.drop_zero, List.drop_nil, List.nil_append, List.cons_append, List.append_nil, Nat.zero_add, Nat.reduceAdd]
         refine ST.pc [0, 2, 3, 5, 13, 14, 20, 21, 23, 24, 25, 26, 27, 28, 29, 30, 31] (ts := [_, _, _, _, _, _, _, _, _, _, _, _, _, _, _, _, _]) (args := [_, _]) (post := ?pc12) ?hc12 rfl rfl rfl rfl rfl rfl rfl rfl rfl ?_
         case hc12 => (refine pc_take W3 W4 1 x4 b3 (by omega) (by decide) hx4 hW4 [(5, bxS (.i F) (.own 902 4 i (decide (i = 0)))), (902, ⟨54, A.flatMap arV2, decide (i = 0), 4⟩), (3, bxB (.b false)), (2, bxM (.i ((b : Int) - 1)) (.own 901 2 q (decide (q = 0)))), (901, ⟨50, P.flatMap stV2, decide (q = 0), 2⟩), (22, bxM (.i 0) .nil)] ?_ <;> first | rfl | exact ⟨rfl, rfl, trivial⟩ | exact ⟨rfl, rfl, rfl, rfl, trivial⟩ | exact ⟨rfl, rfl, rfl, rfl, rfl, trivial⟩ | exact ⟨rfl, rfl, rfl, rfl, rfl, rfl, trivial⟩ | exact ⟨rfl, rfl, rfl, rfl, rfl, rfl, rfl, trivial⟩ | (simp [V.lowL, V.low]; done))
         rintro _ _ _ ⟨rfl, rfl, rfl⟩
         simp only [back, S.put, List.cons_append, List.nil_append, List.zip_cons_cons, List.zip_nil_left, List.drop_succ_cons, List.drop_zero, List.length_cons, List.length_nil, Nat.zero_add, Nat.reduceAdd]
         refine AN.rp (i := 10) (l' := #[true, true, true, true, true, true, true, true, true, true, true, false, false, false, false]) rfl rfl rfl (fun _ _ h => h) (by kernel_rfl) rfl (rp_build (vs := [(0, _), (1, _), (2, _), (3, _)]) (zs := [.d (.p (.int .i64 0)), .d (.p (.int .i64 0)), .d (.p (.int .i64 0)), .d (.p (.int .i64 0))]) pl54 inf54 rfl rfl rfl rfl) ?_
         refine AN.br1 (i := 11) (by kernel_rfl) ?_
         refine BR.mk (l' := #[true, true, true, true, true, true, true, true, true, true, true, true, false, false, false]) rfl rfl rfl ?_
         refine ST.sm (sm_slice (vs := [(0, _)]) (zs := [.d (.p (.int .i64 0)), .d (.p (.int .i64 0)), .d (.p (.int .i64 0)), .d (.p (.int .i64 0))]) 910 Try.underlying48 inf54 rfl rfl (by decide) (by decide) (by decide) rfl rfl rfl rfl (by first | rfl | simp [S.clean, S.put, S.newObj, S.forget, V.has, V.hasL, junkIf, setL, V.cs, hasL_i, hasL_d, hasL_b, hasL_s, hasL_n, hasL_rep, hasL_flat, hasL_append, -List.map_set]) (by first | rfl | simp [S.clean, S.put, S.newObj, S.forget, V.has, V.hasL, junkIf, setL, V.cs, hasL_i, hasL_d, hasL_b, hasL_s, hasL_n, hasL_rep, hasL_flat, hasL_append, -List.map_set]) rfl) ?_
         refine AN.br1 (i := 12) (by kernel_rfl) ?_
         refine BR.mk (l' := #[true, true, true, true, true, true, true, true, true, true, true, true, true, false, false]) rfl rfl rfl ?_
         refine ST.st (st_appendF Try.underlying48 inf54 rfl (by decide) rfl rfl rfl rfl rfl rfl (by first | assumption | rfl | (simp; done)) (by first | rfl | simp [S.clean, S.put, S.newObj, S.forget, V.has, V.hasL, junkIf, setL, V.cs, hasL_i, hasL_d, hasL_b, hasL_s, hasL_n, hasL_rep, hasL_flat, hasL_append, -List.map_set]) rfl rfl rfl rfl rfl (by first | rfl | simp [S.clean, S.put, S.newObj, S.forget, V.has, V.hasL, junkIf, setL, V.cs, hasL_i, hasL_d, hasL_b, hasL_s, hasL_n, hasL_rep, hasL_flat, hasL_append, -List.map_set]) rfl (by decide) (by omega) (by omega) rfl) ?_
         simp only [S.forget, S.put, S.newObj, junkIf, V.has, V.hasL, hasL_i, hasL_b, hasL_s, hasL_d, hasL_n, hasL_rep, hasL_flat, hasL_append, List.map_cons, List.map_nil, List.filter_cons, List.filter_nil, Nat.reduceBNe, Nat.reduceBEq, eq_self, bne_self_eq_false,  Bool.not_true, Bool.not_false, Bool.or_false, Bool.or_true, Bool.false_or, Bool.true_or, if_true, if_false, Bool.false_eq_true, ite_true, ite_false, ↓reduceIte, beq_self_eq_true, Nat.reduceEqDiff]
         (first | (refine AN.rp (i := 13) (l' := #[true, true, true, true, true, true, true, true, true, true, true, true, true, true, false]) rfl rfl rfl (fun _ _ h => h) (by kernel_rfl) rfl (rp_field_ref Try.underlying50 rfl rfl rfl inf48 (by decide) rfl) ?_) | (refine AN.rp (i := 13) (l' := #[true, true, true, true, true, true, true, true, true, true, true, true, true, true, false]) rfl rfl rfl (fun _ _ h => h) (by kernel_rfl) rfl (rp_field_ad Try.underlying50 rfl rfl rfl inf48 (by decide) rfl) ?_))
         refine AN.br1 (i := 14) (by kernel_rfl) ?_
         refine BR.mk (l' := #[true, true, true, true, true, true, true, true, true, true, true, true, true, true, true]) rfl rfl rfl ?_
         (first | (refine ST.st (st_store_map2 inf48 rfl rfl rfl rfl rfl rfl rfl rfl (by first | assumption | omega)) ?_) | (refine ST.st (st_store inf48 rfl rfl rfl rfl rfl rfl rfl (by first | decide | (simp; done)) rfl) ?_))
         refine AN.nil (by kernel_rfl) ?_
         show Less _ _
         (try simp only [S.put, S.newObj, setL, V.cs, List.length_cons, List.length_nil, List.take_succ_cons, List.take_zero, List.drop_succ_cons, List.drop_zero, List.drop_nil, List.nil_append, List.cons_append, List.append_nil, Nat.zero_add, Nat.reduceAdd, List.map_cons, List.map_nil, List.set_cons_zero, List.set_cons_succ])
         try simp only [S.dd, ddL, List.contains_cons, List.contains_nil, Nat.reduceBEq, beq_self_eq_true, Bool.or_false, Bool.or_true, Bool.false_or, Bool.true_or, Bool.or_self, if_true, if_false, Bool.false_eq_true, ↓reduceIte]
         exact (Less.of rfl (by repeat (first | exact trivial | refine ⟨⟨_, rfl, Wk.refl _⟩, ?_⟩)) (by repeat (first | exact trivial | refine ⟨rfl, ?_⟩)) rfl)
        ·refine BR.mk (l' := #[true, false, true, true, true, true, true, false, true, false, false, false, false, false, false]) rfl rfl rfl ?_
         try simp only [S.put, S.newObj, setL, V.cs, List.length_cons, List.length_nil, List.take_succ_cons, List.take_zero, List.drop_succ_cons, List.drop_zero, List.drop_nil, List.nil_append, List.cons_append, List.append_nil, Nat.zero_add, Nat.reduceAdd]
         refine ST.pc [0, 2, 3, 5, 13, 14, 20, 21, 23, 25, 26, 27, 29, 31] (ts := [_, _, _, _, _, _, _, _, _, _, _, _, _, _]) (args := [_, _]) (post := ?pc13) ?hc13 rfl rfl rfl rfl rfl rfl rfl rfl rfl ?_
         case hc13 => (refine pc_take W1 W2 2 x2 b1 (by omega) (by decide) hx2 hW2 [(5, bxS (.i F) (.own 902 4 i (decide (i = 0)))), (902, ⟨54, A.flatMap arV2, decide (i = 0), 4⟩), (3, bxB (.b false)), (2, bxM (.i ((b : Int) - 1)) (.own 901 2 q (decide (q = 0)))), (901, ⟨50, P.flatMap stV2, decide (q = 0), 2⟩), (22, bxM (.i 0) .nil)] ?_ <;> first | rfl | exact ⟨rfl, rfl, trivial⟩ | exact ⟨rfl, rfl, rfl, rfl, trivial⟩ | exact ⟨rfl, rfl, rfl, rfl, rfl, trivial⟩ | exact ⟨rfl, rfl, rfl, rfl, rfl, rfl, trivial⟩ | exact ⟨rfl, rfl, rfl, rfl, rfl, rfl, rfl, trivial⟩ | (simp [V.lowL, V.low]; done))
         rintro _ _ _ ⟨rfl, rfl, rfl⟩
         simp only [back, S.put, List.cons_append, List.nil_append, List.zip_cons_cons, List.zip_nil_left, List.drop_succ_cons, List.drop_zero, List.length_cons, List.length_nil, Nat.zero_add, Nat.reduceAdd]
         refine AN.br2 (i := 1) (j := 7) (by kernel_rfl) ?_ ?_
         ·refine BR.mk (l' := #[true, true, true, true, true, true, true, false, true, false, false, false, false, false, false]) rfl rfl rfl ?_
          (first | (refine ST.rd rfl (rd_load_ref Try.underlying48 rfl rfl rfl rfl rfl rfl) ?_) | (refine ST.rd rfl (rd_load_ad Try.underlying48 rfl rfl rfl rfl) ?_) | (refine ST.rd rfl (rd_load_map Try.underlying48 rfl rfl rfl rfl rfl rfl (by assumption)) ?_) | (refine ST.rd rfl (rd_load_flat Try.underlying48 rfl rfl rfl rfl rfl rfl (fun _ => rfl) (by assumption) rfl) ?_))
          refine AN.br1 (i := 7) (by kernel_rfl) ?_
          refine BR.mk (l' := #[true, true, true, true, true, true, true, true, true, false, false, false, false, false, false]) rfl rfl rfl ?_
          try simp only [S.put, S.newObj, setL, V.cs, List.length_cons, List.length_nil, List.take_succ_cons, List.take_zero, List.drop_succ_cons, List.drop_zero, List.drop_nil, List.nil_append, List.cons_append, List.append_nil, Nat.zero_add, Nat.reduceAdd]
          refine ST.pc [0, 2, 3, 5, 13, 14, 20, 21, 23, 24, 25, 26, 27, 28, 29, 31] (ts := [_, _, _, _, _, _, _, _, _, _, _, _, _, _, _, _]) (args := [_, _]) (post := ?pc14) ?hc14 rfl rfl rfl rfl rfl rfl rfl rfl rfl ?_
          case hc14 => (refine pc_take W2 W3 4 x3 b2 (by omega) (by decide) hx3 hW3 [(5, bxS (.i F) (.own 902 4 i (decide (i = 0)))), (902, ⟨54, A.flatMap arV2, decide (i = 0), 4⟩), (3, bxB (.b false)), (2, bxM (.i ((b : Int) - 1)) (.own 901 2 q (decide (q = 0)))), (901, ⟨50, P.flatMap stV2, decide (q = 0), 2⟩), (22, bxM (.i 0) .nil)] ?_ <;> first | rfl | exact ⟨rfl, rfl, trivial⟩ | exact ⟨rfl, rfl, rfl, rfl, trivial⟩ | exact ⟨rfl, rfl, rfl, rfl, rfl, trivial⟩ | exact ⟨rfl, rfl, rfl, rfl, rfl, rfl, trivial⟩ | exact ⟨rfl, rfl, rfl, rfl, rfl, rfl, rfl, trivial⟩ | (simp [V.lowL, V.low]; done))
          rintro _ _ _ ⟨rfl, rfl, rfl⟩
          simp only [back, S.put, List.cons_append, List.nil_append, List.zip_cons_cons, List.zip_nil_left, List.drop_succ_cons, List.drop_zero, List.length_cons, List.length_nil, Nat.zero_add, Nat.reduceAdd]
          refine AN.br1 (i := 9) (by kernel_rfl) ?_
          refine BR.mk (l' := #[true, true, true, true, true, true, true, true, true, true, false, false, false, false, false]) rfl rfl rfl ?_
          try simp only [S.put, S.newObj, setL, V.cs, List.length_cons, List.length_nil, List.take_succ_cons, List.take_zero, List.drop_succ_cons, List.drop_zero, List.drop_nil, List.nil_append, List.cons_append, List.append_nil, Nat.zero_add, Nat.reduceAdd]
          refine ST.pc [0, 2, 3, 5, 13, 14, 20, 21, 23, 24, 25, 26, 27, 28, 29, 30, 31] (ts := [_, _, _, _, _, _, _, _, _, _, _, _, _, _, _, _, _]) (args := [_, _]) (post := ?pc15) ?hc15 rfl rfl rfl rfl rfl rfl rfl rfl rfl ?_
          case hc15 => (refine pc_take W3 W4 1 x4 b3 (by omega) (by decide) hx4 hW4 [(5, bxS (.i F) (.own 902 4 i (decide (i = 0)))), (902, ⟨54, A.flatMap arV2, decide (i = 0), 4⟩), (3, bxB (.b false)), (2, bxM (.i ((b : Int) - 1)) (.own 901 2 q (decide (q = 0)))), (901, ⟨50, P.flatMap stV2, decide (q = 0), 2⟩), (22, bxM (.i 0) .nil)] ?_ <;> first | rfl | exact ⟨rfl, rfl, trivial⟩ | exact ⟨rfl, rfl, rfl, rfl, trivial⟩ | exact ⟨rfl, rfl, rfl, rfl, rfl, trivial⟩ | exact ⟨rfl, rfl, rfl, rfl, rfl, rfl, trivial⟩ | exact ⟨rfl, rfl, rfl, rfl, rfl, rfl, rfl, trivial⟩ | (simp [V.lowL, V.low]; done))
          rintro _ _ _ ⟨rfl, rfl, rfl⟩
          simp only [back, S.put, List.cons_append, List.nil_append, List.zip_cons_cons, List.zip_nil_left, List.drop_succ_cons, List.drop_zero, List.length_cons, List.length_nil, Nat.zero_add, Nat.reduceAdd]
          refine AN.rp (i := 10) (l' := #[true, true, true, true, true, true, true, true, true, true, true, false, false, false, false]) rfl rfl rfl (fun _ _ h => h) (by kernel_rfl) rfl (rp_build (vs := [(0, _), (1, _), (2, _), (3, _)]) (zs := [.d (.p (.int .i64 0)), .d (.p (.int .i64 0)), .d (.p (.int .i64 0)), .d (.p (.int .i64 0))]) pl54 inf54 rfl rfl rfl rfl) ?_
          refine AN.br1 (i := 11) (by kernel_rfl) ?_
          refine BR.mk (l' := #[true, true, true, true, true, true, true, true, true, true, true, true, false, false, false]) rfl rfl rfl ?_
          refine ST.sm (sm_slice (vs := [(0, _)]) (zs := [.d (.p (.int .i64 0)), .d (.p (.int .i64 0)), .d (.p (.int .i64 0)), .d (.p (.int .i64 0))]) 910 Try.underlying48 inf54 rfl rfl (by decide) (by decide) (by decide) rfl rfl rfl rfl (by first | rfl | simp [S.clean, S.put, S.newObj, S.forget, V.has, V.hasL, junkIf, setL, V.cs, hasL_i, hasL_d, hasL_b, hasL_s, hasL_n, hasL_rep, hasL_flat, hasL_append, -List.map_set]) (by first | rfl | simp [S.clean, S.put, S.newObj, S.forget, V.has, V.hasL, junkIf, setL, V.cs, hasL_i, hasL_d, hasL_b, hasL_s, hasL_n, hasL_rep, hasL_flat, hasL_append, -List.map_set]) rfl) ?_
          refine AN.br1 (i := 12) (by kernel_rfl) ?_
          refine BR.mk (l' := #[true, true, true, true, true, true, true, true, true, true, true, true, true, false, false]) rfl rfl rfl ?_
          refine ST.st (st_appendF Try.underlying48 inf54 rfl (by decide) rfl rfl rfl rfl rfl rfl (by first | assumption | rfl | (simp; done)) (by first | rfl | simp [S.clean, S.put, S.newObj, S.forget, V.has, V.hasL, junkIf, setL, V.cs, hasL_i, hasL_d, hasL_b, hasL_s, hasL_n, hasL_rep, hasL_flat, hasL_append, -List.map_set]) rfl rfl rfl rfl rfl (by first | rfl | simp [S.clean, S.put, S.newObj, S.forget, V.has, V.hasL, junkIf, setL, V.cs, hasL_i, hasL_d, hasL_b, hasL_s, hasL_n, hasL_rep, hasL_flat, hasL_append, -List.map_set]) rfl (by decide) (by omega) (by omega) rfl) ?_
          simp only [S.forget, S.put, S.newObj, junkIf, V.has, V.hasL, hasL_i, hasL_b, hasL_s, hasL_d, hasL_n, hasL_rep, hasL_flat, hasL_append, List.map_cons, List.map_nil, List.filter_cons, List.filter_nil, Nat.reduceBNe, Nat.reduceBEq, eq_self, bne_self_eq_false,  Bool.not_true, Bool.not_false, Bool.or_false, Bool.or_true, Bool.false_or, Bool.true_or, if_true, if_false, Bool.false_eq_true, ite_true, ite_false, ↓reduceIte, beq_self_eq_true, Nat.reduceEqDiff]
          (first | (refine AN.rp (i := 13) (l' := #[true, true, true, true, true, true, true, true, true, true, true, true, true, true, false]) rfl rfl rfl (fun _ _ h => h) (by kernel_rfl) rfl (rp_field_ref Try.underlying50 rfl rfl rfl inf48 (by decide) rfl) ?_) | (refine AN.rp (i := 13) (l' := #[true, true, true, true, true, true, true, true, true, true, true, true, true, true, false]) rfl rfl rfl (fun _ _ h => h) (by kernel_rfl) rfl (rp_field_ad Try.underlying50 rfl rfl rfl inf48 (by decide) rfl) ?_))
          refine AN.br1 (i := 14) (by kernel_rfl) ?_
          refine BR.mk (l' := #[true, true, true, true, true, true, true, true, true, true, true, true, true, true, true]) rfl rfl rfl ?_
          (first | (refine ST.st (st_store_map2 inf48 rfl rfl rfl rfl rfl rfl rfl rfl (by first | assumption | omega)) ?_) | (refine ST.st (st_store inf48 rfl rfl rfl rfl rfl rfl rfl (by first | decide | (simp; done)) rfl) ?_))
          refine AN.nil (by kernel_rfl) ?_
          show Less _ _
          (try simp only [S.put, S.newObj, setL, V.cs, List.length_cons, List.length_nil, List.take_succ_cons, List.take_zero, List.drop_succ_cons, List.drop_zero, List.drop_nil, List.nil_append, List.cons_append, List.append_nil, Nat.zero_add, Nat.reduceAdd, List.map_cons, List.map_nil, List.set_cons_zero, List.set_cons_succ])
          try simp only [S.dd, ddL, List.contains_cons, List.contains_nil, Nat.reduceBEq, beq_self_eq_true, Bool.or_false, Bool.or_true, Bool.false_or, Bool.true_or, Bool.or_self, if_true, if_false, Bool.false_eq_true, ↓reduceIte]
          exact (Less.of rfl (by repeat (first | exact trivial | refine ⟨⟨_, rfl, Wk.refl _⟩, ?_⟩)) (by repeat (first | exact trivial | refine ⟨rfl, ?_⟩)) rfl)
         ·refine BR.mk (l' := #[true, false, true, true, true, true, true, true, true, false, false, false, false, false, false]) rfl rfl rfl ?_
          try simp only [S.put, S.newObj, setL, V.cs, List.length_cons, List.length_nil, List.take_succ_cons, List.take_zero, List.drop_succ_cons, List.drop_zero, List.drop_nil, List.nil_append, List.cons_append, List.append_nil, Nat.zero_add, Nat.reduceAdd]
          refine ST.pc [0, 2, 3, 5, 13, 14, 20, 21, 23, 25, 26, 27, 28, 29, 31] (ts := [_, _, _, _, _, _, _, _, _, _, _, _, _, _, _]) (args := [_, _]) (post := ?pc16) ?hc16 rfl rfl rfl rfl rfl rfl rfl rfl rfl ?_
          case hc16 => (refine pc_take W2 W3 4 x3 b2 (by omega) (by decide) hx3 hW3 [(5, bxS (.i F) (.own 902 4 i (decide (i = 0)))), (902, ⟨54, A.flatMap arV2, decide (i = 0), 4⟩), (3, bxB (.b false)), (2, bxM (.i ((b : Int) - 1)) (.own 901 2 q (decide (q = 0)))), (901, ⟨50, P.flatMap stV2, decide (q = 0), 2⟩), (22, bxM (.i 0) .nil)] ?_ <;> first | rfl | exact ⟨rfl, rfl, trivial⟩ | exact ⟨rfl, rfl, rfl, rfl, trivial⟩ | exact ⟨rfl, rfl, rfl, rfl, rfl, trivial⟩ | exact ⟨rfl, rfl, rfl, rfl, rfl, rfl, trivial⟩ | exact ⟨rfl, rfl, rfl, rfl, rfl, rfl, rfl, trivial⟩ | (simp [V.lowL, V.low]; done))
          rintro _ _ _ ⟨rfl, rfl, rfl⟩
          simp only [back, S.put, List.cons_append, List.nil_append, List.zip_cons_cons, List.zip_nil_left, List.drop_succ_cons, List.drop_zero, List.length_cons, List.length_nil, Nat.zero_add, Nat.reduceAdd]
          refine AN.br2 (i := 1) (j := 9) (by kernel_rfl) ?_ ?_
          ·refine BR.mk (l' := #[true, true, true, true, true, true, true, true, true, false, false, false, false, false, false]) rfl rfl rfl ?_
           (first | (refine ST.rd rfl (rd_load_ref Try.underlying48 rfl rfl rfl rfl rfl rfl) ?_) | (refine ST.rd rfl (rd_load_ad Try.underlying48 rfl rfl rfl rfl) ?_) | (refine ST.rd rfl (rd_load_map Try.underlying48 rfl rfl rfl rfl rfl rfl (by assumption)) ?_) | (refine ST.rd rfl (rd_load_flat Try.underlying48 rfl rfl rfl rfl rfl rfl (fun _ => rfl) (by assumption) rfl) ?_))
           refine AN.br1 (i := 9) (by kernel_rfl) ?_
           refine BR.mk (l' := #[true, true, true, true, true, true, true, true, true, true, false, false, false, false, false]) rfl rfl rfl ?_
           try simp only [S.put, S.newObj, setL, V.cs, List.length_cons, List.length_nil, List.take_succ_cons, List.take_zero, List.drop_succ_cons, List.drop_zero, List.drop_nil, List.nil_append, List.cons_append, List.append_nil, Nat.zero_add, Nat.reduceAdd]
           refine ST.pc [0, 2, 3, 5, 13, 14, 20, 21, 23, 24, 25, 26, 27, 28, 29, 30, 31] (ts := [_, _, _, _, _, _, _, _, _, _, _, _, _, _, _, _, _]) (args := [_, _]) (post := ?pc17) ?hc17 rfl rfl rfl rfl rfl rfl rfl rfl rfl ?_
           case hc17 => (refine pc_take W3 W4 1 x4 b3 (by omega) (by decide) hx4 hW4 [(5, bxS (.i F) (.own 902 4 i (decide (i = 0)))), (902, ⟨54, A.flatMap arV2, decide (i = 0), 4⟩), (3, bxB (.b false)), (2, bxM (.i ((b : Int) - 1)) (.own 901 2 q (decide (q = 0)))), (901, ⟨50, P.flatMap stV2, decide (q = 0), 2⟩), (22, bxM (.i 0) .nil)] ?_ <;> first | rfl | exact ⟨rfl, rfl, trivial⟩ | exact ⟨rfl, rfl, rfl, rfl, trivial⟩ | exact ⟨rfl, rfl, rfl, rfl, rfl, trivial⟩ | exact ⟨rfl, rfl, rfl, rfl, rfl, rfl, trivial⟩ | exact ⟨rfl, rfl, rfl, rfl, rfl, rfl, rfl, trivial⟩ | (simp [V.lowL, V.low]; done))
           rintro _ _ _ ⟨rfl, rfl, rfl⟩
           simp only [back, S.put, List.cons_append, List.nil_append, List.zip_cons_cons, List.zip_nil_left, List.drop_succ_cons, List.drop_zero, List.length_cons, List.length_nil, Nat.zero_add, Nat.reduceAdd]
           refine AN.rp (i := 10) (l' := #[true, true, true, true, true, true, true, true, true, true, true, false, false, false, false]) rfl rfl rfl (fun _ _ h => h) (by kernel_rfl) rfl (rp_build (vs := [(0, _), (1, _), (2, _), (3, _)]) (zs := [.d (.p (.int .i64 0)), .d (.p (.int .i64 0)), .d (.p (.int .i64 0)), .d (.p (.int .i64 0))]) pl54 inf54 rfl rfl rfl rfl) ?_
           refine AN.br1 (i := 11) (by kernel_rfl) ?_
           refine BR.mk (l' := #[true, true, true, true, true, true, true, true, true, true, true, true, false, false, false]) rfl rfl rfl ?_
           refine ST.sm (sm_slice (vs := [(0, _)]) (zs := [.d (.p (.int .i64 0)), .d (.p (.int .i64 0)), .d (.p (.int .i64 0)), .d (.p (.int .i64 0))]) 910 Try.underlying48 inf54 rfl rfl (by decide) (by decide) (by decide) rfl rfl rfl rfl (by first | rfl | simp [S.clean, S.put, S.newObj, S.forget, V.has, V.hasL, junkIf, setL, V.cs, hasL_i, hasL_d, hasL_b, hasL_s, hasL_n, hasL_rep, hasL_flat, hasL_append, -List.map_set]) (by first | rfl | simp [S.clean, S.put, S.newObj, S.forget, V.has, V.hasL, junkIf, setL, V.cs, hasL_i, hasL_d, hasL_b, hasL_s, hasL_n, hasL_rep, hasL_flat, hasL_append, -List.map_set]) rfl) ?_
           refine AN.br1 (i := 12) (by kernel_rfl) ?_
           refine BR.mk (l' := #[true, true, true, true, true, true, true, true, true, true, true, true, true, false, false]) rfl rfl rfl ?_
           refine ST.st (st_appendF Try.underlying48 inf54 rfl (by decide) rfl rfl rfl rfl rfl rfl (by first | assumption | rfl | (simp; done)) (by first | rfl | simp [S.clean, S.put, S.newObj, S.forget, V.has, V.hasL, junkIf, setL, V.cs, hasL_i, hasL_d, hasL_b, hasL_s, hasL_n, hasL_rep, hasL_flat, hasL_append, -List.map_set]) rfl rfl rfl rfl rfl (by first | rfl | simp [S.clean, S.put, S.newObj, S.forget, V.has, V.hasL, junkIf, setL, V.cs, hasL_i, hasL_d, hasL_b, hasL_s, hasL_n, hasL_rep, hasL_flat, hasL_append, -List.map_set]) rfl (by decide) (by omega) (by omega) rfl) ?_
           simp only [S.forget, S.put, S.newObj, junkIf, V.has, V.hasL, hasL_i, hasL_b, hasL_s, hasL_d, hasL_n, hasL_rep, hasL_flat, hasL_append, List.map_cons, List.map_nil, List.filter_cons, List.filter_nil, Nat.reduceBNe, Nat.reduceBEq, eq_self, bne_self_eq_false,  Bool.not_true, Bool.not_false, Bool.or_false, Bool.or_true, Bool.false_or, Bool.true_or, if_true, if_false, Bool.false_eq_true, ite_true, ite_false, ↓reduceIte, beq_self_eq_true, Nat.reduceEqDiff]
           (first | (refine AN.rp (i := 13) (l' := #[true, true, true, true, true, true, true, true, true, true, true, true, true, true, false]) rfl rfl rfl (fun _ _ h => h) (by kernel_rfl) rfl (rp_field_ref Try.underlying50 rfl rfl rfl inf48 (by decide) rfl) ?_) | (refine AN.rp (i := 13) (l' := #[true, true, true, true, true, true, true, true, true, true, true, true, true, true, false]) rfl rfl rfl (fun _ _ h => h) (by kernel_rfl) rfl (rp_field_ad Try.underlying50 rfl rfl rfl inf48 (by decide) rfl) ?_))
           refine AN.br1 (i := 14) (by kernel_rfl) ?_
           refine BR.mk (l' := #[true, true, true, true, true, true, true, true, true, true, true, true, true, true, true]) rfl rfl rfl ?_
           (first | (refine ST.st (st_store_map2 inf48 rfl rfl rfl rfl rfl rfl rfl rfl (by first | assumption | omega)) ?_) | (refine ST.st (st_store inf48 rfl rfl rfl rfl rfl rfl rfl (by first | decide | (simp; done)) rfl) ?_))
           refine AN.nil (by kernel_rfl) ?_
           show Less _ _
           (try simp only [S.put, S.newObj, setL, V.cs, List.length_cons, List.length_nil, List.take_succ_cons, List.take_zero, List.drop_succ_cons, List.drop_zero, List.drop_nil, List.nil_append, List.cons_append, List.append_nil, Nat.zero_add, Nat.reduceAdd, List.map_cons, List.map_nil, List.set_cons_zero, List.set_cons_succ])
           try simp only [S.dd, ddL, List.contains_cons, List.contains_nil, Nat.reduceBEq, beq_self_eq_true, Bool.or_false, Bool.or_true, Bool.false_or, Bool.true_or, Bool.or_self, if_true, if_false, Bool.false_eq_true, ↓reduceIte]
           exact (Less.of rfl (by repeat (first | exact trivial | refine ⟨⟨_, rfl, Wk.refl _⟩, ?_⟩)) (by repeat (first | exact trivial | refine ⟨rfl, ?_⟩)) rfl)
          ·refine BR.mk (l' := #[true, false, true, true, true, true, true, true, true, true, false, false, false, false, false]) rfl rfl rfl ?_
           try simp only [S.put, S.newObj, setL, V.cs, List.length_cons, List.length_nil, List.take_succ_cons, List.take_zero, List.drop_succ_cons, List.drop_zero, List.drop_nil, List.nil_append, List.cons_append, List.append_nil, Nat.zero_add, Nat.reduceAdd]
           refine ST.pc [0, 2, 3, 5, 13, 14, 20, 21, 23, 25, 26, 27, 28, 29, 30, 31] (ts := [_, _, _, _, _, _, _, _, _, _, _, _, _, _, _, _]) (args := [_, _]) (post := ?pc18) ?hc18 rfl rfl rfl rfl rfl rfl rfl rfl rfl ?_
           case hc18 => (refine pc_take W3 W4 1 x4 b3 (by omega) (by decide) hx4 hW4 [(5, bxS (.i F) (.own 902 4 i (decide (i = 0)))), (902, ⟨54, A.flatMap arV2, decide (i = 0), 4⟩), (3, bxB (.b false)), (2, bxM (.i ((b : Int) - 1)) (.own 901 2 q (decide (q = 0)))), (901, ⟨50, P.flatMap stV2, decide (q = 0), 2⟩), (22, bxM (.i 0) .nil)] ?_ <;> first | rfl | exact ⟨rfl, rfl, trivial⟩ | exact ⟨rfl, rfl, rfl, rfl, trivial⟩ | exact ⟨rfl, rfl, rfl, rfl, rfl, trivial⟩ | exact ⟨rfl, rfl, rfl, rfl, rfl, rfl, trivial⟩ | exact ⟨rfl, rfl, rfl, rfl, rfl, rfl, rfl, trivial⟩ | (simp [V.lowL, V.low]; done))
           rintro _ _ _ ⟨rfl, rfl, rfl⟩
           simp only [back, S.put, List.cons_append, List.nil_append, List.zip_cons_cons, List.zip_nil_left, List.drop_succ_cons, List.drop_zero, List.length_cons, List.length_nil, Nat.zero_add, Nat.reduceAdd]
           refine AN.rp (i := 10) (l' := #[true, false, true, true, true, true, true, true, true, true, true, false, false, false, false]) rfl rfl rfl (fun _ _ h => h) (by kernel_rfl) rfl (rp_build (vs := [(0, _), (1, _), (2, _), (3, _)]) (zs := [.d (.p (.int .i64 0)), .d (.p (.int .i64 0)), .d (.p (.int .i64 0)), .d (.p (.int .i64 0))]) pl54 inf54 rfl rfl rfl rfl) ?_
           refine AN.br2 (i := 1) (j := 11) (by kernel_rfl) ?_ ?_
           ·refine BR.mk (l' := #[true, true, true, true, true, true, true, true, true, true, true, false, false, false, false]) rfl rfl rfl ?_
            (first | (refine ST.rd rfl (rd_load_ref Try.underlying48 rfl rfl rfl rfl rfl rfl) ?_) | (refine ST.rd rfl (rd_load_ad Try.underlying48 rfl rfl rfl rfl) ?_) | (refine ST.rd rfl (rd_load_map Try.underlying48 rfl rfl rfl rfl rfl rfl (by assumption)) ?_) | (refine ST.rd rfl (rd_load_flat Try.underlying48 rfl rfl rfl rfl rfl rfl (fun _ => rfl) (by assumption) rfl) ?_))
            refine AN.br1 (i := 11) (by kernel_rfl) ?_
            refine BR.mk (l' := #[true, true, true, true, true, true, true, true, true, true, true, true, false, false, false]) rfl rfl rfl ?_
            refine ST.sm (sm_slice (vs := [(0, _)]) (zs := [.d (.p (.int .i64 0)), .d (.p (.int .i64 0)), .d (.p (.int .i64 0)), .d (.p (.int .i64 0))]) 910 Try.underlying48 inf54 rfl rfl (by decide) (by decide) (by decide) rfl rfl rfl rfl (by first | rfl | simp [S.clean, S.put, S.newObj, S.forget, V.has, V.hasL, junkIf, setL, V.cs, hasL_i, hasL_d, hasL_b, hasL_s, hasL_n, hasL_rep, hasL_flat, hasL_append, -List.map_set]) (by first | rfl | simp [S.clean, S.put, S.newObj, S.forget, V.has, V.hasL, junkIf, setL, V.cs, hasL_i, hasL_d, hasL_b, hasL_s, hasL_n, hasL_rep, hasL_flat, hasL_append, -List.map_set]) rfl) ?_
            refine AN.br1 (i := 12) (by kernel_rfl) ?_
            refine BR.mk (l' := #[true, true, true, true, true, true, true, true, true, true, true, true, true, false, false]) rfl rfl rfl ?_
            refine ST.st (st_appendF Try.underlying48 inf54 rfl (by decide) rfl rfl rfl rfl rfl rfl (by first | assumption | rfl | (simp; done)) (by first | rfl | simp [S.clean, S.put, S.newObj, S.forget, V.has, V.hasL, junkIf, setL, V.cs, hasL_i, hasL_d, hasL_b, hasL_s, hasL_n, hasL_rep, hasL_flat, hasL_append, -List.map_set]) rfl rfl rfl rfl rfl (by first | rfl | simp [S.clean, S.put, S.newObj, S.forget, V.has, V.hasL, junkIf, setL, V.cs, hasL_i, hasL_d, hasL_b, hasL_s, hasL_n, hasL_rep, hasL_flat, hasL_append, -List.map_set]) rfl (by decide) (by omega) (by omega) rfl) ?_
            simp only [S.forget, S.put, S.newObj, junkIf, V.has, V.hasL, hasL_i, hasL_b, hasL_s, hasL_d, hasL_n, hasL_rep, hasL_flat, hasL_append, List.map_cons, List.map_nil, List.filter_cons, List.filter_nil, Nat.reduceBNe, Nat.reduceBEq, eq_self, bne_self_eq_false,  Bool.not_true, Bool.not_false, Bool.or_false, Bool.or_true, Bool.false_or, Bool.true_or, if_true, if_false, Bool.false_eq_true, ite_true, ite_false, ↓reduceIte, beq_self_eq_true, Nat.reduceEqDiff]
            (first | (refine AN.rp (i := 13) (l' := #[true, true, true, true, true, true, true, true, true, true, true, true, true, true, false]) rfl rfl rfl (fun _ _ h => h) (by kernel_rfl) rfl (rp_field_ref Try.underlying50 rfl rfl rfl inf48 (by decide) rfl) ?_) | (refine AN.rp (i := 13) (l' := #[true, true, true, true, true, true, true, true, true, true, true, true, true, true, false]) rfl rfl rfl (fun _ _ h => h) (by kernel_rfl) rfl (rp_field_ad Try.underlying50 rfl rfl rfl inf48 (by decide) rfl) ?_))
            refine AN.br1 (i := 14) (by kernel_rfl) ?_
            refine BR.mk (l' := #[true, true, true, true, true, true, true, true, true, true, true, true, true, true, true]) rfl rfl rfl ?_
            (first | (refine ST.st (st_store_map2 inf48 rfl rfl rfl rfl rfl rfl rfl rfl (by first | assumption | omega)) ?_) | (refine ST.st (st_store inf48 rfl rfl rfl rfl rfl rfl rfl (by first | decide | (simp; done)) rfl) ?_))
            refine AN.nil (by kernel_rfl) ?_
            show Less _ _
            (try simp only [S.put, S.newObj, setL, V.cs, List.length_cons, List.length_nil, List.take_succ_cons, List.take_zero, List.drop_succ_cons, List.drop_zero, List.drop_nil, List.nil_append, List.cons_append, List.append_nil, Nat.zero_add, Nat.reduceAdd, List.map_cons, List.map_nil, List.set_cons_zero, List.set_cons_succ])
            try simp only [S.dd, ddL, List.contains_cons, List.contains_nil, Nat.reduceBEq, beq_self_eq_true, Bool.or_false, Bool.or_true, Bool.false_or, Bool.true_or, Bool.or_self, if_true, if_false, Bool.false_eq_true, ↓reduceIte]
            exact (Less.of rfl (by repeat (first | exact trivial | refine ⟨⟨_, rfl, Wk.refl _⟩, ?_⟩)) (by repeat (first | exact trivial | refine ⟨rfl, ?_⟩)) rfl)
           ·refine BR.mk (l' := #[true, false, true, true, true, true, true, true, true, true, true, true, false, false, false]) rfl rfl rfl ?_
            refine ST.sm (sm_slice (vs := [(0, _)]) (zs := [.d (.p (.int .i64 0)), .d (.p (.int .i64 0)), .d (.p (.int .i64 0)), .d (.p (.int .i64 0))]) 910 Try.underlying48 inf54 rfl rfl (by decide) (by decide) (by decide) rfl rfl rfl rfl (by first | rfl | simp [S.clean, S.put, S.newObj, S.forget, V.has, V.hasL, junkIf, setL, V.cs, hasL_i, hasL_d, hasL_b, hasL_s, hasL_n, hasL_rep, hasL_flat, hasL_append, -List.map_set]) (by first | rfl | simp [S.clean, S.put, S.newObj, S.forget, V.has, V.hasL, junkIf, setL, V.cs, hasL_i, hasL_d, hasL_b, hasL_s, hasL_n, hasL_rep, hasL_flat, hasL_append, -List.map_set]) rfl) ?_
            refine AN.br1 (i := 1) (by kernel_rfl) ?_
            refine BR.mk (l' := #[true, true, true, true, true, true, true, true, true, true, true, true, false, false, false]) rfl rfl rfl ?_
            (first | (refine ST.rd rfl (rd_load_ref Try.underlying48 rfl rfl rfl rfl rfl rfl) ?_) | (refine ST.rd rfl (rd_load_ad Try.underlying48 rfl rfl rfl rfl) ?_) | (refine ST.rd rfl (rd_load_map Try.underlying48 rfl rfl rfl rfl rfl rfl (by assumption)) ?_) | (refine ST.rd rfl (rd_load_flat Try.underlying48 rfl rfl rfl rfl rfl rfl (fun _ => rfl) (by assumption) rfl) ?_))
            refine AN.br1 (i := 12) (by kernel_rfl) ?_
            refine BR.mk (l' := #[true, true, true, true, true, true, true, true, true, true, true, true, true, false, false]) rfl rfl rfl ?_
            refine ST.st (st_appendF Try.underlying48 inf54 rfl (by decide) rfl rfl rfl rfl rfl rfl (by first | assumption | rfl | (simp; done)) (by first | rfl | simp [S.clean, S.put, S.newObj, S.forget, V.has, V.hasL, junkIf, setL, V.cs, hasL_i, hasL_d, hasL_b, hasL_s, hasL_n, hasL_rep, hasL_flat, hasL_append, -List.map_set]) rfl rfl rfl rfl rfl (by first | rfl | simp [S.clean, S.put, S.newObj, S.forget, V.has, V.hasL, junkIf, setL, V.cs, hasL_i, hasL_d, hasL_b, hasL_s, hasL_n, hasL_rep, hasL_flat, hasL_append, -List.map_set]) rfl (by decide) (by omega) (by omega) rfl) ?_
            simp only [S.forget, S.put, S.newObj, junkIf, V.has, V.hasL, hasL_i, hasL_b, hasL_s, hasL_d, hasL_n, hasL_rep, hasL_flat, hasL_append, List.map_cons, List.map_nil, List.filter_cons, List.filter_nil, Nat.reduceBNe, Nat.reduceBEq, eq_self, bne_self_eq_false,  Bool.not_true, Bool.not_false, Bool.or_false, Bool.or_true, Bool.false_or, Bool.true_or, if_true, if_false, Bool.false_eq_true, ite_true, ite_false, ↓reduceIte, beq_self_eq_true, Nat.reduceEqDiff]
            (first | (refine AN.rp (i := 13) (l' := #[true, true, true, true, true, true, true, true, true, true, true, true, true, true, false]) rfl rfl rfl (fun _ _ h => h) (by kernel_rfl) rfl (rp_field_ref Try.underlying50 rfl rfl rfl inf48 (by decide) rfl) ?_) | (refine AN.rp (i := 13) (l' := #[true, true, true, true, true, true, true, true, true, true, true, true, true, true, false]) rfl rfl rfl (fun _ _ h => h) (by kernel_rfl) rfl (rp_field_ad Try.underlying50 rfl rfl rfl inf48 (by decide) rfl) ?_))
            refine AN.br1 (i := 14) (by kernel_rfl) ?_
            refine BR.mk (l' := #[true, true, true, true, true, true, true, true, true, true, true, true, true, true, true]) rfl rfl rfl ?_
            (first | (refine ST.st (st_store_map2 inf48 rfl rfl rfl rfl rfl rfl rfl rfl (by first | assumption | omega)) ?_) | (refine ST.st (st_store inf48 rfl rfl rfl rfl rfl rfl rfl (by first | decide | (simp; done)) rfl) ?_))
            refine AN.nil (by kernel_rfl) ?_
            show Less _ _
            (try simp only [S.put, S.newObj, setL, V.cs, List.length_cons, List.length_nil, List.take_succ_cons, List.take_zero, List.drop_succ_cons, List.drop_zero, List.drop_nil, List.nil_append, List.cons_append, List.append_nil, Nat.zero_add, Nat.reduceAdd, List.map_cons, List.map_nil, List.set_cons_zero, List.set_cons_succ])
            try simp only [S.dd, ddL, List.contains_cons, List.contains_nil, Nat.reduceBEq, beq_self_eq_true, Bool.or_false, Bool.or_true, Bool.false_or, Bool.true_or, Bool.or_self, if_true, if_false, Bool.false_eq_true, ↓reduceIte]
            exact (Less.of rfl (by repeat (first | exact trivial | refine ⟨⟨_, rfl, Wk.refl _⟩, ?_⟩)) (by repeat (first | exact trivial | refine ⟨rfl, ?_⟩)) rfl)
       (try simp only [S.put, S.newObj, setL, V.cs, List.length_cons, List.length_nil, List.take_succ_cons, List.take_zero, List.drop_succ_cons, List.drop_zero, List.drop_nil, List.nil_append, List.cons_append, List.append_nil, Nat.zero_add, Nat.reduceAdd, List.map_cons, List.map_nil, List.set_cons_zero, List.set_cons_succ])
       try simp only [S.dd, ddL, List.contains_cons, List.contains_nil, Nat.reduceBEq, beq_self_eq_true, Bool.or_false, Bool.or_true, Bool.false_or, Bool.true_or, Bool.or_self, if_true, if_false, Bool.false_eq_true, ↓reduceIte]
       try simp only [thenS, S.put, S.newObj, setL, V.cs, List.length_cons, List.length_nil, List.take_succ_cons, List.take_zero, List.drop_succ_cons, List.drop_zero, List.drop_nil, List.nil_append, List.cons_append, List.append_nil, Nat.zero_add, Nat.reduceAdd, List.map_cons, List.map_nil, List.set_cons_zero, List.set_cons_succ]
       refine AW.region ?_
       refine AL.rp rfl rfl (rp_add rfl rfl rfl (by first | omega | (dsimp only; omega))) ?_
       refine AL.rp rfl rfl (rp_move rfl rfl) ?_
       refine AL.nil ?_
       try simp only [thenS, S.put]
       refine ⟨_, ?_, ⟨i + 1, A ++ [⟨x1, x2, x3, x4⟩], W4, by omega, hAs.symm, hWs.symm, by omega, rfl⟩, ?_⟩
       ·simp only [List.flatMap_append, List.flatMap_cons, List.flatMap_nil, List.append_nil]
        exact (Less.of rfl (by repeat (first | exact trivial | refine ⟨⟨_, rfl, Wk.refl _⟩, ?_⟩ | refine ⟨⟨_, rfl, Wk.nil _ _⟩, ?_⟩ | refine ⟨⟨_, rfl, Wk.junk _⟩, ?_⟩)) (by repeat (first | exact trivial | refine ⟨rfl, ?_⟩)) rfl)
       ·simp [S.nat, fnd]; omega
      ·have HX := hfail (by unfold okSt; omega)
       rcases (show W.length < 2 ∨ (2 ≤ W.length ∧ W.length < 4) ∨ (4 ≤ W.length ∧ W.length < 8) ∨ (8 ≤ W.length ∧ W.length < 9) by omega) with h | h | h | h
       ·skip
        refine AW.seq ?_
        refine AW.region ?_
        (first | (refine AL.rp rfl rfl (rp_lssT rfl rfl rfl (by first | assumption | omega | (dsimp only; omega))) ?_) | (refine AL.rp rfl rfl (rp_lssF rfl rfl rfl (by first | assumption | omega | (dsimp only; omega))) ?_) | (refine AL.rp rfl rfl (rp_lss rfl rfl rfl) ?_))
        refine AL.nil ?_
        try simp only [thenS, S.put]
        refine AW.seq ?_
        refine AW.condT rfl ?_
        refine AW.skip ?_
        try simp only [thenS]
        refine AW.seq ?_
        refine AW.block ?_
        refine AW.drawPO (la := #[false, false, false, false, false, false, false, false, false, false, false, false, false, false, false]) 15 (by kernel_rfl) rfl rfl ?_
        (first | (refine AN.rpP (i := 0) (l' := #[true, false, false, false, false, false, false, false, false, false, false, false, false, false, false]) rfl rfl rfl (fun ch s h => PQ.drop (d := 23) h (by decide) (by decide)) (by kernel_rfl) rfl (rp_field_ref Try.underlying50 rfl rfl rfl inf48 (by decide) rfl) ?_) | (refine AN.rpP (i := 0) (l' := #[true, false, false, false, false, false, false, false, false, false, false, false, false, false, false]) rfl rfl rfl (fun ch s h => PQ.drop (d := 23) h (by decide) (by decide)) (by kernel_rfl) rfl (rp_field_ad Try.underlying50 rfl rfl rfl inf48 (by decide) rfl) ?_))
        refine AN.rpP (i := 2) (l' := #[true, false, true, false, false, false, false, false, false, false, false, false, false, false, false]) rfl rfl rfl (fun ch s h => PQ.drop (d := 25) h (by decide) (by decide)) (by kernel_rfl) rfl (rp_move rfl rfl) ?_
        refine AN.rpP (i := 4) (l' := #[true, false, true, false, true, false, false, false, false, false, false, false, false, false, false]) rfl rfl rfl (fun ch s h => PQ.drop (d := 27) h (by decide) (by decide)) (by kernel_rfl) rfl (rp_move rfl rfl) ?_
        refine AN.rpP (i := 6) (l' := #[true, false, true, false, true, false, true, false, false, false, false, false, false, false, false]) rfl rfl rfl (fun ch s h => PQ.drop (d := 29) h (by decide) (by decide)) (by kernel_rfl) rfl (rp_move rfl rfl) ?_
        refine AN.rpP (i := 8) (l' := #[true, false, true, false, true, false, true, false, true, false, false, false, false, false, false]) rfl rfl rfl (fun ch s h => PQ.drop (d := 31) h (by decide) (by decide)) (by kernel_rfl) rfl (rp_move rfl rfl) ?_
        refine AN.br2 (i := 1) (j := 3) (by kernel_rfl) ?_ ?_
        ·refine BR.mk (l' := #[true, true, true, false, true, false, true, false, true, false, false, false, false, false, false]) rfl rfl rfl ?_
         (first | (refine ST.rd rfl (rd_load_ref Try.underlying48 rfl rfl rfl rfl rfl rfl) ?_) | (refine ST.rd rfl (rd_load_ad Try.underlying48 rfl rfl rfl rfl) ?_) | (refine ST.rd rfl (rd_load_map Try.underlying48 rfl rfl rfl rfl rfl rfl (by assumption)) ?_) | (refine ST.rd rfl (rd_load_flat Try.underlying48 rfl rfl rfl rfl rfl rfl (fun _ => rfl) (by assumption) rfl) ?_))
         refine AN.br1 (i := 3) (by kernel_rfl) ?_
         refine BR.wx rfl rfl (WX.px [2, 3] (ts := [_, _]) (args := [_, _]) (px_take0 W 2 (by omega) [(3, bxB (.b false)), (2, bxM (.i ((b : Int) - 1)) (.own 901 2 q (decide (q = 0)))), (22, bxM (.i 0) .nil)] _) rfl rfl rfl rfl rfl (LH.of ⟨rfl, rfl, rfl, rfl, trivial⟩) rfl ?_)
         exact ⟨rfl, rfl, rfl, ⟨_, _, _, _, _, rfl⟩, ⟨_, rfl⟩, LH.of (s := ⟨0, [], _, []⟩) ⟨rfl, trivial⟩, rfl, HX⟩
        ·refine BR.wx rfl rfl (WX.px [2, 3] (ts := [_, _]) (args := [_, _]) (px_take0 W 2 (by omega) [(3, bxB (.b false)), (2, bxM (.i ((b : Int) - 1)) (.own 901 2 q (decide (q = 0)))), (22, bxM (.i 0) .nil)] _) rfl rfl rfl rfl rfl (LH.of ⟨rfl, rfl, rfl, rfl, trivial⟩) rfl ?_)
         exact ⟨rfl, rfl, rfl, ⟨_, _, _, _, _, rfl⟩, ⟨_, rfl⟩, LH.of (s := ⟨0, [], _, []⟩) ⟨rfl, trivial⟩, rfl, HX⟩
       ·skip
        refine AW.seq ?_
        refine AW.region ?_
        (first | (refine AL.rp rfl rfl (rp_lssT rfl rfl rfl (by first | assumption | omega | (dsimp only; omega))) ?_) | (refine AL.rp rfl rfl (rp_lssF rfl rfl rfl (by first | assumption | omega | (dsimp only; omega))) ?_) | (refine AL.rp rfl rfl (rp_lss rfl rfl rfl) ?_))
        refine AL.nil ?_
        try simp only [thenS, S.put]
        refine AW.seq ?_
        refine AW.condT rfl ?_
        refine AW.skip ?_
        try simp only [thenS]
        refine AW.seq ?_
        refine AW.block ?_
        refine AW.drawPO (la := #[false, false, false, false, false, false, false, false, false, false, false, false, false, false, false]) 15 (by kernel_rfl) rfl rfl ?_
        (first | (refine AN.rpP (i := 0) (l' := #[true, false, false, false, false, false, false, false, false, false, false, false, false, false, false]) rfl rfl rfl (fun ch s h => PQ.drop (d := 23) h (by decide) (by decide)) (by kernel_rfl) rfl (rp_field_ref Try.underlying50 rfl rfl rfl inf48 (by decide) rfl) ?_) | (refine AN.rpP (i := 0) (l' := #[true, false, false, false, false, false, false, false, false, false, false, false, false, false, false]) rfl rfl rfl (fun ch s h => PQ.drop (d := 23) h (by decide) (by decide)) (by kernel_rfl) rfl (rp_field_ad Try.underlying50 rfl rfl rfl inf48 (by decide) rfl) ?_))
        refine AN.rpP (i := 2) (l' := #[true, false, true, false, false, false, false, false, false, false, false, false, false, false, false]) rfl rfl rfl (fun ch s h => PQ.drop (d := 25) h (by decide) (by decide)) (by kernel_rfl) rfl (rp_move rfl rfl) ?_
        refine AN.rpP (i := 4) (l' := #[true, false, true, false, true, false, false, false, false, false, false, false, false, false, false]) rfl rfl rfl (fun ch s h => PQ.drop (d := 27) h (by decide) (by decide)) (by kernel_rfl) rfl (rp_move rfl rfl) ?_
        refine AN.rpP (i := 6) (l' := #[true, false, true, false, true, false, true, false, false, false, false, false, false, false, false]) rfl rfl rfl (fun ch s h => PQ.drop (d := 29) h (by decide) (by decide)) (by kernel_rfl) rfl (rp_move rfl rfl) ?_
        refine AN.rpP (i := 8) (l' := #[true, false, true, false, true, false, true, false, true, false, false, false, false, false, false]) rfl rfl rfl (fun ch s h => PQ.drop (d := 31) h (by decide) (by decide)) (by kernel_rfl) rfl (rp_move rfl rfl) ?_
        refine AN.br2 (i := 1) (j := 3) (by kernel_rfl) ?_ ?_
        ·refine BR.mk (l' := #[true, true, true, false, true, false, true, false, true, false, false, false, false, false, false]) rfl rfl rfl ?_
         (first | (refine ST.rd rfl (rd_load_ref Try.underlying48 rfl rfl rfl rfl rfl rfl) ?_) | (refine ST.rd rfl (rd_load_ad Try.underlying48 rfl rfl rfl rfl) ?_) | (refine ST.rd rfl (rd_load_map Try.underlying48 rfl rfl rfl rfl rfl rfl (by assumption)) ?_) | (refine ST.rd rfl (rd_load_flat Try.underlying48 rfl rfl rfl rfl rfl rfl (fun _ => rfl) (by assumption) rfl) ?_))
         refine AN.br1 (i := 3) (by kernel_rfl) ?_
         refine BR.mk (l' := #[true, true, true, true, true, false, true, false, true, false, false, false, false, false, false]) rfl rfl rfl ?_
         try simp only [S.put, S.newObj, setL, V.cs, List.length_cons, List.length_nil, List.take_succ_cons, List.take_zero, List.drop_succ_cons, List.drop_zero, List.drop_nil, List.nil_append, List.cons_append, List.append_nil, Nat.zero_add, Nat.reduceAdd]
         refine ST.pc [0, 2, 3, 5, 13, 14, 20, 21, 23, 24, 25, 27, 29, 31] (ts := [_, _, _, _, _, _, _, _, _, _, _, _, _, _]) (args := [_, _]) (post := ?pc21) ?hc21 rfl rfl rfl rfl rfl rfl rfl rfl rfl ?_
         case hc21 => (refine pc_take W W1 2 x1 hWb (by omega) (by decide) hx1 hW1 [(5, bxS (.i F) (.own 902 4 i (decide (i = 0)))), (902, ⟨54, A.flatMap arV2, decide (i = 0), 4⟩), (3, bxB (.b false)), (2, bxM (.i ((b : Int) - 1)) (.own 901 2 q (decide (q = 0)))), (901, ⟨50, P.flatMap stV2, decide (q = 0), 2⟩), (22, bxM (.i 0) .nil)] ?_ <;> first | rfl | exact ⟨rfl, rfl, trivial⟩ | exact ⟨rfl, rfl, rfl, rfl, trivial⟩ | exact ⟨rfl, rfl, rfl, rfl, rfl, trivial⟩ | exact ⟨rfl, rfl, rfl, rfl, rfl, rfl, trivial⟩ | exact ⟨rfl, rfl, rfl, rfl, rfl, rfl, rfl, trivial⟩ | (simp [V.lowL, V.low]; done))
         rintro _ _ _ ⟨rfl, rfl, rfl⟩
         simp only [back, S.put, List.cons_append, List.nil_append, List.zip_cons_cons, List.zip_nil_left, List.drop_succ_cons, List.drop_zero, List.length_cons, List.length_nil, Nat.zero_add, Nat.reduceAdd]
         refine AN.br1 (i := 5) (by kernel_rfl) ?_
         refine BR.wx rfl rfl (WX.px [2, 3] (ts := [_, _]) (args := [_, _]) (px_take0 W1 2 (by omega) [(3, bxB (.b false)), (2, bxM (.i ((b : Int) - 1)) (.own 901 2 q (decide (q = 0)))), (22, bxM (.i 0) .nil)] _) rfl rfl rfl rfl rfl (LH.of ⟨rfl, rfl, rfl, rfl, trivial⟩) rfl ?_)
         exact ⟨rfl, rfl, rfl, ⟨_, _, _, _, _, rfl⟩, ⟨_, rfl⟩, LH.of (s := ⟨0, [], _, []⟩) ⟨rfl, trivial⟩, rfl, HX⟩
        ·refine BR.mk (l' := #[true, false, true, true, true, false, true, false, true, false, false, false, false, false, false]) rfl rfl rfl ?_
         try simp only [S.put, S.newObj, setL, V.cs, List.length_cons, List.length_nil, List.take_succ_cons, List.take_zero, List.drop_succ_cons, List.drop_zero, List.drop_nil, List.nil_append, List.cons_append, List.append_nil, Nat.zero_add, Nat.reduceAdd]
         refine ST.pc [0, 2, 3, 5, 13, 14, 20, 21, 23, 25, 27, 29, 31] (ts := [_, _, _, _, _, _, _, _, _, _, _, _, _]) (args := [_, _]) (post := ?pc22) ?hc22 rfl rfl rfl rfl rfl rfl rfl rfl rfl ?_
         case hc22 => (refine pc_take W W1 2 x1 hWb (by omega) (by decide) hx1 hW1 [(5, bxS (.i F) (.own 902 4 i (decide (i = 0)))), (902, ⟨54, A.flatMap arV2, decide (i = 0), 4⟩), (3, bxB (.b false)), (2, bxM (.i ((b : Int) - 1)) (.own 901 2 q (decide (q = 0)))), (901, ⟨50, P.flatMap stV2, decide (q = 0), 2⟩), (22, bxM (.i 0) .nil)] ?_ <;> first | rfl | exact ⟨rfl, rfl, trivial⟩ | exact ⟨rfl, rfl, rfl, rfl, trivial⟩ | exact ⟨rfl, rfl, rfl, rfl, rfl, trivial⟩ | exact ⟨rfl, rfl, rfl, rfl, rfl, rfl, trivial⟩ | exact ⟨rfl, rfl, rfl, rfl, rfl, rfl, rfl, trivial⟩ | (simp [V.lowL, V.low]; done))
         rintro _ _ _ ⟨rfl, rfl, rfl⟩
         simp only [back, S.put, List.cons_append, List.nil_append, List.zip_cons_cons, List.zip_nil_left, List.drop_succ_cons, List.drop_zero, List.length_cons, List.length_nil, Nat.zero_add, Nat.reduceAdd]
         refine AN.br2 (i := 1) (j := 5) (by kernel_rfl) ?_ ?_
         ·refine BR.mk (l' := #[true, true, true, true, true, false, true, false, true, false, false, false, false, false, false]) rfl rfl rfl ?_
          (first | (refine ST.rd rfl (rd_load_ref Try.underlying48 rfl rfl rfl rfl rfl rfl) ?_) | (refine ST.rd rfl (rd_load_ad Try.underlying48 rfl rfl rfl rfl) ?_) | (refine ST.rd rfl (rd_load_map Try.underlying48 rfl rfl rfl rfl rfl rfl (by assumption)) ?_) | (refine ST.rd rfl (rd_load_flat Try.underlying48 rfl rfl rfl rfl rfl rfl (fun _ => rfl) (by assumption) rfl) ?_))
          refine AN.br1 (i := 5) (by kernel_rfl) ?_
          refine BR.wx rfl rfl (WX.px [2, 3] (ts := [_, _]) (args := [_, _]) (px_take0 W1 2 (by omega) [(3, bxB (.b false)), (2, bxM (.i ((b : Int) - 1)) (.own 901 2 q (decide (q = 0)))), (22, bxM (.i 0) .nil)] _) rfl rfl rfl rfl rfl (LH.of ⟨rfl, rfl, rfl, rfl, trivial⟩) rfl ?_)
          exact ⟨rfl, rfl, rfl, ⟨_, _, _, _, _, rfl⟩, ⟨_, rfl⟩, LH.of (s := ⟨0, [], _, []⟩) ⟨rfl, trivial⟩, rfl, HX⟩
         ·refine BR.wx rfl rfl (WX.px [2, 3] (ts := [_, _]) (args := [_, _]) (px_take0 W1 2 (by omega) [(3, bxB (.b false)), (2, bxM (.i ((b : Int) - 1)) (.own 901 2 q (decide (q = 0)))), (22, bxM (.i 0) .nil)] _) rfl rfl rfl rfl rfl (LH.of ⟨rfl, rfl, rfl, rfl, trivial⟩) rfl ?_)
          exact ⟨rfl, rfl, rfl, ⟨_, _, _, _, _, rfl⟩, ⟨_, rfl⟩, LH.of (s := ⟨0, [], _, []⟩) ⟨rfl, trivial⟩, rfl, HX⟩
       ·skip
        refine AW.seq ?_
        refine AW.region ?_
        (first | (refine AL.rp rfl rfl (rp_lssT rfl rfl rfl (by first | assumption | omega | (dsimp only; omega))) ?_) | (refine AL.rp rfl rfl (rp_lssF rfl rfl rfl (by first | assumption | omega | (dsimp only; omega))) ?_) | (refine AL.rp rfl rfl (rp_lss rfl rfl rfl) ?_))
        refine AL.nil ?_
        try simp only [thenS, S.put]
        refine AW.seq ?_
        refine AW.condT rfl ?_
        refine AW.skip ?_
        try simp only [thenS]
        refine AW.seq ?_
        refine AW.block ?_
        refine AW.drawPO (la := #[false, false, false, false, false, false, false, false, false, false, false, false, false, false, false]) 15 (by kernel_rfl) rfl rfl ?_
        (first | (refine AN.rpP (i := 0) (l' := #[true, false, false, false, false, false, false, false, false, false, false, false, false, false, false]) rfl rfl rfl (fun ch s h => PQ.drop (d := 23) h (by decide) (by decide)) (by kernel_rfl) rfl (rp_field_ref Try.underlying50 rfl rfl rfl inf48 (by decide) rfl) ?_) | (refine AN.rpP (i := 0) (l' := #[true, false, false, false, false, false, false, false, false, false, false, false, false, false, false]) rfl rfl rfl (fun ch s h => PQ.drop (d := 23) h (by decide) (by decide)) (by kernel_rfl) rfl (rp_field_ad Try.underlying50 rfl rfl rfl inf48 (by decide) rfl) ?_))
        refine AN.rpP (i := 2) (l' := #[true, false, true, false, false, false, false, false, false, false, false, false, false, false, false]) rfl rfl rfl (fun ch s h => PQ.drop (d := 25) h (by decide) (by decide)) (by kernel_rfl) rfl (rp_move rfl rfl) ?_
        refine AN.rpP (i := 4) (l' := #[true, false, true, false, true, false, false, false, false, false, false, false, false, false, false]) rfl rfl rfl (fun ch s h => PQ.drop (d := 27) h (by decide) (by decide)) (by kernel_rfl) rfl (rp_move rfl rfl) ?_
        refine AN.rpP (i := 6) (l' := #[true, false, true, false, true, false, true, false, false, false, false, false, false, false, false]) rfl rfl rfl (fun ch s h => PQ.drop (d := 29) h (by decide) (by decide)) (by kernel_rfl) rfl (rp_move rfl rfl) ?_
        refine AN.rpP (i := 8) (l' := #[true, false, true, false, true, false, true, false, true, false, false, false, false, false, false]) rfl rfl rfl (fun ch s h => PQ.drop (d := 31) h (by decide) (by decide)) (by kernel_rfl) rfl (rp_move rfl rfl) ?_
        refine AN.br2 (i := 1) (j := 3) (by kernel_rfl) ?_ ?_
        ·refine BR.mk (l' := #[true, true, true, false, true, false, true, false, true, false, false, false, false, false, false]) rfl rfl rfl ?_
         (first | (refine ST.rd rfl (rd_load_ref Try.underlying48 rfl rfl rfl rfl rfl rfl) ?_) | (refine ST.rd rfl (rd_load_ad Try.underlying48 rfl rfl rfl rfl) ?_) | (refine ST.rd rfl (rd_load_map Try.underlying48 rfl rfl rfl rfl rfl rfl (by assumption)) ?_) | (refine ST.rd rfl (rd_load_flat Try.underlying48 rfl rfl rfl rfl rfl rfl (fun _ => rfl) (by assumption) rfl) ?_))
         refine AN.br1 (i := 3) (by kernel_rfl) ?_
         refine BR.mk (l' := #[true, true, true, true, true, false, true, false, true, false, false, false, false, false, false]) rfl rfl rfl ?_
         try simp only [S.put, S.newObj, setL, V.cs, List.length_cons, List.length_nil, List.take_succ_cons, List.take_zero, List.drop_succ_cons, List.drop_zero, List.drop_nil, List.nil_append, List.cons_append, List.append_nil, Nat.zero_add, Nat.reduceAdd]
         refine ST.pc [0, 2, 3, 5, 13, 14, 20, 21, 23, 24, 25, 27, 29, 31] (ts := [_, _, _, _, _, _, _, _, _, _, _, _, _, _]) (args := [_, _]) (post := ?pc24) ?hc24 rfl rfl rfl rfl rfl rfl rfl rfl rfl ?_
         case hc24 => (refine pc_take W W1 2 x1 hWb (by omega) (by decide) hx1 hW1 [(5, bxS (.i F) (.own 902 4 i (decide (i = 0)))), (902, ⟨54, A.flatMap arV2, decide (i = 0), 4⟩), (3, bxB (.b false)), (2, bxM (.i ((b : Int) - 1)) (.own 901 2 q (decide (q = 0)))), (901, ⟨50, P.flatMap stV2, decide (q = 0), 2⟩), (22, bxM (.i 0) .nil)] ?_ <;> first | rfl | exact ⟨rfl, rfl, trivial⟩ | exact ⟨rfl, rfl, rfl, rfl, trivial⟩ | exact ⟨rfl, rfl, rfl, rfl, rfl, trivial⟩ | exact ⟨rfl, rfl, rfl, rfl, rfl, rfl, trivial⟩ | exact ⟨rfl, rfl, rfl, rfl, rfl, rfl, rfl, trivial⟩ | (simp [V.lowL, V.low]; done))
         rintro _ _ _ ⟨rfl, rfl, rfl⟩
         simp only [back, S.put, List.cons_append, List.nil_append, List.zip_cons_cons, List.zip_nil_left, List.drop_succ_cons, List.drop_zero, List.length_cons, List.length_nil, Nat.zero_add, Nat.reduceAdd]
         refine AN.br1 (i := 5) (by kernel_rfl) ?_
         refine BR.mk (l' := #[true, true, true, true, true, true, true, false, true, false, false, false, false, false, false]) rfl rfl rfl ?_
         try simp only [S.put, S.newObj, setL, V.cs, List.length_cons, List.length_nil, List.take_succ_cons, List.take_zero, List.drop_succ_cons, List.drop_zero, List.drop_nil, List.nil_append, List.cons_append, List.append_nil, Nat.zero_add, Nat.reduceAdd]
         refine ST.pc [0, 2, 3, 5, 13, 14, 20, 21, 23, 24, 25, 26, 27, 29, 31] (ts := [_, _, _, _, _, _, _, _, _, _, _, _, _, _, _]) (args := [_, _]) (post := ?pc25) ?hc25 rfl rfl rfl rfl rfl rfl rfl rfl rfl ?_
         case hc25 => (refine pc_take W1 W2 2 x2 b1 (by omega) (by decide) hx2 hW2 [(5, bxS (.i F) (.own 902 4 i (decide (i = 0)))), (902, ⟨54, A.flatMap arV2, decide (i = 0), 4⟩), (3, bxB (.b false)), (2, bxM (.i ((b : Int) - 1)) (.own 901 2 q (decide (q = 0)))), (901, ⟨50, P.flatMap stV2, decide (q = 0), 2⟩), (22, bxM (.i 0) .nil)] ?_ <;> first | rfl | exact ⟨rfl, rfl, trivial⟩ | exact ⟨rfl, rfl, rfl, rfl, trivial⟩ | exact ⟨rfl, rfl, rfl, rfl, rfl, trivial⟩ | exact ⟨rfl, rfl, rfl, rfl, rfl, rfl, trivial⟩ | exact ⟨rfl, rfl, rfl, rfl, rfl, rfl, rfl, trivial⟩ | (simp [V.lowL, V.low]; done))
         rintro _ _ _ ⟨rfl, rfl, rfl⟩
         simp only [back, S.put, List.cons_append, List.nil_append, List.zip_cons_cons, List.zip_nil_left, List.drop_succ_cons, List.drop_zero, List.length_cons, List.length_nil, Nat.zero_add, Nat.reduceAdd]
         refine AN.br1 (i := 7) (by kernel_rfl) ?_
         refine BR.wx rfl rfl (WX.px [2, 3] (ts := [_, _]) (args := [_, _]) (px_take0 W2 4 (by omega) [(3, bxB (.b false)), (2, bxM (.i ((b : Int) - 1)) (.own 901 2 q (decide (q = 0)))), (22, bxM (.i 0) .nil)] _) rfl rfl rfl rfl rfl (LH.of ⟨rfl, rfl, rfl, rfl, trivial⟩) rfl ?_)
         exact ⟨rfl, rfl, rfl, ⟨_, _, _, _, _, rfl⟩, ⟨_, rfl⟩, LH.of (s := ⟨0, [], _, []⟩) ⟨rfl, trivial⟩, rfl, HX⟩
        ·refine BR.mk (l' := #[true, false, true, true, true, false, true, false, true, false, false, false, false, false, false]) rfl rfl rfl ?_
         try simp only [S.put, S.newObj, setL, V.cs, List.length_cons, List.length_nil, List.take_succ_cons, List.take_zero, List.drop_succ_cons, List.drop_zero, List.drop_nil, List.nil_append, List.cons_append, List.append_nil, Nat.zero_add, Nat.reduceAdd]
         refine ST.pc [0, 2, 3, 5, 13, 14, 20, 21, 23, 25, 27, 29, 31] (ts := [_, _, _, _, _, _, _, _, _, _, _, _, _]) (args := [_, _]) (post := ?pc26) ?hc26 rfl rfl rfl rfl rfl rfl rfl rfl rfl ?_
         case hc26 => (refine pc_take W W1 2 x1 hWb (by omega) (by decide) hx1 hW1 [(5, bxS (.i F) (.own 902 4 i (decide (i = 0)))), (902, ⟨54, A.flatMap arV2, decide (i = 0), 4⟩), (3, bxB (.b false)), (2, bxM (.i ((b : Int) - 1)) (.own 901 2 q (decide (q = 0)))), (901, ⟨50, P.flatMap stV2, decide (q = 0), 2⟩), (22, bxM (.i 0) .nil)] ?_ <;> first | rfl | exact ⟨rfl, rfl, trivial⟩ | exact ⟨rfl, rfl, rfl, rfl, trivial⟩ | exact ⟨rfl, rfl, rfl, rfl, rfl, trivial⟩ | exact ⟨rfl, rfl, rfl, rfl, rfl, rfl, trivial⟩ | exact ⟨rfl, rfl, rfl, rfl, rfl, rfl, rfl, trivial⟩ | (simp [V.lowL, V.low]; done))
         rintro _ _ _ ⟨rfl, rfl, rfl⟩
         simp only [back, S.put, List.cons_append, List.nil_append, List.zip_cons_cons, List.zip_nil_left, List.drop_succ_cons, List.drop_zero, List.length_cons, List.length_nil, Nat.zero_add, Nat.reduceAdd]
         refine AN.br2 (i := 1) (j := 5) (by kernel_rfl) ?_ ?_
         ·refine BR.mk (l' := #[true, true, true, true, true, false, true, false, true, false, false, false, false, false, false]) rfl rfl rfl ?_
          (first | (refine ST.rd rfl (rd_load_ref Try.underlying48 rfl rfl rfl rfl rfl rfl) ?_) | (refine ST.rd rfl (rd_load_ad Try.underlying48 rfl rfl rfl rfl) ?_) | (refine ST.rd rfl (rd_load_map Try.underlying48 rfl rfl rfl rfl rfl rfl (by assumption)) ?_) | (refine ST.rd rfl (rd_load_flat Try.underlying48 rfl rfl rfl rfl rfl rfl (fun _ => rfl) (by assumption) rfl) ?_))
          refine AN.br1 (i := 5) (by kernel_rfl) ?_
          refine BR.mk (l' := #[true, true, true, true, true, true, true, false, true, false, false, false, false, false, false]) rfl rfl rfl ?_
          try simp only [S.put, S.newObj, setL, V.cs, List.length_cons, List.length_nil, List.take_succ_cons, List.take_zero, List.drop_succ_cons, List.drop_zero, List.drop_nil, List.nil_append, List.cons_append, List.append_nil, Nat.zero_add, Nat.reduceAdd]
          refine ST.pc [0, 2, 3, 5, 13, 14, 20, 21, 23, 24, 25, 26, 27, 29, 31] (ts := [_, _, _, _, _, _, _, _, _, _, _, _, _, _, _]) (args := [_, _]) (post := ?pc27) ?hc27 rfl rfl rfl rfl rfl rfl rfl rfl rfl ?_
          case hc27 => (refine pc_take W1 W2 2 x2 b1 (by omega) (by decide) hx2 hW2 [(5, bxS (.i F) (.own 902 4 i (decide (i = 0)))), (902, ⟨54, A.flatMap arV2, decide (i = 0), 4⟩), (3, bxB (.b false)), (2, bxM (.i ((b : Int) - 1)) (.own 901 2 q (decide (q = 0)))), (901, ⟨50, P.flatMap stV2, decide (q = 0), 2⟩), (22, bxM (.i 0) .nil)] ?_ <;> first | rfl | exact ⟨rfl, rfl, trivial⟩ | exact ⟨rfl, rfl, rfl, rfl, trivial⟩ | exact ⟨rfl, rfl, rfl, rfl, rfl, trivial⟩ | exact ⟨rfl, rfl, rfl, rfl, rfl, rfl, trivial⟩ | exact ⟨rfl, rfl, rfl, rfl, rfl, rfl, rfl, trivial⟩ | (simp [V.lowL, V.low]; done))
          rintro _ _ _ ⟨rfl, rfl, rfl⟩
          simp only [back, S.put, List.cons_append, List.nil_append, List.zip_cons_cons, List.zip_nil_left, List.drop_succ_cons, List.drop_zero, List.length_cons, List.length_nil, Nat.zero_add, Nat.reduceAdd]
          refine AN.br1 (i := 7) (by kernel_rfl) ?_
          refine BR.wx rfl rfl (WX.px [2, 3] (ts := [_, _]) (args := [_, _]) (px_take0 W2 4 (by omega) [(3, bxB (.b false)), (2, bxM (.i ((b : Int) - 1)) (.own 901 2 q (decide (q = 0)))), (22, bxM (.i 0) .nil)] _) rfl rfl rfl rfl rfl (LH.of ⟨rfl, rfl, rfl, rfl, trivial⟩) rfl ?_)
          exact ⟨rfl, rfl, rfl, ⟨_, _, _, _, _, rfl⟩, ⟨_, rfl⟩, LH.of (s := ⟨0, [], _, []⟩) ⟨rfl, trivial⟩, rfl, HX⟩
         ·refine BR.mk (l' := #[true, false, true, true, true, true, true, false, true, false, false, false, false, false, false]) rfl rfl rfl ?_
          try simp only [S.put, S.newObj, setL, V.cs, List.length_cons, List.length_nil, List.take_succ_cons, List.take_zero, List.drop_succ_cons, List.drop_zero, List.drop_nil, List.nil_append, List.cons_append, List.append_nil, Nat.zero_add, Nat.reduceAdd]
          refine ST.pc [0, 2, 3, 5, 13, 14, 20, 21, 23, 25, 26, 27, 29, 31] (ts := [_, _, _, _, _, _, _, _, _, _, _, _, _, _]) (args := [_, _]) (post := ?pc28) ?hc28 rfl rfl rfl rfl rfl rfl rfl rfl rfl ?_
          case hc28 => (refine pc_take W1 W2 2 x2 b1 (by omega) (by decide) hx2 hW2 [(5, bxS (.i F) (.own 902 4 i (decide (i = 0)))), (902, ⟨54, A.flatMap arV2, decide (i = 0), 4⟩), (3, bxB (.b false)), (2, bxM (.i ((b : Int) - 1)) (.own 901 2 q (decide (q = 0)))), (901, ⟨50, P.flatMap stV2, decide (q = 0), 2⟩), (22, bxM (.i 0) .nil)] ?_ <;> first | rfl | exact ⟨rfl, rfl, trivial⟩ | exact ⟨rfl, rfl, rfl, rfl, trivial⟩ | exact ⟨rfl, rfl, rfl, rfl, rfl, trivial⟩ | exact ⟨rfl, rfl, rfl, rfl, rfl, rfl, trivial⟩ | exact ⟨rfl, rfl, rfl, rfl, rfl, rfl, rfl, trivial⟩ | (simp [V.lowL, V.low]; done))
          rintro _ _ _ ⟨rfl, rfl, rfl⟩
          simp only [back, S.put, List.cons_append, List.nil_append, List.zip_cons_cons, List.zip_nil_left, List.drop_succ_cons, List.drop_zero, List.length_cons, List.length_nil, Nat.zero_add, Nat.reduceAdd]
          refine AN.br2 (i := 1) (j := 7) (by kernel_rfl) ?_ ?_
          ·refine BR.mk (l' := #[true, true, true, true, true, true, true, false, true, false, false, false, false, false, false]) rfl rfl rfl ?_
           (first | (refine ST.rd rfl (rd_load_ref Try.underlying48 rfl rfl rfl rfl rfl rfl) ?_) | (refine ST.rd rfl (rd_load_ad Try.underlying48 rfl rfl rfl rfl) ?_) | (refine ST.rd rfl (rd_load_map Try.underlying48 rfl rfl rfl rfl rfl rfl (by assumption)) ?_) | (refine ST.rd rfl (rd_load_flat Try.underlying48 rfl rfl rfl rfl rfl rfl (fun _ => rfl) (by assumption) rfl) ?_))
           refine AN.br1 (i := 7) (by kernel_rfl) ?_
           refine BR.wx rfl rfl (WX.px [2, 3] (ts := [_, _]) (args := [_, _]) (px_take0 W2 4 (by omega) [(3, bxB (.b false)), (2, bxM (.i ((b : Int) - 1)) (.own 901 2 q (decide (q = 0)))), (22, bxM (.i 0) .nil)] _) rfl rfl rfl rfl rfl (LH.of ⟨rfl, rfl, rfl, rfl, trivial⟩) rfl ?_)
           exact ⟨rfl, rfl, rfl, ⟨_, _, _, _, _, rfl⟩, ⟨_, rfl⟩, LH.of (s := ⟨0, [], _, []⟩) ⟨rfl, trivial⟩, rfl, HX⟩
          ·refine BR.wx rfl rfl (WX.px [2, 3] (ts := [_, _]) (args := [_, _]) (px_take0 W2 4 (by omega) [(3, bxB (.b false)), (2, bxM (.i ((b : Int) - 1)) (.own 901 2 q (decide (q = 0)))), (22, bxM (.i 0) .nil)] _) rfl rfl rfl rfl rfl (LH.of ⟨rfl, rfl, rfl, rfl, trivial⟩) rfl ?_)
           exact ⟨rfl, rfl, rfl, ⟨_, _, _, _, _, rfl⟩, ⟨_, rfl⟩, LH.of (s := ⟨0, [], _, []⟩) ⟨rfl, trivial⟩, rfl, HX⟩
       ·skip
        refine AW.seq ?_
        refine AW.region ?_
        (first | (refine AL.rp rfl rfl (rp_lssT rfl rfl rfl (by first | assumption | omega | (dsimp only; omega))) ?_) | (refine AL.rp rfl rfl (rp_lssF rfl rfl rfl (by first | assumption | omega | (dsimp only; omega))) ?_) | (refine AL.rp rfl rfl (rp_lss rfl rfl rfl) ?_))
        refine AL.nil ?_
        try simp only [thenS, S.put]
        refine AW.seq ?_
        refine AW.condT rfl ?_
        refine AW.skip ?_
        try simp only [thenS]
        refine AW.seq ?_
        refine AW.block ?_
        refine AW.drawPO (la := #[false, false, false, false, false, false, false, false, false, false, false, false, false, false, false]) 15 (by kernel_rfl) rfl rfl ?_
        (first | (refine AN.rpP (i := 0) (l' := #[true, false, false, false, false, false, false, false, false, false, false, false, false, false, false]) rfl rfl rfl (fun ch s h => PQ.drop (d := 23) h (by decide) (by decide)) (by kernel_rfl) rfl (rp_field_ref Try.underlying50 rfl rfl rfl inf48 (by decide) rfl) ?_) | (refine AN.rpP (i := 0) (l' := #[true, false, false, false, false, false, false, false, false, false, false, false, false, false, false]) rfl rfl rfl (fun ch s h => PQ.drop (d := 23) h (by decide) (by decide)) (by kernel_rfl) rfl (rp_field_ad Try.underlying50 rfl rfl rfl inf48 (by decide) rfl) ?_))
        refine AN.rpP (i := 2) (l' := #[true, false, true, false, false, false, false, false, false, false, false, false, false, false, false]) rfl rfl rfl (fun ch s h => PQ.drop (d := 25) h (by decide) (by decide)) (by kernel_rfl) rfl (rp_move rfl rfl) ?_
        refine AN.rpP (i := 4) (l' := #[true, false, true, false, true, false, false, false, false, false, false, false, false, false, false]) rfl rfl rfl (fun ch s h => PQ.drop (d := 27) h (by decide) (by decide)) (by kernel_rfl) rfl (rp_move rfl rfl) ?_
        refine AN.rpP (i := 6) (l' := #[true, false, true, false, true, false, true, false, false, false, false, false, false, false, false]) rfl rfl rfl (fun ch s h => PQ.drop (d := 29) h (by decide) (by decide)) (by kernel_rfl) rfl (rp_move rfl rfl) ?_
        refine AN.rpP (i := 8) (l' := #[true, false, true, false, true, false, true, false, true, false, false, false, false, false, false]) rfl rfl rfl (fun ch s h => PQ.drop (d := 31) h (by decide) (by decide)) (by kernel_rfl) rfl (rp_move rfl rfl) ?_
        refine AN.br2 (i := 1) (j := 3) (by kernel_rfl) ?_ ?_
        ·refine BR.mk (l' := #[true, true, true, false, true, false, true, false, true, false, false, false, false, false, false]) rfl rfl rfl ?_
         (first | (refine ST.rd rfl (rd_load_ref Try.underlying48 rfl rfl rfl rfl rfl rfl) ?_) | (refine ST.rd rfl (rd_load_ad Try.underlying48 rfl rfl rfl rfl) ?_) | (refine ST.rd rfl (rd_load_map Try.underlying48 rfl rfl rfl rfl rfl rfl (by assumption)) ?_) | (refine ST.rd rfl (rd_load_flat Try.underlying48 rfl rfl rfl rfl rfl rfl (fun _ => rfl) (by assumption) rfl) ?_))
         refine AN.br1 (i := 3) (by kernel_rfl) ?_
         refine BR.mk (l' := #[true, true, true, true, true, false, true, false, true, false, false, false, false, false, false]) rfl rfl rfl ?_
         try simp only [S.put, S.newObj, setL, V.cs, List.length_cons, List.length_nil, List.take_succ_cons, List.take_zero, List.drop_succ_cons, List.drop_zero, List.drop_nil, List.nil_append, List.cons_append, List.append_nil, Nat.zero_add, Nat.reduceAdd]
         refine ST.pc [0, 2, 3, 5, 13, 14, 20, 21, 23, 24, 25, 27, 29, 31] (ts := [_, _, _, _, _, _, _, _, _, _, _, _, _, _]) (args := [_, _]) (post := ?pc30) ?hc30 rfl rfl rfl rfl rfl rfl rfl rfl rfl ?_
         case hc30 => (refine pc_take W W1 2 x1 hWb (by omega) (by decide) hx1 hW1 [(5, bxS (.i F) (.own 902 4 i (decide (i = 0)))), (902, ⟨54, A.flatMap arV2, decide (i = 0), 4⟩), (3, bxB (.b false)), (2, bxM (.i ((b : Int) - 1)) (.own 901 2 q (decide (q = 0)))), (901, ⟨50, P.flatMap stV2, decide (q = 0), 2⟩), (22, bxM (.i 0) .nil)] ?_ <;> first | rfl | exact ⟨rfl, rfl, trivial⟩ | exact ⟨rfl, rfl, rfl, rfl, trivial⟩ | exact ⟨rfl, rfl, rfl, rfl, rfl, trivial⟩ | exact ⟨rfl, rfl, rfl, rfl, rfl, rfl, trivial⟩ | exact ⟨rfl, rfl, rfl, rfl, rfl, rfl, rfl, trivial⟩ | (simp [V.lowL, V.low]; done))
         rintro _ _ _ ⟨rfl, rfl, rfl⟩
         simp only [back, S.put, List.cons_append, List.nil_append, List.zip_cons_cons, List.zip_nil_left, List.drop_succ_cons, List.drop_zero, List.length_cons, List.length_nil, Nat.zero_add, Nat.reduceAdd]
         refine AN.br1 (i := 5) (by kernel_rfl) ?_
         refine BR.mk (l' := #[true, true, true, true, true, true, true, false, true, false, false, false, false, false, false]) rfl rfl rfl ?_
         try simp only [S.put, S.newObj, setL, V.cs, List.length_cons, List.length_nil, List.take_succ_cons, List.take_zero, List.drop_succ_cons, List.drop_zero, List.drop_nil, List.nil_append, List.cons_append, List.append_nil, Nat.zero_add, Nat.reduceAdd]
         refine ST.pc [0, 2, 3, 5, 13, 14, 20, 21, 23, 24, 25, 26, 27, 29, 31] (ts := [_, _, _, _, _, _, _, _, _, _, _, _, _, _, _]) (args := [_, _]) (post := ?pc31) ?hc31 rfl rfl rfl rfl rfl rfl rfl rfl rfl ?_
         case hc31 => (refine pc_take W1 W2 2 x2 b1 (by omega) (by decide) hx2 hW2 [(5, bxS (.i F) (.own 902 4 i (decide (i = 0)))), (902, ⟨54, A.flatMap arV2, decide (i = 0), 4⟩), (3, bxB (.b false)), (2, bxM (.i ((b : Int) - 1)) (.own 901 2 q (decide (q = 0)))), (901, ⟨50, P.flatMap stV2, decide (q = 0), 2⟩), (22, bxM (.i 0) .nil)] ?_ <;> first | rfl | exact ⟨rfl, rfl, trivial⟩ | exact ⟨rfl, rfl, rfl, rfl, trivial⟩ | exact ⟨rfl, rfl, rfl, rfl, rfl, trivial⟩ | exact ⟨rfl, rfl, rfl, rfl, rfl, rfl, trivial⟩ | exact ⟨rfl, rfl, rfl, rfl, rfl, rfl, rfl, trivial⟩ | (simp [V.lowL, V.low]; done))
         rintro _ _ _ ⟨rfl, rfl, rfl⟩
         simp only [back, S.put, List.cons_append, List.nil_append, List.zip_cons_cons, List.zip_nil_left, List.drop_succ_cons, List.drop_zero, List.length_cons, List.length_nil, Nat.zero_add, Nat.reduceAdd]
         refine AN.br1 (i := 7) (by kernel_rfl) ?_
         refine BR.mk (l' := #[true, true, true, true, true, true, true, true, true, false, false, false, false, false, false]) rfl rfl rfl ?_
         try simp only [S.put, S.newObj, setL, V.cs, List.length_cons, List.length_nil, List.take_succ_cons, List.take_zero, List.drop_succ_cons, List.drop_zero, List.drop_nil, List.nil_append, List.cons_append, List.append_nil, Nat.zero_add, Nat.reduceAdd]
         refine ST.pc [0, 2, 3, 5, 13, 14, 20, 21, 23, 24, 25, 26, 27, 28, 29, 31] (ts := [_, _, _, _, _, _, _, _, _, _, _, _, _, _, _, _]) (args := [_, _]) (post := ?pc32) ?hc32 rfl rfl rfl rfl rfl rfl rfl rfl rfl ?_
         case hc32 => (refine pc_take W2 W3 4 x3 b2 (by omega) (by decide) hx3 hW3 [(5, bxS (.i F) (.own 902 4 i (decide (i = 0)))), (902, ⟨54, A.flatMap arV2, decide (i = 0), 4⟩), (3, bxB (.b false)), (2, bxM (.i ((b : Int) - 1)) (.own 901 2 q (decide (q = 0)))), (901, ⟨50, P.flatMap stV2, decide (q = 0), 2⟩), (22, bxM (.i 0) .nil)] ?_ <;> first | rfl | exact ⟨rfl, rfl, trivial⟩ | exact ⟨rfl, rfl, rfl, rfl, trivial⟩ | exact ⟨rfl, rfl, rfl, rfl, rfl, trivial⟩ | exact ⟨rfl, rfl, rfl, rfl, rfl, rfl, trivial⟩ | exact ⟨rfl, rfl, rfl, rfl, rfl, rfl, rfl, trivial⟩ | (simp [V.lowL, V.low]; done))
         rintro _ _ _ ⟨rfl, rfl, rfl⟩
         simp only [back, S.put, List.cons_append, List.nil_append, List.zip_cons_cons, List.zip_nil_left, List.drop_succ_cons, List.drop_zero, List.length_cons, List.length_nil, Nat.zero_add, Nat.reduceAdd]
         refine AN.br1 (i := 9) (by kernel_rfl) ?_
         refine BR.wx rfl rfl (WX.px [2, 3] (ts := [_, _]) (args := [_, _]) (px_take0 W3 1 (by omega) [(3, bxB (.b false)), (2, bxM (.i ((b : Int) - 1)) (.own 901 2 q (decide (q = 0)))), (22, bxM (.i 0) .nil)] _) rfl rfl rfl rfl rfl (LH.of ⟨rfl, rfl, rfl, rfl, trivial⟩) rfl ?_)
         exact ⟨rfl, rfl, rfl, ⟨_, _, _, _, _, rfl⟩, ⟨_, rfl⟩, LH.of (s := ⟨0, [], _, []⟩) ⟨rfl, trivial⟩, rfl, HX⟩
        ·refine BR.mk (l' := #[true, false, true, true, true, false, true, false, true, false, false, false, false, false, false]) rfl rfl rfl ?_
         try simp only [S.put, S.newObj, setL, V.cs, List.length_cons, List.length_nil, List.take_succ_cons, List.take_zero, List.drop_succ_cons, List.drop_zero, List.drop_nil, List.nil_append, List.cons_append, List.append_nil, Nat.zero_add, Nat.reduceAdd]
         refine ST.pc [0, 2, 3, 5, 13, 14, 20, 21, 23, 25, 27, 29, 31] (ts := [_, _, _, _, _, _, _, _, _, _, _, _, _]) (args := [_, _]) (post := ?pc33) ?hc33 rfl rfl rfl rfl rfl rfl rfl rfl rfl ?_
         case hc33 => (refine pc_take W W1 2 x1 hWb (by omega) (by decide) hx1 hW1 [(5, bxS (.i F) (.own 902 4 i (decide (i = 0)))), (902, ⟨54, A.flatMap arV2, decide (i = 0), 4⟩), (3, bxB (.b false)), (2, bxM (.i ((b : Int) - 1)) (.own 901 2 q (decide (q = 0)))), (901, ⟨50, P.flatMap stV2, decide (q = 0), 2⟩), (22, bxM (.i 0) .nil)] ?_ <;> first | rfl | exact ⟨rfl, rfl, trivial⟩ | exact ⟨rfl, rfl, rfl, rfl, trivial⟩ | exact ⟨rfl, rfl, rfl, rfl, rfl, trivial⟩ | exact ⟨rfl, rfl, rfl, rfl, rfl, rfl, trivial⟩ | exact ⟨rfl, rfl, rfl, rfl, rfl, rfl, rfl, trivial⟩ | (simp [V.lowL, V.low]; done))
         rintro _ _ _ ⟨rfl, rfl, rfl⟩
         simp only [back, S.put, List.cons_append, List.nil_append, List.zip_cons_cons, List.zip_nil_left, List.drop_succ_cons, List.drop_zero, List.length_cons, List.length_nil, Nat.zero_add, Nat.reduceAdd]
         refine AN.br2 (i := 1) (j := 5) (by kernel_rfl) ?_ ?_
         ·refine BR.mk (l' := #[true, true, true, true, true, false, true, false, true, false, false, false, false, false, false]) rfl rfl rfl ?_
          (first | (refine ST.rd rfl (rd_load_ref Try.underlying48 rfl rfl rfl rfl rfl rfl) ?_) | (refine ST.rd rfl (rd_load_ad Try.underlying48 rfl rfl rfl rfl) ?_) | (refine ST.rd rfl (rd_load_map Try.underlying48 rfl rfl rfl rfl rfl rfl (by assumption)) ?_) | (refine ST.rd rfl (rd_load_flat Try.underlying48 rfl rfl rfl rfl rfl rfl (fun _ => rfl) (by assumption) rfl) ?_))
          refine AN.br1 (i := 5) (by kernel_rfl) ?_
          refine BR.mk (l' := #[true, true, true, true, true, true, true, false, true, false, false, false, false, false, false]) rfl rfl rfl ?_
          try simp only [S.put, S.newObj, setL, V.cs, List.length_cons, List.length_nil, List.take_succ_cons, List.take_zero, List.drop_succ_cons, List.drop_zero, List.drop_nil, List.nil_append, List.cons_append, List.append_nil, Nat.zero_add, Nat.reduceAdd]
          refine ST.pc [0, 2, 3, 5, 13, 14, 20, 21, 23, 24, 25, 26, 27, 29, 31] (ts := [_, _, _, _, _, _, _, _, _, _, _, _, _, _, _]) (args := [_, _]) (post := ?pc34) ?hc34 rfl rfl rfl rfl rfl rfl rfl rfl rfl ?_
          case hc34 => (refine pc_take W1 W2 2 x2 b1 (by omega) (by decide) hx2 hW2 [(5, bxS (.i F) (.own 902 4 i (decide (i = 0)))), (902, ⟨54, A.flatMap arV2, decide (i = 0), 4⟩), (3, bxB (.b false)), (2, bxM (.i ((b : Int) - 1)) (.own 901 2 q (decide (q = 0)))), (901, ⟨50, P.flatMap stV2, decide (q = 0), 2⟩), (22, bxM (.i 0) .nil)] ?_ <;> first | rfl | exact ⟨rfl, rfl, trivial⟩ | exact ⟨rfl, rfl, rfl, rfl, trivial⟩ | exact ⟨rfl, rfl, rfl, rfl, rfl, trivial⟩ | exact ⟨rfl, rfl, rfl, rfl, rfl, rfl, trivial⟩ | exact ⟨rfl, rfl, rfl, rfl, rfl, rfl, rfl, trivial⟩ | (simp [V.lowL, V.low]; done))
          rintro _ _ _ ⟨rfl, rfl, rfl⟩
          simp only [back, S.put, List.cons_append, List.nil_append, List.zip_cons_cons, List.zip_nil_left, List.drop_succ_cons, List.drop_zero, List.length_cons, List.length_nil, Nat.zero_add, Nat.reduceAdd]
          refine AN.br1 (i := 7) (by kernel_rfl) ?_
          refine BR.mk (l' := #[true, true, true, true, true, true, true, true, true, false, false, false, false, false, false]) rfl rfl rfl ?_
          try simp only [S.put, S.newObj, setL, V.cs, List.length_cons, List.length_nil, List.take_succ_cons, List.take_zero, List.drop_succ_cons, List.drop_zero, List.drop_nil, List.nil_append, List.cons_append, List.append_nil, Nat.zero_add, Nat.reduceAdd]
          refine ST.pc [0, 2, 3, 5, 13, 14, 20, 21, 23, 24, 25, 26, 27, 28, 29, 31] (ts := [_, _, _, _, _, _, _, _, _, _, _, _, _, _, _, _]) (args := [_, _]) (post := ?pc35) ?hc35 rfl rfl rfl rfl rfl rfl rfl rfl rfl ?_
          case hc35 => (refine pc_take W2 W3 4 x3 b2 (by omega) (by decide) hx3 hW3 [(5, bxS (.i F) (.own 902 4 i (decide (i = 0)))), (902, ⟨54, A.flatMap arV2, decide (i = 0), 4⟩), (3, bxB (.b false)), (2, bxM (.i ((b : Int) - 1)) (.own 901 2 q (decide (q = 0)))), (901, ⟨50, P.flatMap stV2, decide (q = 0), 2⟩), (22, bxM (.i 0) .nil)] ?_ <;> first | rfl | exact ⟨rfl, rfl, trivial⟩ | exact ⟨rfl, rfl, rfl, rfl, trivial⟩ | exact ⟨rfl, rfl, rfl, rfl, rfl, trivial⟩ | exact ⟨rfl, rfl, rfl, rfl, rfl, rfl, trivial⟩ | exact ⟨rfl, rfl, rfl, rfl, rfl, rfl, rfl, trivial⟩ | (simp [V.lowL, V.low]; done))
          rintro _ _ _ ⟨rfl, rfl, rfl⟩
          simp only [back, S.put, List.cons_append, List.nil_append, List.zip_cons_cons, List.zip_nil_left, List.drop_succ_cons, List.drop_zero, List.length_cons, List.length_nil, Nat.zero_add, Nat.reduceAdd]
          refine AN.br1 (i := 9) (by kernel_rfl) ?_
          refine BR.wx rfl rfl (WX.px [2, 3] (ts := [_, _]) (args := [_, _]) (px_take0 W3 1 (by omega) [(3, bxB (.b false)), (2, bxM (.i ((b : Int) - 1)) (.own 901 2 q (decide (q = 0)))), (22, bxM (.i 0) .nil)] _) rfl rfl rfl rfl rfl (LH.of ⟨rfl, rfl, rfl, rfl, trivial⟩) rfl ?_)
          exact ⟨rfl, rfl, rfl, ⟨_, _, _, _, _, rfl⟩, ⟨_, rfl⟩, LH.of (s := ⟨0, [], _, []⟩) ⟨rfl, trivial⟩, rfl, HX⟩
         ·refine BR.mk (l' := #[true, false, true, true, true, true, true, false, true, false, false, false, false, false, false]) rfl rfl rfl ?_
          try simp only [S.put, S.newObj, setL, V.cs, List.length_cons, List.length_nil, List.take_succ_cons, List.take_zero, List.drop_succ_cons, List.drop_zero, List.drop_nil, List.nil_append, List.cons_append, List.append_nil, Nat.zero_add, Nat.reduceAdd]
          refine ST.pc [0, 2, 3, 5, 13, 14, 20, 21, 23, 25, 26, 27, 29, 31] (ts := [_, _, _, _, _, _, _, _, _, _, _, _, _, _]) (args := [_, _]) (post := ?pc36) ?hc36 rfl rfl rfl rfl rfl rfl rfl rfl rfl ?_
          case hc36 => (refine pc_take W1 W2 2 x2 b1 (by omega) (by decide) hx2 hW2 [(5, bxS (.i F) (.own 902 4 i (decide (i = 0)))), (902, ⟨54, A.flatMap arV2, decide (i = 0), 4⟩), (3, bxB (.b false)), (2, bxM (.i ((b : Int) - 1)) (.own 901 2 q (decide (q = 0)))), (901, ⟨50, P.flatMap stV2, decide (q = 0), 2⟩), (22, bxM (.i 0) .nil)] ?_ <;> first | rfl | exact ⟨rfl, rfl, trivial⟩ | exact ⟨rfl, rfl, rfl, rfl, trivial⟩ | exact ⟨rfl, rfl, rfl, rfl, rfl, trivial⟩ | exact ⟨rfl, rfl, rfl, rfl, rfl, rfl, trivial⟩ | exact ⟨rfl, rfl, rfl, rfl, rfl, rfl, rfl, trivial⟩ | (simp [V.lowL, V.low]; done))
          rintro _ _ _ ⟨rfl, rfl, rfl⟩
          simp only [back, S.put, List.cons_append, List.nil_append, List.zip_cons_cons, List.zip_nil_left, List.drop_succ_cons, List.drop_zero, List.length_cons, List.length_nil, Nat.zero_add, Nat.reduceAdd]
          refine AN.br2 (i := 1) (j := 7) (by kernel_rfl) ?_ ?_
          ·refine BR.mk (l' := #[true, true, true, true, true, true, true, false, true, false, false, false, false, false, false]) rfl rfl rfl ?_
           (first | (refine ST.rd rfl (rd_load_ref Try.underlying48 rfl rfl rfl rfl rfl rfl) ?_) | (refine ST.rd rfl (rd_load_ad Try.underlying48 rfl rfl rfl rfl) ?_) | (refine ST.rd rfl (rd_load_map Try.underlying48 rfl rfl rfl rfl rfl rfl (by assumption)) ?_) | (refine ST.rd rfl (rd_load_flat Try.underlying48 rfl rfl rfl rfl rfl rfl (fun _ => rfl) (by assumption) rfl) ?_))
           refine AN.br1 (i := 7) (by kernel_rfl) ?_
           refine BR.mk (l' := #[true, true, true, true, true, true, true, true, true, false, false, false, false, false, false]) rfl rfl rfl ?_
           try simp only [S.put, S.newObj, setL, V.cs, List.length_cons, List.length_nil, List.take_succ_cons, List.take_zero, List.drop_succ_cons, List.drop_zero, List.drop_nil, List.nil_append, List.cons_append, List.append_nil, Nat.zero_add, Nat.reduceAdd]
           refine ST.pc [0, 2, 3, 5, 13, 14, 20, 21, 23, 24, 25, 26, 27, 28, 29, 31] (ts := [_, _, _, _, _, _, _, _, _, _, _, _, _, _, _, _]) (args := [_, _]) (post := ?pc37) ?hc37 rfl rfl rfl rfl rfl rfl rfl rfl rfl ?_
           case hc37 => (refine pc_take W2 W3 4 x3 b2 (by omega) (by decide) hx3 hW3 [(5, bxS (.i F) (.own 902 4 i (decide (i = 0)))), (902, ⟨54, A.flatMap arV2, decide (i = 0), 4⟩), (3, bxB (.b false)), (2, bxM (.i ((b : Int) - 1)) (.own 901 2 q (decide (q = 0)))), (901, ⟨50, P.flatMap stV2, decide (q = 0), 2⟩), (22, bxM (.i 0) .nil)] ?_ <;> first | rfl | exact ⟨rfl, rfl, trivial⟩ | exact ⟨rfl, rfl, rfl, rfl, trivial⟩ | exact ⟨rfl, rfl, rfl, rfl, rfl, trivial⟩ | exact ⟨rfl, rfl, rfl, rfl, rfl, rfl, trivial⟩ | exact ⟨rfl, rfl, rfl, rfl, rfl, rfl, rfl, trivial⟩ | (simp [V.lowL, V.low]; done))
           rintro _ _ _ ⟨rfl, rfl, rfl⟩
           simp only [back, S.put, List.cons_append, List.nil_append, List.zip_cons_cons, List.zip_nil_left, List.drop_succ_cons, List.drop_zero, List.length_cons, List.length_nil, Nat.zero_add, Nat.reduceAdd]
           refine AN.br1 (i := 9) (by kernel_rfl) ?_
           refine BR.wx rfl rfl (WX.px [2, 3] (ts := [_, _]) (args := [_, _]) (px_take0 W3 1 (by omega) [(3, bxB (.b false)), (2, bxM (.i ((b : Int) - 1)) (.own 901 2 q (decide (q = 0)))), (22, bxM (.i 0) .nil)] _) rfl rfl rfl rfl rfl (LH.of ⟨rfl, rfl, rfl, rfl, trivial⟩) rfl ?_)
           exact ⟨rfl, rfl, rfl, ⟨_, _, _, _, _, rfl⟩, ⟨_, rfl⟩, LH.of (s := ⟨0, [], _, []⟩) ⟨rfl, trivial⟩, rfl, HX⟩
          ·refine BR.mk (l' := #[true, false, true, true, true, true, true, true, true, false, false, false, false, false, false]) rfl rfl rfl ?_
           try simp only [S.put, S.newObj, setL, V.cs, List.length_cons, List.length_nil, List.take_succ_cons, List.take_zero, List.drop_succ_cons, List.drop_zero, List.drop_nil, List.nil_append, List.cons_append, List.append_nil, Nat.zero_add, Nat.reduceAdd]
           refine ST.pc [0, 2, 3, 5, 13, 14, 20, 21, 23, 25, 26, 27, 28, 29, 31] (ts := [_, _, _, _, _, _, _, _, _, _, _, _, _, _, _]) (args := [_, _]) (post := ?pc38) ?hc38 rfl rfl rfl rfl rfl rfl rfl rfl rfl ?_
           case hc38 => (refine pc_take W2 W3 4 x3 b2 (by omega) (by decide) hx3 hW3 [(5, bxS (.i F) (.own 902 4 i (decide (i = 0)))), (902, ⟨54, A.flatMap arV2, decide (i = 0), 4⟩), (3, bxB (.b false)), (2, bxM (.i ((b : Int) - 1)) (.own 901 2 q (decide (q = 0)))), (901, ⟨50, P.flatMap stV2, decide (q = 0), 2⟩), (22, bxM (.i 0) .nil)] ?_ <;> first | rfl | exact ⟨rfl, rfl, trivial⟩ | exact ⟨rfl, rfl, rfl, rfl, trivial⟩ | exact ⟨rfl, rfl, rfl, rfl, rfl, trivial⟩ | exact ⟨rfl, rfl, rfl, rfl, rfl, rfl, trivial⟩ | exact ⟨rfl, rfl, rfl, rfl, rfl, rfl, rfl, trivial⟩ | (simp [V.lowL, V.low]; done))
           rintro _ _ _ ⟨rfl, rfl, rfl⟩
           simp only [back, S.put, List.cons_append, List.nil_append, List.zip_cons_cons, List.zip_nil_left, List.drop_succ_cons, List.drop_zero, List.length_cons, List.length_nil, Nat.zero_add, Nat.reduceAdd]
           refine AN.br2 (i := 1) (j := 9) (by kernel_rfl) ?_ ?_
           ·refine BR.mk (l' := #[true, true, true, true, true, true, true, true, true, false, false, false, false, false, false]) rfl rfl rfl ?_
            (first | (refine ST.rd rfl (rd_load_ref Try.underlying48 rfl rfl rfl rfl rfl rfl) ?_) | (refine ST.rd rfl (rd_load_ad Try.underlying48 rfl rfl rfl rfl) ?_) | (refine ST.rd rfl (rd_load_map Try.underlying48 rfl rfl rfl rfl rfl rfl (by assumption)) ?_) | (refine ST.rd rfl (rd_load_flat Try.underlying48 rfl rfl rfl rfl rfl rfl (fun _ => rfl) (by assumption) rfl) ?_))
            refine AN.br1 (i := 9) (by kernel_rfl) ?_
            refine BR.wx rfl rfl (WX.px [2, 3] (ts := [_, _]) (args := [_, _]) (px_take0 W3 1 (by omega) [(3, bxB (.b false)), (2, bxM (.i ((b : Int) - 1)) (.own 901 2 q (decide (q = 0)))), (22, bxM (.i 0) .nil)] _) rfl rfl rfl rfl rfl (LH.of ⟨rfl, rfl, rfl, rfl, trivial⟩) rfl ?_)
            exact ⟨rfl, rfl, rfl, ⟨_, _, _, _, _, rfl⟩, ⟨_, rfl⟩, LH.of (s := ⟨0, [], _, []⟩) ⟨rfl, trivial⟩, rfl, HX⟩
           ·refine BR.wx rfl rfl (WX.px [2, 3] (ts := [_, _]) (args := [_, _]) (px_take0 W3 1 (by omega) [(3, bxB (.b false)), (2, bxM (.i ((b : Int) - 1)) (.own 901 2 q (decide (q = 0)))), (22, bxM (.i 0) .nil)] _) rfl rfl rfl rfl rfl (LH.of ⟨rfl, rfl, rfl, rfl, trivial⟩) rfl ?_)
            exact ⟨rfl, rfl, rfl, ⟨_, _, _, _, _, rfl⟩, ⟨_, rfl⟩, LH.of (s := ⟨0, [], _, []⟩) ⟨rfl, trivial⟩, rfl, HX⟩
     ·obtain rfl : i = M := by omega
      have hgo := hstep (by unfold okSt; omega)
      refine AW.seq ?_
      refine AW.region ?_
      (first | (refine AL.rp rfl rfl (rp_lssT rfl rfl rfl (by first | assumption | omega | (dsimp only; omega))) ?_) | (refine AL.rp rfl rfl (rp_lssF rfl rfl rfl (by first | assumption | omega | (dsimp only; omega))) ?_) | (refine AL.rp rfl rfl (rp_lss rfl rfl rfl) ?_))
      refine AL.nil ?_
      try simp only [thenS, S.put]
      refine AW.seq ?_
      refine AW.condF rfl ?_
      refine AW.exit ?_
      try simp only [thenS, inBlockS, ↓reduceIte, Nat.reduceEqDiff]
      refine AW.freezeH 5 1 32 (A.map arD) rfl rfl rfl (by decide) rfl rfl (by rw [List.length_map, hAl]) (by omega) (rowsF (enc := arD) (sz := 4) (l := A) (fun _ => rfl) rfl) ?_
      refine AW.region ?_
      (first | (refine AL.rp rfl rfl (rp_field_ref Try.underlying24 rfl rfl rfl inf22 (by decide) rfl) ?_) | (refine AL.rp rfl rfl (rp_field_ad Try.underlying24 rfl rfl rfl inf22 (by decide) rfl) ?_))
      (first | (refine AL.rd rfl rfl (rd_load_ref Try.underlying22 rfl rfl rfl rfl rfl rfl) ?_) | (refine AL.rd rfl rfl (rd_load_ad Try.underlying22 rfl rfl rfl rfl) ?_) | (refine AL.rd rfl rfl (rd_load_map Try.underlying22 rfl rfl rfl rfl rfl rfl (by assumption)) ?_) | (refine AL.rd rfl rfl (rd_load_flat Try.underlying22 rfl rfl rfl rfl rfl rfl (fun _ => rfl) (by assumption) rfl) ?_))
      (first | (refine AL.rd rfl rfl (rd_loads_ref Try.underlying50 rfl inf50 rfl rfl rfl rfl rfl rfl) ?_) | (refine AL.rd rfl rfl (rd_loads_ad Try.underlying50 rfl inf50 rfl rfl rfl rfl) ?_))
      refine AL.sm rfl (sm_slice (vs := [(0, _)]) (zs := [.d (.p (.int .i64 0)), .d (.p (.slice none 0 0))]) 41 Try.underlying22 inf50 rfl rfl (by decide) (by decide) (by decide) rfl rfl rfl rfl (by first | rfl | simp [S.clean, S.put, S.newObj, S.forget, V.has, V.hasL, junkIf, setL, V.cs, hasL_i, hasL_d, hasL_b, hasL_s, hasL_n, hasL_rep, hasL_flat, hasL_append, -List.map_set]) (by first | rfl | simp [S.clean, S.put, S.newObj, S.forget, V.has, V.hasL, junkIf, setL, V.cs, hasL_i, hasL_d, hasL_b, hasL_s, hasL_n, hasL_rep, hasL_flat, hasL_append, -List.map_set]) rfl) ?_
      refine AL.st rfl (st_appendF Try.underlying22 inf50 rfl (by decide) rfl rfl rfl rfl rfl rfl (by first | assumption | rfl | (simp; done)) (by first | rfl | simp [S.clean, S.put, S.newObj, S.forget, V.has, V.hasL, junkIf, setL, V.cs, hasL_i, hasL_d, hasL_b, hasL_s, hasL_n, hasL_rep, hasL_flat, hasL_append, -List.map_set]) rfl rfl rfl rfl rfl (by first | rfl | simp [S.clean, S.put, S.newObj, S.forget, V.has, V.hasL, junkIf, setL, V.cs, hasL_i, hasL_d, hasL_b, hasL_s, hasL_n, hasL_rep, hasL_flat, hasL_append, -List.map_set]) rfl (by decide) (by omega) (by omega) rfl) ?_
      simp only [S.forget, S.put, S.newObj, junkIf, V.has, V.hasL, hasL_i, hasL_b, hasL_s, hasL_d, hasL_n, hasL_rep, hasL_flat, hasL_append, List.map_cons, List.map_nil, List.filter_cons, List.filter_nil, Nat.reduceBNe, Nat.reduceBEq, eq_self, bne_self_eq_false,  Bool.not_true, Bool.not_false, Bool.or_false, Bool.or_true, Bool.false_or, Bool.true_or, if_true, if_false, Bool.false_eq_true, ite_true, ite_false, ↓reduceIte, beq_self_eq_true, Nat.reduceEqDiff]
      (first | (refine AL.rp rfl rfl (rp_field_ref Try.underlying24 rfl rfl rfl inf22 (by decide) rfl) ?_) | (refine AL.rp rfl rfl (rp_field_ad Try.underlying24 rfl rfl rfl inf22 (by decide) rfl) ?_))
      (first | (refine AL.st rfl (st_store_map2 inf22 rfl rfl rfl rfl rfl rfl rfl rfl (by first | assumption | omega)) ?_) | (refine AL.st rfl (st_store inf22 rfl rfl rfl rfl rfl rfl rfl (by first | decide | (simp; done)) rfl) ?_))
      refine AL.nil ?_
      try simp only [thenS, S.put, S.newObj, setL, V.cs, List.length_cons, List.length_nil, List.take_succ_cons, List.take_zero, List.drop_succ_cons, List.drop_zero, List.drop_nil, List.nil_append, List.cons_append, List.append_nil, Nat.zero_add, Nat.reduceAdd, List.map_cons, List.map_nil, List.set_cons_zero, List.set_cons_succ]
      refine AW.region ?_
      refine AL.rp rfl rfl (rp_add rfl rfl rfl (by first | omega | (dsimp only; omega))) ?_
      refine AL.rp rfl rfl (rp_move rfl rfl) ?_
      refine AL.nil ?_
      try simp only [thenS, S.put]
      refine ⟨_, ?_, ⟨q + 1, P ++ [⟨F, A⟩], W, by omega, ?_, rfl⟩, ?_⟩
      ·simp only [List.flatMap_append, List.flatMap_cons, List.flatMap_nil, List.append_nil]
       exact (Less.of rfl (by repeat (first | exact trivial | refine ⟨⟨_, rfl, Wk.refl _⟩, ?_⟩ | refine ⟨⟨_, rfl, Wk.nil _ _⟩, ?_⟩ | refine ⟨⟨_, rfl, Wk.junk _⟩, ?_⟩)) (by repeat (first | exact trivial | refine ⟨rfl, ?_⟩)) rfl)
      ·have e1 : stOf R = ⟨F, A⟩ := by rw [hso, hA]
       have e2 : R.drop (6 + 9 * manyL R) = W := by rw [hMm, hW, ← hR6d, List.drop_drop]
       rw [e1, e2] at hgo
       exact hgo
      ·simp [S.nat, fnd]; omega
    ·have HX := hfail (by unfold okSt; omega)
     refine AW.region ?_
     refine AL.rp rfl rfl (rp_move rfl rfl) ?_
     refine AL.wx rfl (WX.px [2, 3] (ts := [_, _]) (args := [_, _]) (px_take0 R4 2 (by omega) [(3, bxB (.b false)), (2, bxM (.i ((b : Int) - 1)) (.own 901 2 q (decide (q = 0)))), (22, bxM (.i 0) .nil)] _) rfl rfl rfl rfl rfl (LH.of ⟨rfl, rfl, rfl, rfl, trivial⟩) rfl ?_)
     exact ⟨rfl, rfl, rfl, ⟨_, _, _, _, _, rfl⟩, ⟨_, rfl⟩, LH.of (s := ⟨0, [], _, []⟩) ⟨rfl, trivial⟩, rfl, HX⟩
   ·have HX := hfail (by unfold okSt; omega)
    refine AW.seq ?_
    refine AW.region ?_
    (first | (refine AL.rp rfl rfl (rp_lssT rfl rfl rfl (by first | assumption | omega | (dsimp only; omega))) ?_) | (refine AL.rp rfl rfl (rp_lssF rfl rfl rfl (by first | assumption | omega | (dsimp only; omega))) ?_) | (refine AL.rp rfl rfl (rp_lss rfl rfl rfl) ?_))
    refine AL.nil ?_
    try simp only [thenS, S.put]
    refine AW.seq ?_
    refine AW.condT rfl ?_
    refine AW.skip ?_
    try simp only [thenS]
    refine AW.seq ?_
    refine AW.block ?_
    refine AW.seq ?_
    refine AW.region ?_
    refine AL.rp rfl rfl (rp_move rfl rfl) ?_
    refine AL.wx rfl (WX.px [2, 3] (ts := [_, _]) (args := [_, _]) (px_take0 R 4 (by omega) [(3, bxB (.b false)), (2, bxM (.i ((b : Int) - 1)) (.own 901 2 q (decide (q = 0)))), (22, bxM (.i 0) .nil)] _) rfl rfl rfl rfl rfl (LH.of ⟨rfl, rfl, rfl, rfl, trivial⟩) rfl ?_)
    exact ⟨rfl, rfl, rfl, ⟨_, _, _, _, _, rfl⟩, ⟨_, rfl⟩, LH.of (s := ⟨0, [], _, []⟩) ⟨rfl, trivial⟩, rfl, HX⟩
  ·obtain rfl : q = n := by omega
   have hdone := hG.done hlt
   have hRz : R.length = 0 ∨ ¬ R.length = 0 := by omega
   rcases hRz with hz | hz
   ·have hpost : mcP q b R0 (.tup [mV ⟨(b : Int) - 1, P⟩, .b true]) := by
     rw [mcP, hdone, List.eq_nil_of_length_eq_zero hz]; rfl
    refine AW.seq ?_
    refine AW.region ?_
    (first | (refine AL.rp rfl rfl (rp_lssT rfl rfl rfl (by first | assumption | omega | (dsimp only; omega))) ?_) | (refine AL.rp rfl rfl (rp_lssF rfl rfl rfl (by first | assumption | omega | (dsimp only; omega))) ?_) | (refine AL.rp rfl rfl (rp_lss rfl rfl rfl) ?_))
    refine AL.nil ?_
    try simp only [thenS, S.put]
    refine AW.seq ?_
    refine AW.condF rfl ?_
    refine AW.exit ?_
    try simp only [thenS, inBlockS, ↓reduceIte, Nat.reduceEqDiff]
    refine AW.seq ?_
    refine AW.freezeH 2 1 32 (P.map stD) rfl rfl rfl (by decide) rfl rfl (by rw [List.length_map, hPl]) (by omega) (rowsF (enc := stD) (sz := 2) (l := P) (fun _ => rfl) rfl) ?_
    refine AW.drawT (N := ?N40) (l := #[false, false, false, false, false, false, false, false, false]) 9 (by kernel_rfl) rfl rfl ?_ ?_
    rotate_left
    refine AN.rp (i := 1) (l' := #[false, true, false, false, false, false, false, false, false]) rfl rfl rfl (fun _ _ h => h) (by kernel_rfl) rfl (rp_move rfl rfl) ?_
    (first | (refine AN.rp (i := 2) (l' := #[false, true, true, false, false, false, false, false, false]) rfl rfl rfl (fun _ _ h => h) (by kernel_rfl) rfl (rp_nilCheck rfl rfl) ?_) | (refine AN.rp (i := 2) (l' := #[false, true, true, false, false, false, false, false, false]) rfl rfl rfl (fun _ _ h => h) (by kernel_rfl) rfl (rp_nilCheck_ad rfl rfl) ?_))
    (first | (refine AN.rp (i := 3) (l' := #[false, true, true, true, false, false, false, false, false]) rfl rfl rfl (fun _ _ h => h) (by kernel_rfl) rfl (rp_field_ref Try.underlying91 rfl rfl rfl inf43 (by decide) rfl) ?_) | (refine AN.rp (i := 3) (l' := #[false, true, true, true, false, false, false, false, false]) rfl rfl rfl (fun _ _ h => h) (by kernel_rfl) rfl (rp_field_ad Try.underlying91 rfl rfl rfl inf43 (by decide) rfl) ?_))
    refine AN.br2 (i := 0) (j := 4) (by kernel_rfl) ?_ ?_
    ·refine BR.mk (l' := #[true, true, true, true, false, false, false, false, false]) rfl rfl rfl ?_
     (first | (refine ST.rd rfl (rd_loads_ref Try.underlying24 rfl inf24 rfl rfl rfl rfl rfl rfl) ?_) | (refine ST.rd rfl (rd_loads_ad Try.underlying24 rfl inf24 rfl rfl rfl rfl) ?_))
     refine AN.br2 (i := 4) (j := 7) (by kernel_rfl) ?_ ?_
     ·refine BR.mk (l' := #[true, true, true, true, true, false, false, false, false]) rfl rfl rfl ?_
      (first | (refine ST.rd rfl (rd_load_ref Try.underlying43 rfl rfl rfl rfl rfl rfl) ?_) | (refine ST.rd rfl (rd_load_ad Try.underlying43 rfl rfl rfl rfl) ?_) | (refine ST.rd rfl (rd_load_map Try.underlying43 rfl rfl rfl rfl rfl rfl (by assumption)) ?_) | (refine ST.rd rfl (rd_load_flat Try.underlying43 rfl rfl rfl rfl rfl rfl (fun _ => rfl) (by assumption) rfl) ?_))
      (first | (refine AN.rp (i := 5) (l' := #[true, true, true, true, true, true, false, false, false]) rfl rfl rfl (fun _ _ h => h) (by kernel_rfl) rfl (rp_len_map Try.underlying43 rfl rfl (by assumption)) ?_) | (refine AN.rp (i := 5) (l' := #[true, true, true, true, true, true, false, false, false]) rfl rfl rfl (fun _ _ h => h) (by kernel_rfl) rfl (rp_len_own Try.underlying43 rfl rfl) ?_) | (refine AN.rp (i := 5) (l' := #[true, true, true, true, true, true, false, false, false]) rfl rfl rfl (fun _ _ h => h) (by kernel_rfl) rfl (rp_len_sl Try.underlying43 rfl rfl) ?_) | (refine AN.rp (i := 5) (l' := #[true, true, true, true, true, true, false, false, false]) rfl rfl rfl (fun _ _ h => h) (by kernel_rfl) rfl (rp_len_nil Try.underlying43 rfl rfl) ?_) | (refine AN.rp (i := 5) (l' := #[true, true, true, true, true, true, false, false, false]) rfl rfl rfl (fun _ _ h => h) (by kernel_rfl) rfl (rp_len_str Try.underlying43 rfl rfl) ?_))
      (first | (refine AN.rp (i := 6) (l' := #[true, true, true, true, true, true, true, false, false]) rfl rfl rfl (fun _ _ h => h) (by kernel_rfl) rfl (rp_eqlT rfl rfl rfl (by first | assumption | omega | (dsimp only; omega))) ?_) | (refine AN.rp (i := 6) (l' := #[true, true, true, true, true, true, true, false, false]) rfl rfl rfl (fun _ _ h => h) (by kernel_rfl) rfl (rp_eqlF rfl rfl rfl (by first | assumption | omega | (dsimp only; omega))) ?_) | (refine AN.rp (i := 6) (l' := #[true, true, true, true, true, true, true, false, false]) rfl rfl rfl (fun _ _ h => h) (by kernel_rfl) rfl (rp_eql rfl rfl rfl) ?_))
      refine AN.br1 (i := 7) (by kernel_rfl) ?_
      refine BR.mk (l' := #[true, true, true, true, true, true, true, true, false]) rfl rfl rfl ?_
      refine ST.st (st_store_any inf24 rfl rfl rfl rfl rfl rfl rfl rfl (by first | decide | (simp; done) | (simp; omega)) rfl) ?_
      refine AN.br1 (i := 8) (by kernel_rfl) ?_
      refine BR.mk (l' := #[true, true, true, true, true, true, true, true, true]) rfl rfl rfl ?_
      (first | (refine ST.st (st_store_map2 inf4 rfl rfl rfl rfl rfl rfl rfl rfl (by first | assumption | omega)) ?_) | (refine ST.st (st_store inf4 rfl rfl rfl rfl rfl rfl rfl (by first | decide | (simp; done)) rfl) ?_))
      refine AN.nil (by kernel_rfl) ?_
      show Less _ _
      exact Less.dd _
     ·refine BR.mk (l' := #[true, true, true, true, false, false, false, true, false]) rfl rfl rfl ?_
      refine ST.st (st_store_any inf24 rfl rfl rfl rfl rfl rfl rfl rfl (by first | decide | (simp; done) | (simp; omega)) rfl) ?_
      refine AN.br1 (i := 4) (by kernel_rfl) ?_
      refine BR.mk (l' := #[true, true, true, true, true, false, false, true, false]) rfl rfl rfl ?_
      (first | (refine ST.rd rfl (rd_load_ref Try.underlying43 rfl rfl rfl rfl rfl rfl) ?_) | (refine ST.rd rfl (rd_load_ad Try.underlying43 rfl rfl rfl rfl) ?_) | (refine ST.rd rfl (rd_load_map Try.underlying43 rfl rfl rfl rfl rfl rfl (by assumption)) ?_) | (refine ST.rd rfl (rd_load_flat Try.underlying43 rfl rfl rfl rfl rfl rfl (fun _ => rfl) (by assumption) rfl) ?_))
      (first | (refine AN.rp (i := 5) (l' := #[true, true, true, true, true, true, false, true, false]) rfl rfl rfl (fun _ _ h => h) (by kernel_rfl) rfl (rp_len_map Try.underlying43 rfl rfl (by assumption)) ?_) | (refine AN.rp (i := 5) (l' := #[true, true, true, true, true, true, false, true, false]) rfl rfl rfl (fun _ _ h => h) (by kernel_rfl) rfl (rp_len_own Try.underlying43 rfl rfl) ?_) | (refine AN.rp (i := 5) (l' := #[true, true, true, true, true, true, false, true, false]) rfl rfl rfl (fun _ _ h => h) (by kernel_rfl) rfl (rp_len_sl Try.underlying43 rfl rfl) ?_) | (refine AN.rp (i := 5) (l' := #[true, true, true, true, true, true, false, true, false]) rfl rfl rfl (fun _ _ h => h) (by kernel_rfl) rfl (rp_len_nil Try.underlying43 rfl rfl) ?_) | (refine AN.rp (i := 5) (l' := #[true, true, true, true, true, true, false, true, false]) rfl rfl rfl (fun _ _ h => h) (by kernel_rfl) rfl (rp_len_str Try.underlying43 rfl rfl) ?_))
      (first | (refine AN.rp (i := 6) (l' := #[true, true, true, true, true, true, true, true, false]) rfl rfl rfl (fun _ _ h => h) (by kernel_rfl) rfl (rp_eqlT rfl rfl rfl (by first | assumption | omega | (dsimp only; omega))) ?_) | (refine AN.rp (i := 6) (l' := #[true, true, true, true, true, true, true, true, false]) rfl rfl rfl (fun _ _ h => h) (by kernel_rfl) rfl (rp_eqlF rfl rfl rfl (by first | assumption | omega | (dsimp only; omega))) ?_) | (refine AN.rp (i := 6) (l' := #[true, true, true, true, true, true, true, true, false]) rfl rfl rfl (fun _ _ h => h) (by kernel_rfl) rfl (rp_eql rfl rfl rfl) ?_))
      refine AN.br1 (i := 8) (by kernel_rfl) ?_
      refine BR.mk (l' := #[true, true, true, true, true, true, true, true, true]) rfl rfl rfl ?_
      (first | (refine ST.st (st_store_map2 inf4 rfl rfl rfl rfl rfl rfl rfl rfl (by first | assumption | omega)) ?_) | (refine ST.st (st_store inf4 rfl rfl rfl rfl rfl rfl rfl (by first | decide | (simp; done)) rfl) ?_))
      refine AN.nil (by kernel_rfl) ?_
      show Less _ _
      (try simp only [S.put, S.newObj, setL, V.cs, List.length_cons, List.length_nil, List.take_succ_cons, List.take_zero, List.drop_succ_cons, List.drop_zero, List.drop_nil, List.nil_append, List.cons_append, List.append_nil, Nat.zero_add, Nat.reduceAdd, List.map_cons, List.map_nil, List.set_cons_zero, List.set_cons_succ])
      try simp only [S.dd, ddL, List.contains_cons, List.contains_nil, Nat.reduceBEq, beq_self_eq_true, Bool.or_false, Bool.or_true, Bool.false_or, Bool.true_or, Bool.or_self, if_true, if_false, Bool.false_eq_true, ↓reduceIte]
      exact (Less.of rfl (by repeat (first | exact trivial | refine ⟨⟨_, rfl, Wk.refl _⟩, ?_⟩)) (by repeat (first | exact trivial | refine ⟨rfl, ?_⟩)) rfl)
    ·refine BR.mk (l' := #[false, true, true, true, true, false, false, false, false]) rfl rfl rfl ?_
     (first | (refine ST.rd rfl (rd_load_ref Try.underlying43 rfl rfl rfl rfl rfl rfl) ?_) | (refine ST.rd rfl (rd_load_ad Try.underlying43 rfl rfl rfl rfl) ?_) | (refine ST.rd rfl (rd_load_map Try.underlying43 rfl rfl rfl rfl rfl rfl (by assumption)) ?_) | (refine ST.rd rfl (rd_load_flat Try.underlying43 rfl rfl rfl rfl rfl rfl (fun _ => rfl) (by assumption) rfl) ?_))
     (first | (refine AN.rp (i := 5) (l' := #[false, true, true, true, true, true, false, false, false]) rfl rfl rfl (fun _ _ h => h) (by kernel_rfl) rfl (rp_len_map Try.underlying43 rfl rfl (by assumption)) ?_) | (refine AN.rp (i := 5) (l' := #[false, true, true, true, true, true, false, false, false]) rfl rfl rfl (fun _ _ h => h) (by kernel_rfl) rfl (rp_len_own Try.underlying43 rfl rfl) ?_) | (refine AN.rp (i := 5) (l' := #[false, true, true, true, true, true, false, false, false]) rfl rfl rfl (fun _ _ h => h) (by kernel_rfl) rfl (rp_len_sl Try.underlying43 rfl rfl) ?_) | (refine AN.rp (i := 5) (l' := #[false, true, true, true, true, true, false, false, false]) rfl rfl rfl (fun _ _ h => h) (by kernel_rfl) rfl (rp_len_nil Try.underlying43 rfl rfl) ?_) | (refine AN.rp (i := 5) (l' := #[false, true, true, true, true, true, false, false, false]) rfl rfl rfl (fun _ _ h => h) (by kernel_rfl) rfl (rp_len_str Try.underlying43 rfl rfl) ?_))
     (first | (refine AN.rp (i := 6) (l' := #[false, true, true, true, true, true, true, false, false]) rfl rfl rfl (fun _ _ h => h) (by kernel_rfl) rfl (rp_eqlT rfl rfl rfl (by first | assumption | omega | (dsimp only; omega))) ?_) | (refine AN.rp (i := 6) (l' := #[false, true, true, true, true, true, true, false, false]) rfl rfl rfl (fun _ _ h => h) (by kernel_rfl) rfl (rp_eqlF rfl rfl rfl (by first | assumption | omega | (dsimp only; omega))) ?_) | (refine AN.rp (i := 6) (l' := #[false, true, true, true, true, true, true, false, false]) rfl rfl rfl (fun _ _ h => h) (by kernel_rfl) rfl (rp_eql rfl rfl rfl) ?_))
     refine AN.br1 (i := 0) (by kernel_rfl) ?_
     refine BR.mk (l' := #[true, true, true, true, true, true, true, false, false]) rfl rfl rfl ?_
     (first | (refine ST.rd rfl (rd_loads_ref Try.underlying24 rfl inf24 rfl rfl rfl rfl rfl rfl) ?_) | (refine ST.rd rfl (rd_loads_ad Try.underlying24 rfl inf24 rfl rfl rfl rfl) ?_))
     refine AN.br1 (i := 7) (by kernel_rfl) ?_
     refine BR.mk (l' := #[true, true, true, true, true, true, true, true, false]) rfl rfl rfl ?_
     refine ST.st (st_store_any inf24 rfl rfl rfl rfl rfl rfl rfl rfl (by first | decide | (simp; done) | (simp; omega)) rfl) ?_
     refine AN.br1 (i := 8) (by kernel_rfl) ?_
     refine BR.mk (l' := #[true, true, true, true, true, true, true, true, true]) rfl rfl rfl ?_
     (first | (refine ST.st (st_store_map2 inf4 rfl rfl rfl rfl rfl rfl rfl rfl (by first | assumption | omega)) ?_) | (refine ST.st (st_store inf4 rfl rfl rfl rfl rfl rfl rfl (by first | decide | (simp; done)) rfl) ?_))
     refine AN.nil (by kernel_rfl) ?_
     show Less _ _
     (try simp only [S.put, S.newObj, setL, V.cs, List.length_cons, List.length_nil, List.take_succ_cons, List.take_zero, List.drop_succ_cons, List.drop_zero, List.drop_nil, List.nil_append, List.cons_append, List.append_nil, Nat.zero_add, Nat.reduceAdd, List.map_cons, List.map_nil, List.set_cons_zero, List.set_cons_succ])
     try simp only [S.dd, ddL, List.contains_cons, List.contains_nil, Nat.reduceBEq, beq_self_eq_true, Bool.or_false, Bool.or_true, Bool.false_or, Bool.true_or, Bool.or_self, if_true, if_false, Bool.false_eq_true, ↓reduceIte]
     exact (Less.of rfl (by repeat (first | exact trivial | refine ⟨⟨_, rfl, Wk.refl _⟩, ?_⟩)) (by repeat (first | exact trivial | refine ⟨rfl, ?_⟩)) rfl)
    (try simp only [S.put, S.newObj, setL, V.cs, List.length_cons, List.length_nil, List.take_succ_cons, List.take_zero, List.drop_succ_cons, List.drop_zero, List.drop_nil, List.nil_append, List.cons_append, List.append_nil, Nat.zero_add, Nat.reduceAdd, List.map_cons, List.map_nil, List.set_cons_zero, List.set_cons_succ])
    try simp only [S.dd, ddL, List.contains_cons, List.contains_nil, Nat.reduceBEq, beq_self_eq_true, Bool.or_false, Bool.or_true, Bool.false_or, Bool.true_or, Bool.or_self, if_true, if_false, Bool.false_eq_true, ↓reduceIte]
    try simp only [thenS, S.put, S.newObj, setL, V.cs, List.length_cons, List.length_nil, List.take_succ_cons, List.take_zero, List.drop_succ_cons, List.drop_zero, List.drop_nil, List.nil_append, List.cons_append, List.append_nil, Nat.zero_add, Nat.reduceAdd, List.map_cons, List.map_nil, List.set_cons_zero, List.set_cons_succ]
    refine AW.ret ?_
    exact ⟨[_, _], ⟨⟨2, 0, _, _, rfl, rfl, rfl, Try.underlying24, .inr ⟨rfl, _, _, _, _, inf24, rfl, rfl, rfl⟩⟩, ⟨3, 0, _, _, rfl, rfl, rfl, Try.underlying4, .inl ⟨rfl, rfl⟩⟩, trivial⟩, hpost, by simp [tupOf, V.pure, V.has, V.hasL], LH.of ⟨rfl, trivial⟩, rfl⟩
   ·have hpost : mcP q b R0 (.tup [mV ⟨(b : Int) - 1, P⟩, .b false]) := by
     rw [mcP, hdone]
     show _ = V.tup [_, V.b (decide (R = []))]
     rw [decide_eq_false (by rintro rfl; exact hz rfl)]
    have hz2 : ¬ (((R.map encB).length : Nat) : Int) = 0 := by rw [List.length_map]; omega
    refine AW.seq ?_
    refine AW.region ?_
    (first | (refine AL.rp rfl rfl (rp_lssT rfl rfl rfl (by first | assumption | omega | (dsimp only; omega))) ?_) | (refine AL.rp rfl rfl (rp_lssF rfl rfl rfl (by first | assumption | omega | (dsimp only; omega))) ?_) | (refine AL.rp rfl rfl (rp_lss rfl rfl rfl) ?_))
    refine AL.nil ?_
    try simp only [thenS, S.put]
    refine AW.seq ?_
    refine AW.condF rfl ?_
    refine AW.exit ?_
    try simp only [thenS, inBlockS, ↓reduceIte, Nat.reduceEqDiff]
    refine AW.seq ?_
    refine AW.freezeH 2 1 32 (P.map stD) rfl rfl rfl (by decide) rfl rfl (by rw [List.length_map, hPl]) (by omega) (rowsF (enc := stD) (sz := 2) (l := P) (fun _ => rfl) rfl) ?_
    refine AW.drawT (N := ?N41) (l := #[false, false, false, false, false, false, false, false, false]) 9 (by kernel_rfl) rfl rfl ?_ ?_
    rotate_left
    refine AN.rp (i := 1) (l' := #[false, true, false, false, false, false, false, false, false]) rfl rfl rfl (fun _ _ h => h) (by kernel_rfl) rfl (rp_move rfl rfl) ?_
    (first | (refine AN.rp (i := 2) (l' := #[false, true, true, false, false, false, false, false, false]) rfl rfl rfl (fun _ _ h => h) (by kernel_rfl) rfl (rp_nilCheck rfl rfl) ?_) | (refine AN.rp (i := 2) (l' := #[false, true, true, false, false, false, false, false, false]) rfl rfl rfl (fun _ _ h => h) (by kernel_rfl) rfl (rp_nilCheck_ad rfl rfl) ?_))
    (first | (refine AN.rp (i := 3) (l' := #[false, true, true, true, false, false, false, false, false]) rfl rfl rfl (fun _ _ h => h) (by kernel_rfl) rfl (rp_field_ref Try.underlying91 rfl rfl rfl inf43 (by decide) rfl) ?_) | (refine AN.rp (i := 3) (l' := #[false, true, true, true, false, false, false, false, false]) rfl rfl rfl (fun _ _ h => h) (by kernel_rfl) rfl (rp_field_ad Try.underlying91 rfl rfl rfl inf43 (by decide) rfl) ?_))
    refine AN.br2 (i := 0) (j := 4) (by kernel_rfl) ?_ ?_
    ·refine BR.mk (l' := #[true, true, true, true, false, false, false, false, false]) rfl rfl rfl ?_
     (first | (refine ST.rd rfl (rd_loads_ref Try.underlying24 rfl inf24 rfl rfl rfl rfl rfl rfl) ?_) | (refine ST.rd rfl (rd_loads_ad Try.underlying24 rfl inf24 rfl rfl rfl rfl) ?_))
     refine AN.br2 (i := 4) (j := 7) (by kernel_rfl) ?_ ?_
     ·refine BR.mk (l' := #[true, true, true, true, true, false, false, false, false]) rfl rfl rfl ?_
      (first | (refine ST.rd rfl (rd_load_ref Try.underlying43 rfl rfl rfl rfl rfl rfl) ?_) | (refine ST.rd rfl (rd_load_ad Try.underlying43 rfl rfl rfl rfl) ?_) | (refine ST.rd rfl (rd_load_map Try.underlying43 rfl rfl rfl rfl rfl rfl (by assumption)) ?_) | (refine ST.rd rfl (rd_load_flat Try.underlying43 rfl rfl rfl rfl rfl rfl (fun _ => rfl) (by assumption) rfl) ?_))
      (first | (refine AN.rp (i := 5) (l' := #[true, true, true, true, true, true, false, false, false]) rfl rfl rfl (fun _ _ h => h) (by kernel_rfl) rfl (rp_len_map Try.underlying43 rfl rfl (by assumption)) ?_) | (refine AN.rp (i := 5) (l' := #[true, true, true, true, true, true, false, false, false]) rfl rfl rfl (fun _ _ h => h) (by kernel_rfl) rfl (rp_len_own Try.underlying43 rfl rfl) ?_) | (refine AN.rp (i := 5) (l' := #[true, true, true, true, true, true, false, false, false]) rfl rfl rfl (fun _ _ h => h) (by kernel_rfl) rfl (rp_len_sl Try.underlying43 rfl rfl) ?_) | (refine AN.rp (i := 5) (l' := #[true, true, true, true, true, true, false, false, false]) rfl rfl rfl (fun _ _ h => h) (by kernel_rfl) rfl (rp_len_nil Try.underlying43 rfl rfl) ?_) | (refine AN.rp (i := 5) (l' := #[true, true, true, true, true, true, false, false, false]) rfl rfl rfl (fun _ _ h => h) (by kernel_rfl) rfl (rp_len_str Try.underlying43 rfl rfl) ?_))
      (first | (refine AN.rp (i := 6) (l' := #[true, true, true, true, true, true, true, false, false]) rfl rfl rfl (fun _ _ h => h) (by kernel_rfl) rfl (rp_eqlT rfl rfl rfl (by first | assumption | omega | (dsimp only; omega))) ?_) | (refine AN.rp (i := 6) (l' := #[true, true, true, true, true, true, true, false, false]) rfl rfl rfl (fun _ _ h => h) (by kernel_rfl) rfl (rp_eqlF rfl rfl rfl (by first | assumption | omega | (dsimp only; omega))) ?_) | (refine AN.rp (i := 6) (l' := #[true, true, true, true, true, true, true, false, false]) rfl rfl rfl (fun _ _ h => h) (by kernel_rfl) rfl (rp_eql rfl rfl rfl) ?_))
      refine AN.br1 (i := 7) (by kernel_rfl) ?_
      refine BR.mk (l' := #[true, true, true, true, true, true, true, true, false]) rfl rfl rfl ?_
      refine ST.st (st_store_any inf24 rfl rfl rfl rfl rfl rfl rfl rfl (by first | decide | (simp; done) | (simp; omega)) rfl) ?_
      refine AN.br1 (i := 8) (by kernel_rfl) ?_
      refine BR.mk (l' := #[true, true, true, true, true, true, true, true, true]) rfl rfl rfl ?_
      (first | (refine ST.st (st_store_map2 inf4 rfl rfl rfl rfl rfl rfl rfl rfl (by first | assumption | omega)) ?_) | (refine ST.st (st_store inf4 rfl rfl rfl rfl rfl rfl rfl (by first | decide | (simp; done)) rfl) ?_))
      refine AN.nil (by kernel_rfl) ?_
      show Less _ _
      exact Less.dd _
     ·refine BR.mk (l' := #[true, true, true, true, false, false, false, true, false]) rfl rfl rfl ?_
      refine ST.st (st_store_any inf24 rfl rfl rfl rfl rfl rfl rfl rfl (by first | decide | (simp; done) | (simp; omega)) rfl) ?_
      refine AN.br1 (i := 4) (by kernel_rfl) ?_
      refine BR.mk (l' := #[true, true, true, true, true, false, false, true, false]) rfl rfl rfl ?_
      (first | (refine ST.rd rfl (rd_load_ref Try.underlying43 rfl rfl rfl rfl rfl rfl) ?_) | (refine ST.rd rfl (rd_load_ad Try.underlying43 rfl rfl rfl rfl) ?_) | (refine ST.rd rfl (rd_load_map Try.underlying43 rfl rfl rfl rfl rfl rfl (by assumption)) ?_) | (refine ST.rd rfl (rd_load_flat Try.underlying43 rfl rfl rfl rfl rfl rfl (fun _ => rfl) (by assumption) rfl) ?_))
      (first | (refine AN.rp (i := 5) (l' := #[true, true, true, true, true, true, false, true, false]) rfl rfl rfl (fun _ _ h => h) (by kernel_rfl) rfl (rp_len_map Try.underlying43 rfl rfl (by assumption)) ?_) | (refine AN.rp (i := 5) (l' := #[true, true, true, true, true, true, false, true, false]) rfl rfl rfl (fun _ _ h => h) (by kernel_rfl) rfl (rp_len_own Try.underlying43 rfl rfl) ?_) | (refine AN.rp (i := 5) (l' := #[true, true, true, true, true, true, false, true, false]) rfl rfl rfl (fun _ _ h => h) (by kernel_rfl) rfl (rp_len_sl Try.underlying43 rfl rfl) ?_) | (refine AN.rp (i := 5) (l' := #[true, true, true, true, true, true, false, true, false]) rfl rfl rfl (fun _ _ h => h) (by kernel_rfl) rfl (rp_len_nil Try.underlying43 rfl rfl) ?_) | (refine AN.rp (i := 5) (l' := #[true, true, true, true, true, true, false, true, false]) rfl rfl rfl (fun _ _ h => h) (by kernel_rfl) rfl (rp_len_str Try.underlying43 rfl rfl) ?_))
      (first | (refine AN.rp (i := 6) (l' := #[true, true, true, true, true, true, true, true, false]) rfl rfl rfl (fun _ _ h => h) (by kernel_rfl) rfl (rp_eqlT rfl rfl rfl (by first | assumption | omega | (dsimp only; omega))) ?_) | (refine AN.rp (i := 6) (l' := #[true, true, true, true, true, true, true, true, false]) rfl rfl rfl (fun _ _ h => h) (by kernel_rfl) rfl (rp_eqlF rfl rfl rfl (by first | assumption | omega | (dsimp only; omega))) ?_) | (refine AN.rp (i := 6) (l' := #[true, true, true, true, true, true, true, true, false]) rfl rfl rfl (fun _ _ h => h) (by kernel_rfl) rfl (rp_eql rfl rfl rfl) ?_))
      refine AN.br1 (i := 8) (by kernel_rfl) ?_
      refine BR.mk (l' := #[true, true, true, true, true, true, true, true, true]) rfl rfl rfl ?_
      (first | (refine ST.st (st_store_map2 inf4 rfl rfl rfl rfl rfl rfl rfl rfl (by first | assumption | omega)) ?_) | (refine ST.st (st_store inf4 rfl rfl rfl rfl rfl rfl rfl (by first | decide | (simp; done)) rfl) ?_))
      refine AN.nil (by kernel_rfl) ?_
      show Less _ _
      (try simp only [S.put, S.newObj, setL, V.cs, List.length_cons, List.length_nil, List.take_succ_cons, List.take_zero, List.drop_succ_cons, List.drop_zero, List.drop_nil, List.nil_append, List.cons_append, List.append_nil, Nat.zero_add, Nat.reduceAdd, List.map_cons, List.map_nil, List.set_cons_zero, List.set_cons_succ])
      try simp only [S.dd, ddL, List.contains_cons, List.contains_nil, Nat.reduceBEq, beq_self_eq_true, Bool.or_false, Bool.or_true, Bool.false_or, Bool.true_or, Bool.or_self, if_true, if_false, Bool.false_eq_true, ↓reduceIte]
      exact (Less.of rfl (by repeat (first | exact trivial | refine ⟨⟨_, rfl, Wk.refl _⟩, ?_⟩)) (by repeat (first | exact trivial | refine ⟨rfl, ?_⟩)) rfl)
    ·refine BR.mk (l' := #[false, true, true, true, true, false, false, false, false]) rfl rfl rfl ?_
     (first | (refine ST.rd rfl (rd_load_ref Try.underlying43 rfl rfl rfl rfl rfl rfl) ?_) | (refine ST.rd rfl (rd_load_ad Try.underlying43 rfl rfl rfl rfl) ?_) | (refine ST.rd rfl (rd_load_map Try.underlying43 rfl rfl rfl rfl rfl rfl (by assumption)) ?_) | (refine ST.rd rfl (rd_load_flat Try.underlying43 rfl rfl rfl rfl rfl rfl (fun _ => rfl) (by assumption) rfl) ?_))
     (first | (refine AN.rp (i := 5) (l' := #[false, true, true, true, true, true, false, false, false]) rfl rfl rfl (fun _ _ h => h) (by kernel_rfl) rfl (rp_len_map Try.underlying43 rfl rfl (by assumption)) ?_) | (refine AN.rp (i := 5) (l' := #[false, true, true, true, true, true, false, false, false]) rfl rfl rfl (fun _ _ h => h) (by kernel_rfl) rfl (rp_len_own Try.underlying43 rfl rfl) ?_) | (refine AN.rp (i := 5) (l' := #[false, true, true, true, true, true, false, false, false]) rfl rfl rfl (fun _ _ h => h) (by kernel_rfl) rfl (rp_len_sl Try.underlying43 rfl rfl) ?_) | (refine AN.rp (i := 5) (l' := #[false, true, true, true, true, true, false, false, false]) rfl rfl rfl (fun _ _ h => h) (by kernel_rfl) rfl (rp_len_nil Try.underlying43 rfl rfl) ?_) | (refine AN.rp (i := 5) (l' := #[false, true, true, true, true, true, false, false, false]) rfl rfl rfl (fun _ _ h => h) (by kernel_rfl) rfl (rp_len_str Try.underlying43 rfl rfl) ?_))
     (first | (refine AN.rp (i := 6) (l' := #[false, true, true, true, true, true, true, false, false]) rfl rfl rfl (fun _ _ h => h) (by kernel_rfl) rfl (rp_eqlT rfl rfl rfl (by first | assumption | omega | (dsimp only; omega))) ?_) | (refine AN.rp (i := 6) (l' := #[false, true, true, true, true, true, true, false, false]) rfl rfl rfl (fun _ _ h => h) (by kernel_rfl) rfl (rp_eqlF rfl rfl rfl (by first | assumption | omega | (dsimp only; omega))) ?_) | (refine AN.rp (i := 6) (l' := #[false, true, true, true, true, true, true, false, false]) rfl rfl rfl (fun _ _ h => h) (by kernel_rfl) rfl (rp_eql rfl rfl rfl) ?_))
     refine AN.br1 (i := 0) (by kernel_rfl) ?_
     refine BR.mk (l' := #[true, true, true, true, true, true, true, false, false]) rfl rfl rfl ?_
     (first | (refine ST.rd rfl (rd_loads_ref Try.underlying24 rfl inf24 rfl rfl rfl rfl rfl rfl) ?_) | (refine ST.rd rfl (rd_loads_ad Try.underlying24 rfl inf24 rfl rfl rfl rfl) ?_))
     refine AN.br1 (i := 7) (by kernel_rfl) ?_
     refine BR.mk (l' := #[true, true, true, true, true, true, true, true, false]) rfl rfl rfl ?_
     refine ST.st (st_store_any inf24 rfl rfl rfl rfl rfl rfl rfl rfl (by first | decide | (simp; done) | (simp; omega)) rfl) ?_
     refine AN.br1 (i := 8) (by kernel_rfl) ?_
     refine BR.mk (l' := #[true, true, true, true, true, true, true, true, true]) rfl rfl rfl ?_
     (first | (refine ST.st (st_store_map2 inf4 rfl rfl rfl rfl rfl rfl rfl rfl (by first | assumption | omega)) ?_) | (refine ST.st (st_store inf4 rfl rfl rfl rfl rfl rfl rfl (by first | decide | (simp; done)) rfl) ?_))
     refine AN.nil (by kernel_rfl) ?_
     show Less _ _
     (try simp only [S.put, S.newObj, setL, V.cs, List.length_cons, List.length_nil, List.take_succ_cons, List.take_zero, List.drop_succ_cons, List.drop_zero, List.drop_nil, List.nil_append, List.cons_append, List.append_nil, Nat.zero_add, Nat.reduceAdd, List.map_cons, List.map_nil, List.set_cons_zero, List.set_cons_succ])
     try simp only [S.dd, ddL, List.contains_cons, List.contains_nil, Nat.reduceBEq, beq_self_eq_true, Bool.or_false, Bool.or_true, Bool.false_or, Bool.true_or, Bool.or_self, if_true, if_false, Bool.false_eq_true, ↓reduceIte]
     exact (Less.of rfl (by repeat (first | exact trivial | refine ⟨⟨_, rfl, Wk.refl _⟩, ?_⟩)) (by repeat (first | exact trivial | refine ⟨rfl, ?_⟩)) rfl)
    (try simp only [S.put, S.newObj, setL, V.cs, List.length_cons, List.length_nil, List.take_succ_cons, List.take_zero, List.drop_succ_cons, List.drop_zero, List.drop_nil, List.nil_append, List.cons_append, List.append_nil, Nat.zero_add, Nat.reduceAdd, List.map_cons, List.map_nil, List.set_cons_zero, List.set_cons_succ])
    try simp only [S.dd, ddL, List.contains_cons, List.contains_nil, Nat.reduceBEq, beq_self_eq_true, Bool.or_false, Bool.or_true, Bool.false_or, Bool.true_or, Bool.or_self, if_true, if_false, Bool.false_eq_true, ↓reduceIte]
    try simp only [thenS, S.put, S.newObj, setL, V.cs, List.length_cons, List.length_nil, List.take_succ_cons, List.take_zero, List.drop_succ_cons, List.drop_zero, List.drop_nil, List.nil_append, List.cons_append, List.append_nil, Nat.zero_add, Nat.reduceAdd, List.map_cons, List.map_nil, List.set_cons_zero, List.set_cons_succ]
    refine AW.ret ?_
    exact ⟨[_, _], ⟨⟨2, 0, _, _, rfl, rfl, rfl, Try.underlying24, .inr ⟨rfl, _, _, _, _, inf24, rfl, rfl, rfl⟩⟩, ⟨3, 0, _, _, rfl, rfl, rfl, Try.underlying4, .inl ⟨rfl, rfl⟩⟩, trivial⟩, hpost, by simp [tupOf, V.pure, V.has, V.hasL], LH.of ⟨rfl, trivial⟩, rfl⟩
end Go.Proofs.Ythlcginebeapdaa
