-- %hmode
/- The document's remainder: a long division. -/
import Derived.Test.YthlcginebeapdaaAmPck
import Derived.Test.YthlcginebeapdaaAmIZ
namespace Go.Proofs.Ythlcginebeapdaa
open Go.RowKit
set_option linter.unusedSimpArgs false
set_option linter.unusedVariables false
set_option maxRecDepth 100000

def bI (b : Bool) : Int := ((b.toNat : Nat) : Int)
abbrev vI (b : Bool) : V := .i (bI b)
theorem bI_01 (b : Bool) : 0 ≤ bI b ∧ bI b ≤ 1 := by cases b <;> decide
theorem bI_not (b : Bool) : 1 - bI b = bI (!b) := by cases b <;> decide
theorem bI_xor (x y : Bool) : (bI x + bI y) % 2 = bI (x != y) := by cases x <;> cases y <;> decide
theorem bI_mbit {l : List Nat} {i c : Nat} (h : l[i / 8]? = some c) : ((c / 2 ^ (7 - i % 8) : Nat) : Int) % 2 = bI (mbit l i) := by
 unfold mbit bI
 rw [List.getD_eq_getElem?_getD, h, Option.getD_some, Nat.testBit_eq_decide_div_mod_eq]
 generalize c / 2 ^ (7 - i % 8) = q
 rcases Nat.mod_two_eq_zero_or_one q with h1 | h1
 ·simp only [h1, show ¬ (0 : Nat) = 1 by decide, decide_false, Bool.toNat_false]; omega
 ·simp only [h1, decide_true, Bool.toNat_true]; omega
theorem remB_lt (R : Nat → Bool) (n : Nat) : ∀ t, remB R n t < 2 ^ t
 | 0 => by simp [remB]
 | t + 1 => by
  have h1 := remB_lt R n t
  have h2 : (R (n + t)).toNat ≤ 1 := by cases R (n + t) <;> simp
  rw [remB, Nat.pow_succ]; omega
theorem set_bits {L : List Bool} {N p : Nat} {F G : Nat → Bool} (hL : L.length = N) (h : ∀ j, j < N → L[j]? = some (F j)) (hp : p < N) (hG : ∀ j, j < N → j ≠ p → G j = F j) : ∀ j, j < N → (L.set p (G p))[j]? = some (G j) := by
 intro j hj
 rw [List.getElem?_set]
 by_cases e : p = j
 ·subst e; rw [if_pos rfl, if_pos (by omega)]
 ·rw [if_neg e, h j hj, hG j hj (Ne.symm e)]

theorem am_Rem (l : List Nat) (hb : ∀ c ∈ l, c < 256) (hl : l.length ≤ 100000) : Fn Try.prog 50 [.d (bytesD l)] (fun v => v = .i ((crc l : Nat) : Int)) := by
 obtain ⟨m, hm⟩ : ∃ n, l.length = n := ⟨_, rfl⟩
 rw [hm] at hl
 have hbl : (bytesD l) = .sl 1 1 (l.map encB) := rfl
 obtain ⟨n, hn⟩ : ∃ n, 8 * m = n := ⟨_, rfl⟩
 obtain ⟨N, hN⟩ : ∃ N, n + 16 = N := ⟨_, rfl⟩
 have hcrc := crc_eq hb
 rw [hm, hn] at hcrc
 have h14 : (8 : Int) * ((l.length : Nat) : Int) = (n : Int) := by omega
 have h16 : (n : Int) + 16 = (N : Int) := by omega
 refine Fn.intro (n := 97) ⟨Try.func50, rfl, rfl, rfl, rfl⟩ (by simp [V.pure, V.has, V.hasL]) (by simp) fun w0 out => ?_
 refine AW.seq ?_
 refine AW.region ?_
 refine AL.rp rfl rfl (rp_assign rfl rfl) ?_
 refine AL.nil ?_
 try simp only [thenS, S.put, enum, List.nil_append, List.cons_append, List.append_nil, Nat.zero_add, Nat.reduceAdd]
 refine AW.seq ?_
 refine AW.region ?_
 refine AL.rp rfl rfl (rp_move rfl rfl) ?_
 (first | (refine AL.rp rfl rfl (rp_len_map Try.underlying43 rfl rfl (by assumption)) ?_) | (refine AL.rp rfl rfl (rp_len_own Try.underlying43 rfl rfl) ?_) | (refine AL.rp rfl rfl (rp_len_sl Try.underlying43 rfl rfl) ?_) | (refine AL.rp rfl rfl (rp_len_nil Try.underlying43 rfl rfl) ?_) | (refine AL.rp rfl rfl (rp_len_str Try.underlying43 rfl rfl) ?_))
 refine AL.rp rfl rfl (rp_mulZ ((n : Int)) rfl rfl rfl (by omega) (by omega)) ?_
 refine AL.rp rfl rfl (rp_assign rfl rfl) ?_
 refine AL.nil ?_
 try simp only [thenS, S.put]
 refine AW.seq ?_
 refine AW.region ?_
 refine AL.rp rfl rfl (rp_move rfl rfl) ?_
 refine AL.rp rfl rfl (rp_addZ ((N : Int)) rfl rfl rfl (by omega) (by omega)) ?_
 refine AL.sm rfl (sm_make_map 17 V.i (0) Try.underlying82 inf3 rfl rfl rfl rfl rfl (by omega) (by decide) (by first | rfl | simp [S.clean, S.put, S.newObj, S.forget, V.has, V.hasL, junkIf, setL, V.cs, hasL_i, hasL_d, hasL_b, hasL_s, hasL_n, hasL_rep, hasL_flat, hasL_append, -List.map_set]) rfl) ?_
 refine AL.rp rfl rfl (rp_assign rfl rfl) ?_
 refine AL.nil ?_
 try simp only [thenS, S.put, S.newObj, setL, V.cs, List.length_cons, List.length_nil, List.take_succ_cons, List.take_zero, List.drop_succ_cons, List.drop_zero, List.drop_nil, List.nil_append, List.cons_append, List.append_nil, Nat.zero_add, Nat.reduceAdd, List.map_cons, List.map_nil, List.set_cons_zero, List.set_cons_succ]
 refine AW.seq ?_
 refine AW.seq ?_
 refine AW.region ?_
 refine AL.rp rfl rfl (rp_assign rfl rfl) ?_
 refine AL.nil ?_
 try simp only [thenS, S.put]
 refine AW.block ?_
 refine AW.loop (fun s' => ∃ (i : Nat) (L : List Bool), i ≤ n ∧ L.length = N ∧ (∀ j, j < N → L[j]? = some (decide (j < i) && mbit l j)) ∧ s' = ⟨97, [(0, .d (bytesD l)), (3, .i n), (4, .own 17 1 N false), (5, .i i)], [(17, ⟨3, L.map vI, false, 1⟩)], []⟩) (fun s => n - s.nat 5) ?_ ?_
 ·refine ⟨_, ?_, 0, List.replicate N false, Nat.zero_le _, by simp, fun j hj => by simp [hj], rfl⟩
  rw [show (List.replicate N false).map vI = (List.replicate N (0 : Int)).map V.i by rw [List.map_replicate, List.map_replicate]; rfl]
  exact (Less.of rfl (by repeat (first | exact trivial | refine ⟨⟨_, rfl, Wk.refl _⟩, ?_⟩ | refine ⟨⟨_, rfl, Wk.nil _ _⟩, ?_⟩ | refine ⟨⟨_, rfl, Wk.junk _⟩, ?_⟩)) (by repeat (first | exact trivial | refine ⟨rfl, ?_⟩)) rfl)
 rintro s' ⟨i, L, hi, hL, hLj, rfl⟩
 by_cases hlt : i < n
 ·obtain ⟨c, hc⟩ := get_lt hm (show i / 8 < m by omega)
  have hc2 := hb c (List.mem_of_getElem? hc)
  have hbit := bI_mbit hc
  have h01 := bI_01 (mbit l i)
  have hiL : i < L.length := by omega
  have hq : (c : Int) / 2 ^ (7 - i % 8) = ((c / 2 ^ (7 - i % 8) : Nat) : Int) := by simp
  have hqle : c / 2 ^ (7 - i % 8) ≤ c := Nat.div_le_self _ _
  obtain ⟨q, hqd⟩ : ∃ q, c / 2 ^ (7 - i % 8) = q := ⟨_, rfl⟩
  rw [hqd] at hq hqle hbit
  refine AW.seq ?_
  refine AW.seq ?_
  refine AW.region ?_
  refine AL.rp rfl rfl (rp_move rfl rfl) ?_
  refine AL.rp rfl rfl (rp_move rfl rfl) ?_
  (first | (refine AL.rp rfl rfl (rp_lssT rfl rfl rfl (by first | assumption | omega | (dsimp only; omega))) ?_) | (refine AL.rp rfl rfl (rp_lssF rfl rfl rfl (by first | assumption | omega | (dsimp only; omega))) ?_) | (refine AL.rp rfl rfl (rp_lss rfl rfl rfl) ?_))
  refine AL.nil ?_
  try simp only [thenS, S.put]
  refine AW.condT rfl ?_
  refine AW.skip ?_
  try simp only [thenS]
  refine AW.seq ?_
  refine AW.block ?_
  refine AW.region ?_
  refine AL.rp rfl rfl (rp_move rfl rfl) ?_
  refine AL.rp rfl rfl (rp_move rfl rfl) ?_
  refine AL.rp rfl rfl (rp_move rfl rfl) ?_
  refine AL.rp rfl rfl (rp_move rfl rfl) ?_
  refine AL.rp rfl rfl (rp_quo rfl rfl rfl (by omega)) ?_
  (first | (refine AL.rp rfl rfl (rp_index_own (k := i / 8) Try.underlying43 inf5 rfl rfl rfl (by omega) (by omega)) ?_) | (refine AL.rp rfl rfl (rp_index_map (k := i / 8) Try.underlying43 inf5 rfl rfl rfl (by omega) (by assumption)) ?_))
  (first | (refine AL.rd rfl rfl (rd_load_ref Try.underlying5 rfl rfl rfl rfl rfl rfl) ?_) | (refine AL.rd rfl rfl (rd_load_ad Try.underlying5 rfl rfl rfl rfl) ?_) | (refine AL.rd rfl rfl (rd_load_map Try.underlying5 rfl rfl rfl rfl rfl rfl (by assumption)) ?_) | (refine AL.rd rfl rfl (rd_load_flat Try.underlying5 rfl rfl rfl rfl rfl rfl (fun _ => rfl) (by assumption) rfl) ?_))
  refine AL.rp rfl rfl (rp_conv Try.underlying5 (by intro e h; cases h) (by intro h; cases h) Try.underlying3 rfl rfl (r := (c : Int)) (by first | (rw [wrap8]; omega) | (rw [wrap8]; dsimp only; omega) | (rw [wrap16]; omega) | (rw [wrap64 (by omega)] <;> omega) | (rw [wrapU64 (by omega)] <;> omega))) ?_
  refine AL.rp rfl rfl (rp_move rfl rfl) ?_
  refine AL.rp rfl rfl (rp_rem rfl rfl rfl (by omega)) ?_
  refine AL.rp rfl rfl (rp_sub rfl rfl rfl (by first | omega | (dsimp only; omega))) ?_
  refine AL.rp rfl rfl (rp_conv Try.underlying3 (by intro e h; cases h) (by intro h; cases h) Try.underlying111 rfl rfl (r := ((7 - i % 8 : Nat) : Int)) (by first | (rw [wrap8]; omega) | (rw [wrap8]; dsimp only; omega) | (rw [wrap16]; omega) | (rw [wrap64 (by omega)] <;> omega) | (rw [wrapU64 (by omega)] <;> omega))) ?_
  refine AL.rp rfl rfl (rp_shr (7 - i % 8) rfl rfl rfl (by first | rfl | omega) (by omega) (r := (q : Int)) (by first | assumption | rfl | omega)) ?_
  refine AL.rp rfl rfl (rp_remZ (bI (mbit l i)) rfl rfl rfl (by omega) (by omega)) ?_
  (first | (refine AL.rp rfl rfl (rp_index_own (k := i) Try.underlying82 inf3 rfl rfl rfl (by omega) (by omega)) ?_) | (refine AL.rp rfl rfl (rp_index_map (k := i) Try.underlying82 inf3 rfl rfl rfl (by omega) (by assumption)) ?_))
  refine AL.st rfl (st_store_map2 (v := mbit l i) inf3 rfl rfl rfl rfl rfl rfl rfl rfl (by first | assumption | omega)) ?_
  refine AL.nil ?_
  try simp only [thenS, S.put, S.newObj, setL, V.cs, List.length_cons, List.length_nil, List.take_succ_cons, List.take_zero, List.drop_succ_cons, List.drop_zero, List.drop_nil, List.nil_append, List.cons_append, List.append_nil, Nat.zero_add, Nat.reduceAdd, List.map_cons, List.map_nil, List.set_cons_zero, List.set_cons_succ]
  refine AW.region ?_
  refine AL.rp rfl rfl (rp_move rfl rfl) ?_
  refine AL.rp rfl rfl (rp_add rfl rfl rfl (by first | omega | (dsimp only; omega))) ?_
  refine AL.rp rfl rfl (rp_assign rfl rfl) ?_
  refine AL.nil ?_
  try simp only [thenS, S.put]
  have hstep := set_bits (G := fun j => decide (j < i + 1) && mbit l j) hL hLj (show i < N by omega) (fun j hj hne => by
   have : decide (j < i + 1) = decide (j < i) := by simp only [decide_eq_decide]; omega
   simp only [this])
  have e : (decide (i < i + 1) && mbit l i) = mbit l i := by simp
  simp only [e] at hstep
  refine ⟨_, ?_, ⟨i + 1, _, by omega, by simpa using hL, hstep, rfl⟩, ?_⟩
  ·exact (Less.of rfl (by repeat (first | exact trivial | refine ⟨⟨_, rfl, Wk.refl _⟩, ?_⟩ | refine ⟨⟨_, rfl, Wk.nil _ _⟩, ?_⟩ | refine ⟨⟨_, rfl, Wk.junk _⟩, ?_⟩)) (by repeat (first | exact trivial | refine ⟨rfl, ?_⟩)) rfl)
  ·simp [S.nat, fnd]; omega
 ·obtain rfl : i = n := by omega
  have hLm : ∀ j, j < N → L[j]? = some (mbit l j) := fun j hj => by
   rw [hLj j hj]
   by_cases h : j < i
   ·simp [h]
   ·rw [mbit_out (l := l) (j := j) (by omega)]; simp
  obtain ⟨n, rfl⟩ : ∃ n, n = i := ⟨_, rfl⟩
  refine AW.seq ?_
  refine AW.seq ?_
  refine AW.region ?_
  refine AL.rp rfl rfl (rp_move rfl rfl) ?_
  refine AL.rp rfl rfl (rp_move rfl rfl) ?_
  (first | (refine AL.rp rfl rfl (rp_lssT rfl rfl rfl (by first | assumption | omega | (dsimp only; omega))) ?_) | (refine AL.rp rfl rfl (rp_lssF rfl rfl rfl (by first | assumption | omega | (dsimp only; omega))) ?_) | (refine AL.rp rfl rfl (rp_lss rfl rfl rfl) ?_))
  refine AL.nil ?_
  try simp only [thenS, S.put]
  refine AW.condF rfl ?_
  refine AW.exit ?_
  try simp only [thenS, inBlockS, ↓reduceIte, Nat.reduceEqDiff]
  refine AW.seq ?_
  refine AW.seq ?_
  refine AW.region ?_
  refine AL.rp rfl rfl (rp_assign rfl rfl) ?_
  refine AL.nil ?_
  try simp only [thenS, S.put]
  refine AW.block ?_
  refine AW.loop (fun s' => ∃ (i : Nat) (L : List Bool), i ≤ 16 ∧ L.length = N ∧ (∀ j, j < N → L[j]? = some (mbit l j != decide (j < i))) ∧ s' = ⟨97, [(3, .i n), (4, .own 17 1 N false), (6, .i i)], [(17, ⟨3, L.map vI, false, 1⟩)], []⟩) (fun s => 16 - s.nat 6) ?_ ?_
  ·refine ⟨_, ?_, 0, L, Nat.zero_le _, hL, fun j hj => by rw [hLm j hj]; simp, rfl⟩
   exact (Less.of rfl (by repeat (first | exact trivial | refine ⟨⟨_, rfl, Wk.refl _⟩, ?_⟩ | refine ⟨⟨_, rfl, Wk.nil _ _⟩, ?_⟩ | refine ⟨⟨_, rfl, Wk.junk _⟩, ?_⟩)) (by repeat (first | exact trivial | refine ⟨rfl, ?_⟩)) rfl)
  clear hLj hL hLm
  rintro s' ⟨i, L, hi, hL, hLj, rfl⟩
  by_cases hlt : i < 16
  ·have hbi := hLj i (by omega)
   obtain ⟨b, hbd⟩ : ∃ b, (mbit l i != decide (i < i)) = b := ⟨_, rfl⟩
   rw [hbd] at hbi
   have h01 := bI_01 b
   have h02 := bI_01 (!b)
   have hno := bI_not b
   have hiL : i < L.length := by omega
   refine AW.seq ?_
   refine AW.seq ?_
   refine AW.region ?_
   refine AL.rp rfl rfl (rp_move rfl rfl) ?_
   (first | (refine AL.rp rfl rfl (rp_lssT rfl rfl rfl (by first | assumption | omega | (dsimp only; omega))) ?_) | (refine AL.rp rfl rfl (rp_lssF rfl rfl rfl (by first | assumption | omega | (dsimp only; omega))) ?_) | (refine AL.rp rfl rfl (rp_lss rfl rfl rfl) ?_))
   refine AL.nil ?_
   try simp only [thenS, S.put]
   refine AW.condT rfl ?_
   refine AW.skip ?_
   try simp only [thenS]
   refine AW.seq ?_
   refine AW.block ?_
   refine AW.region ?_
   refine AL.rp rfl rfl (rp_move rfl rfl) ?_
   refine AL.rp rfl rfl (rp_move rfl rfl) ?_
   refine AL.rp rfl rfl (rp_move rfl rfl) ?_
   refine AL.rp rfl rfl (rp_move rfl rfl) ?_
   (first | (refine AL.rp rfl rfl (rp_index_own (k := i) Try.underlying82 inf3 rfl rfl rfl (by omega) (by omega)) ?_) | (refine AL.rp rfl rfl (rp_index_map (k := i) Try.underlying82 inf3 rfl rfl rfl (by omega) (by assumption)) ?_))
   (first | (refine AL.rd rfl rfl (rd_load_ref Try.underlying3 rfl rfl rfl rfl rfl rfl) ?_) | (refine AL.rd rfl rfl (rd_load_ad Try.underlying3 rfl rfl rfl rfl) ?_) | (refine AL.rd rfl rfl (rd_load_map Try.underlying3 rfl rfl rfl rfl rfl rfl (by assumption)) ?_) | (refine AL.rd rfl rfl (rd_load_flat Try.underlying3 rfl rfl rfl rfl rfl rfl (fun _ => rfl) (by assumption) rfl) ?_))
   refine AL.rp rfl rfl (rp_subZ (bI (!b)) rfl rfl rfl (by omega) (by omega)) ?_
   (first | (refine AL.rp rfl rfl (rp_index_own (k := i) Try.underlying82 inf3 rfl rfl rfl (by omega) (by omega)) ?_) | (refine AL.rp rfl rfl (rp_index_map (k := i) Try.underlying82 inf3 rfl rfl rfl (by omega) (by assumption)) ?_))
   refine AL.st rfl (st_store_map2 (v := !b) inf3 rfl rfl rfl rfl rfl rfl rfl rfl (by first | assumption | omega)) ?_
   refine AL.nil ?_
   try simp only [thenS, S.put, S.newObj, setL, V.cs, List.length_cons, List.length_nil, List.take_succ_cons, List.take_zero, List.drop_succ_cons, List.drop_zero, List.drop_nil, List.nil_append, List.cons_append, List.append_nil, Nat.zero_add, Nat.reduceAdd, List.map_cons, List.map_nil, List.set_cons_zero, List.set_cons_succ]
   refine AW.region ?_
   refine AL.rp rfl rfl (rp_move rfl rfl) ?_
   refine AL.rp rfl rfl (rp_add rfl rfl rfl (by first | omega | (dsimp only; omega))) ?_
   refine AL.rp rfl rfl (rp_assign rfl rfl) ?_
   refine AL.nil ?_
   try simp only [thenS, S.put]
   have hstep := set_bits (G := fun j => mbit l j != decide (j < i + 1)) hL hLj (show i < N by omega) (fun j hj hne => by
    have : decide (j < i + 1) = decide (j < i) := by simp only [decide_eq_decide]; omega
    simp only [this])
   have e : (mbit l i != decide (i < i + 1)) = !b := by rw [← hbd]; simp
   simp only [e] at hstep
   refine ⟨_, ?_, ⟨i + 1, _, by omega, by simpa using hL, hstep, rfl⟩, ?_⟩
   ·exact (Less.of rfl (by repeat (first | exact trivial | refine ⟨⟨_, rfl, Wk.refl _⟩, ?_⟩ | refine ⟨⟨_, rfl, Wk.nil _ _⟩, ?_⟩ | refine ⟨⟨_, rfl, Wk.junk _⟩, ?_⟩)) (by repeat (first | exact trivial | refine ⟨rfl, ?_⟩)) rfl)
   ·simp [S.nat, fnd]; omega
  ·obtain rfl : i = 16 := by omega
   refine AW.seq ?_
   refine AW.seq ?_
   refine AW.region ?_
   refine AL.rp rfl rfl (rp_move rfl rfl) ?_
   (first | (refine AL.rp rfl rfl (rp_lssT rfl rfl rfl (by first | assumption | omega | (dsimp only; omega))) ?_) | (refine AL.rp rfl rfl (rp_lssF rfl rfl rfl (by first | assumption | omega | (dsimp only; omega))) ?_) | (refine AL.rp rfl rfl (rp_lss rfl rfl rfl) ?_))
   refine AL.nil ?_
   try simp only [thenS, S.put]
   refine AW.condF rfl ?_
   refine AW.exit ?_
   try simp only [thenS, inBlockS, ↓reduceIte, Nat.reduceEqDiff]
   refine AW.seq ?_
   refine AW.region ?_
   refine AL.sm rfl (sm_slice (vs := [(0, _), (1, _), (2, _), (3, _), (4, _), (5, _), (6, _), (7, _), (8, _), (9, _), (10, _), (11, _), (12, _), (13, _), (14, _), (15, _), (16, _)]) (zs := [.d (.p (.int .i64 0)), .d (.p (.int .i64 0)), .d (.p (.int .i64 0)), .d (.p (.int .i64 0)), .d (.p (.int .i64 0)), .d (.p (.int .i64 0)), .d (.p (.int .i64 0)), .d (.p (.int .i64 0)), .d (.p (.int .i64 0)), .d (.p (.int .i64 0)), .d (.p (.int .i64 0)), .d (.p (.int .i64 0)), .d (.p (.int .i64 0)), .d (.p (.int .i64 0)), .d (.p (.int .i64 0)), .d (.p (.int .i64 0)), .d (.p (.int .i64 0))]) 50 Try.underlying82 inf3 rfl rfl (by decide) (by decide) (by decide) rfl rfl rfl rfl (by first | rfl | simp [S.clean, S.put, S.newObj, S.forget, V.has, V.hasL, junkIf, setL, V.cs, hasL_i, hasL_d, hasL_b, hasL_s, hasL_n, hasL_rep, hasL_flat, hasL_append, -List.map_set]) (by first | rfl | simp [S.clean, S.put, S.newObj, S.forget, V.has, V.hasL, junkIf, setL, V.cs, hasL_i, hasL_d, hasL_b, hasL_s, hasL_n, hasL_rep, hasL_flat, hasL_append, -List.map_set]) rfl) ?_
   refine AL.rp rfl rfl (rp_assign rfl rfl) ?_
   refine AL.nil ?_
   try simp only [thenS, S.put, S.newObj, setL, V.cs, List.length_cons, List.length_nil, List.take_succ_cons, List.take_zero, List.drop_succ_cons, List.drop_zero, List.drop_nil, List.nil_append, List.cons_append, List.append_nil, Nat.zero_add, Nat.reduceAdd, List.map_cons, List.map_nil, List.set_cons_zero, List.set_cons_succ]
   refine AW.seq ?_
   refine AW.seq ?_
   refine AW.region ?_
   refine AL.rp rfl rfl (rp_assign rfl rfl) ?_
   refine AL.nil ?_
   try simp only [thenS, S.put]
   refine AW.block ?_
   refine AW.loop (fun s' => ∃ (i : Nat) (L : List Bool), i ≤ n ∧ L.length = N ∧ (∀ j, j < N → L[j]? = some (divB l i j)) ∧ s' = ⟨97, [(3, .i n), (4, .own 17 1 N false), (7, .own 50 1 17 false), (8, .i i)], [(17, ⟨3, L.map vI, false, 1⟩), (50, ⟨3, polyB.map vI, false, 1⟩)], []⟩) (fun s => n - s.nat 8) ?_ ?_
   ·refine ⟨_, ?_, 0, L, Nat.zero_le _, hL, hLj, rfl⟩
    exact (Less.of rfl (by repeat (first | exact trivial | refine ⟨⟨_, rfl, Wk.refl _⟩, ?_⟩ | refine ⟨⟨_, rfl, Wk.nil _ _⟩, ?_⟩ | refine ⟨⟨_, rfl, Wk.junk _⟩, ?_⟩)) (by repeat (first | exact trivial | refine ⟨rfl, ?_⟩)) rfl)
   clear hLj hL
   rintro s' ⟨i, L, hi, hL, hLj, rfl⟩
   by_cases hlt : i < n
   ·have hbi := hLj i (by omega)
    obtain ⟨b, hbd⟩ : ∃ b, divB l i i = b := ⟨_, rfl⟩
    rw [hbd] at hbi
    cases b with
    | false =>
     have hz : bI false = 0 := rfl
     have hz2 : ¬ bI false = 1 := by decide
     refine AW.seq ?_
     refine AW.seq ?_
     refine AW.region ?_
     refine AL.rp rfl rfl (rp_move rfl rfl) ?_
     refine AL.rp rfl rfl (rp_move rfl rfl) ?_
     (first | (refine AL.rp rfl rfl (rp_lssT rfl rfl rfl (by first | assumption | omega | (dsimp only; omega))) ?_) | (refine AL.rp rfl rfl (rp_lssF rfl rfl rfl (by first | assumption | omega | (dsimp only; omega))) ?_) | (refine AL.rp rfl rfl (rp_lss rfl rfl rfl) ?_))
     refine AL.nil ?_
     try simp only [thenS, S.put]
     refine AW.condT rfl ?_
     refine AW.skip ?_
     try simp only [thenS]
     refine AW.seq ?_
     refine AW.block ?_
     refine AW.seq ?_
     refine AW.region ?_
     refine AL.rp rfl rfl (rp_move rfl rfl) ?_
     refine AL.rp rfl rfl (rp_move rfl rfl) ?_
     (first | (refine AL.rp rfl rfl (rp_index_own (k := i) Try.underlying82 inf3 rfl rfl rfl (by omega) (by omega)) ?_) | (refine AL.rp rfl rfl (rp_index_map (k := i) Try.underlying82 inf3 rfl rfl rfl (by omega) (by assumption)) ?_))
     (first | (refine AL.rd rfl rfl (rd_load_ref Try.underlying3 rfl rfl rfl rfl rfl rfl) ?_) | (refine AL.rd rfl rfl (rd_load_ad Try.underlying3 rfl rfl rfl rfl) ?_) | (refine AL.rd rfl rfl (rd_load_map Try.underlying3 rfl rfl rfl rfl rfl rfl (by assumption)) ?_) | (refine AL.rd rfl rfl (rd_load_flat Try.underlying3 rfl rfl rfl rfl rfl rfl (fun _ => rfl) (by assumption) rfl) ?_))
     (first | (refine AL.rp rfl rfl (rp_eqlT rfl rfl rfl (by first | assumption | omega | (dsimp only; omega))) ?_) | (refine AL.rp rfl rfl (rp_eqlF rfl rfl rfl (by first | assumption | omega | (dsimp only; omega))) ?_) | (refine AL.rp rfl rfl (rp_eql rfl rfl rfl) ?_))
     refine AL.nil ?_
     try simp only [thenS, S.put]
     refine AW.condF rfl ?_
     refine AW.skip ?_
     try simp only [thenS]
     refine AW.region ?_
     refine AL.rp rfl rfl (rp_move rfl rfl) ?_
     refine AL.rp rfl rfl (rp_add rfl rfl rfl (by first | omega | (dsimp only; omega))) ?_
     refine AL.rp rfl rfl (rp_assign rfl rfl) ?_
     refine AL.nil ?_
     try simp only [thenS, S.put]
     refine ⟨_, ?_, ⟨i + 1, L, by omega, hL, fun j hj => by rw [hLj j hj]; simp [divB, hbd], rfl⟩, ?_⟩
     ·exact (Less.of rfl (by repeat (first | exact trivial | refine ⟨⟨_, rfl, Wk.refl _⟩, ?_⟩ | refine ⟨⟨_, rfl, Wk.nil _ _⟩, ?_⟩ | refine ⟨⟨_, rfl, Wk.junk _⟩, ?_⟩)) (by repeat (first | exact trivial | refine ⟨rfl, ?_⟩)) rfl)
     ·simp [S.nat, fnd]; omega
    | true =>
     have hz : bI true = 1 := rfl
     refine AW.seq ?_
     refine AW.seq ?_
     refine AW.region ?_
     refine AL.rp rfl rfl (rp_move rfl rfl) ?_
     refine AL.rp rfl rfl (rp_move rfl rfl) ?_
     (first | (refine AL.rp rfl rfl (rp_lssT rfl rfl rfl (by first | assumption | omega | (dsimp only; omega))) ?_) | (refine AL.rp rfl rfl (rp_lssF rfl rfl rfl (by first | assumption | omega | (dsimp only; omega))) ?_) | (refine AL.rp rfl rfl (rp_lss rfl rfl rfl) ?_))
     refine AL.nil ?_
     try simp only [thenS, S.put]
     refine AW.condT rfl ?_
     refine AW.skip ?_
     try simp only [thenS]
     refine AW.seq ?_
     refine AW.block ?_
     refine AW.seq ?_
     refine AW.region ?_
     refine AL.rp rfl rfl (rp_move rfl rfl) ?_
     refine AL.rp rfl rfl (rp_move rfl rfl) ?_
     (first | (refine AL.rp rfl rfl (rp_index_own (k := i) Try.underlying82 inf3 rfl rfl rfl (by omega) (by omega)) ?_) | (refine AL.rp rfl rfl (rp_index_map (k := i) Try.underlying82 inf3 rfl rfl rfl (by omega) (by assumption)) ?_))
     (first | (refine AL.rd rfl rfl (rd_load_ref Try.underlying3 rfl rfl rfl rfl rfl rfl) ?_) | (refine AL.rd rfl rfl (rd_load_ad Try.underlying3 rfl rfl rfl rfl) ?_) | (refine AL.rd rfl rfl (rd_load_map Try.underlying3 rfl rfl rfl rfl rfl rfl (by assumption)) ?_) | (refine AL.rd rfl rfl (rd_load_flat Try.underlying3 rfl rfl rfl rfl rfl rfl (fun _ => rfl) (by assumption) rfl) ?_))
     (first | (refine AL.rp rfl rfl (rp_eqlT rfl rfl rfl (by first | assumption | omega | (dsimp only; omega))) ?_) | (refine AL.rp rfl rfl (rp_eqlF rfl rfl rfl (by first | assumption | omega | (dsimp only; omega))) ?_) | (refine AL.rp rfl rfl (rp_eql rfl rfl rfl) ?_))
     refine AL.nil ?_
     try simp only [thenS, S.put]
     refine AW.condT rfl ?_
     refine AW.seq ?_
     refine AW.region ?_
     refine AL.rp rfl rfl (rp_assign rfl rfl) ?_
     refine AL.nil ?_
     try simp only [thenS, S.put]
     refine AW.block ?_
     refine AW.loop (fun s' => ∃ (k : Nat) (L : List Bool), k ≤ 17 ∧ L.length = N ∧ (∀ j, j < N → L[j]? = some (divB l i j != (decide (i ≤ j ∧ j < i + k) && crcP (j - i)))) ∧ s' = ⟨97, [(3, .i n), (4, .own 17 1 N false), (7, .own 50 1 17 false), (8, .i i), (9, .i k)], [(17, ⟨3, L.map vI, false, 1⟩), (50, ⟨3, polyB.map vI, false, 1⟩)], []⟩) (fun s => 17 - s.nat 9) ?_ ?_
     ·refine ⟨_, ?_, 0, L, Nat.zero_le _, hL, fun j hj => by rw [hLj j hj, decide_eq_false (by omega)]; simp, rfl⟩
      exact (Less.of rfl (by repeat (first | exact trivial | refine ⟨⟨_, rfl, Wk.refl _⟩, ?_⟩ | refine ⟨⟨_, rfl, Wk.nil _ _⟩, ?_⟩ | refine ⟨⟨_, rfl, Wk.junk _⟩, ?_⟩)) (by repeat (first | exact trivial | refine ⟨rfl, ?_⟩)) rfl)
     clear hLj hL hbi
     rintro s' ⟨k, L, hk, hL, hLj, rfl⟩
     by_cases hlk : k < 17
     ·have hbi := hLj (i + k) (by omega)
      have e0 : (divB l i (i + k) != (decide (i ≤ i + k ∧ i + k < i + k) && crcP (i + k - i))) = divB l i (i + k) := by rw [decide_eq_false (by omega)]; simp
      rw [e0] at hbi
      obtain ⟨x, hx⟩ : ∃ x, divB l i (i + k) = x := ⟨_, rfl⟩
      rw [hx] at hbi
      obtain ⟨p, hp⟩ : ∃ p, polyB[k]? = some p := ⟨_, List.getElem?_eq_getElem (show k < polyB.length from hlk)⟩
      have hcp : crcP k = p := by unfold crcP; rw [List.getD_eq_getElem?_getD, hp]; rfl
      have h01 := bI_01 x
      have h02 := bI_01 p
      have h03 := bI_01 (x != p)
      have hxo := bI_xor x p
      have hikL : i + k < L.length := by omega
      have hik : (i : Int) + (k : Int) = ((i + k : Nat) : Int) := by omega
      refine AW.seq ?_
      refine AW.seq ?_
      refine AW.region ?_
      refine AL.rp rfl rfl (rp_move rfl rfl) ?_
      (first | (refine AL.rp rfl rfl (rp_lssT rfl rfl rfl (by first | assumption | omega | (dsimp only; omega))) ?_) | (refine AL.rp rfl rfl (rp_lssF rfl rfl rfl (by first | assumption | omega | (dsimp only; omega))) ?_) | (refine AL.rp rfl rfl (rp_lss rfl rfl rfl) ?_))
      refine AL.nil ?_
      try simp only [thenS, S.put]
      refine AW.condT rfl ?_
      refine AW.skip ?_
      try simp only [thenS]
      refine AW.seq ?_
      refine AW.block ?_
      refine AW.draw [(0, true), (1, true), (2, true), (3, true), (4, true), (5, true), (6, true), (7, true), (8, true), (9, true), (10, true), (11, true), (12, true), (13, true), (14, true), (15, true), (16, true), (17, false)] (fun i => !([17] : List Nat).contains i) 18 (by kernel_rfl) (by kernel_rfl) rfl (by kernel_rfl) ?_
      refine AD1.rp rfl rfl rfl (fun _ _ h => h) (rp_move rfl rfl) ?_
      refine AD1.rp rfl rfl rfl (fun _ _ h => h) (rp_move rfl rfl) ?_
      refine AD1.rp rfl rfl rfl (fun _ _ h => h) (rp_move rfl rfl) ?_
      refine AD1.rp rfl rfl rfl (fun _ _ h => h) (rp_addZ (((i + k : Nat) : Int)) rfl rfl rfl (by omega) (by omega)) ?_
      refine AD1.rp rfl rfl rfl (fun _ _ h => h) (rp_move rfl rfl) ?_
      refine AD1.rp rfl rfl rfl (fun _ _ h => h) (rp_move rfl rfl) ?_
      refine AD1.rp rfl rfl rfl (fun _ _ h => h) (rp_move rfl rfl) ?_
      refine AD1.rp rfl rfl rfl (fun _ _ h => h) (rp_addZ (((i + k : Nat) : Int)) rfl rfl rfl (by omega) (by omega)) ?_
      (first | (refine AD1.rp rfl rfl rfl (fun _ _ h => h) (rp_index_own (k := i + k) Try.underlying82 inf3 rfl rfl rfl (by omega) (by omega)) ?_) | (refine AD1.rp rfl rfl rfl (fun _ _ h => h) (rp_index_map (k := i + k) Try.underlying82 inf3 rfl rfl rfl (by omega) (by assumption)) ?_))
      (first | (refine AD1.rd rfl rfl rfl (fun _ _ h => h) (rd_load_ref Try.underlying3 rfl rfl rfl rfl rfl rfl) ?_) | (refine AD1.rd rfl rfl rfl (fun _ _ h => h) (rd_load_ad Try.underlying3 rfl rfl rfl rfl) ?_) | (refine AD1.rd rfl rfl rfl (fun _ _ h => h) (rd_load_map Try.underlying3 rfl rfl rfl rfl rfl rfl (by assumption)) ?_) | (refine AD1.rd rfl rfl rfl (fun _ _ h => h) (rd_load_flat Try.underlying3 rfl rfl rfl rfl rfl rfl (fun _ => rfl) (by assumption) rfl) ?_))
      refine AD1.rp rfl rfl rfl (fun _ _ h => h) (rp_move rfl rfl) ?_
      refine AD1.rp rfl rfl rfl (fun _ _ h => h) (rp_move rfl rfl) ?_
      (first | (refine AD1.rp rfl rfl rfl (fun _ _ h => h) (rp_index_own (k := k) Try.underlying82 inf3 rfl rfl rfl (by omega) (by omega)) ?_) | (refine AD1.rp rfl rfl rfl (fun _ _ h => h) (rp_index_map (k := k) Try.underlying82 inf3 rfl rfl rfl (by omega) (by assumption)) ?_))
      (first | (refine AD1.rd rfl rfl rfl (fun _ _ h => h) (rd_load_ref Try.underlying3 rfl rfl rfl rfl rfl rfl) ?_) | (refine AD1.rd rfl rfl rfl (fun _ _ h => h) (rd_load_ad Try.underlying3 rfl rfl rfl rfl) ?_) | (refine AD1.rd rfl rfl rfl (fun _ _ h => h) (rd_load_map Try.underlying3 rfl rfl rfl rfl rfl rfl (by assumption)) ?_) | (refine AD1.rd rfl rfl rfl (fun _ _ h => h) (rd_load_flat Try.underlying3 rfl rfl rfl rfl rfl rfl (fun _ => rfl) (by assumption) rfl) ?_))
      refine AD1.rp rfl rfl rfl (fun _ _ h => h) (rp_addZ (bI x + bI p) rfl rfl rfl (by omega) (by omega)) ?_
      refine AD1.rp rfl rfl rfl (fun _ _ h => h) (rp_remZ (bI (x != p)) rfl rfl rfl (by omega) (by omega)) ?_
      (first | (refine AD1.rp rfl rfl rfl (fun _ _ h => h) (rp_index_own (k := i + k) Try.underlying82 inf3 rfl rfl rfl (by omega) (by omega)) ?_) | (refine AD1.rp rfl rfl rfl (fun _ _ h => h) (rp_index_map (k := i + k) Try.underlying82 inf3 rfl rfl rfl (by omega) (by assumption)) ?_))
      refine AD1.go ?_
      refine AD2.go ?_
      refine AD3.st rfl rfl rfl (st_store_map2 (v := x != p) inf3 rfl rfl rfl rfl rfl rfl rfl rfl (by first | assumption | omega)) ?_
      refine AD3.nil ?_
      try simp only [thenS, S.put, S.newObj, setL, V.cs, List.length_cons, List.length_nil, List.take_succ_cons, List.take_zero, List.drop_succ_cons, List.drop_zero, List.drop_nil, List.nil_append, List.cons_append, List.append_nil, Nat.zero_add, Nat.reduceAdd, List.map_cons, List.map_nil, List.set_cons_zero, List.set_cons_succ]
      refine AW.region ?_
      refine AL.rp rfl rfl (rp_move rfl rfl) ?_
      refine AL.rp rfl rfl (rp_add rfl rfl rfl (by first | omega | (dsimp only; omega))) ?_
      refine AL.rp rfl rfl (rp_assign rfl rfl) ?_
      refine AL.nil ?_
      try simp only [thenS, S.put]
      have hstep := set_bits (G := fun j => divB l i j != (decide (i ≤ j ∧ j < i + (k + 1)) && crcP (j - i))) hL hLj (show i + k < N by omega) (fun j hj hne => by
       have : decide (i ≤ j ∧ j < i + (k + 1)) = decide (i ≤ j ∧ j < i + k) := by simp only [decide_eq_decide]; omega
       simp only [this])
      have e : (divB l i (i + k) != (decide (i ≤ i + k ∧ i + k < i + (k + 1)) && crcP (i + k - i))) = (x != p) := by rw [decide_eq_true (by omega), hx, show i + k - i = k by omega, hcp]; simp
      simp only [e] at hstep
      refine ⟨_, ?_, ⟨k + 1, _, by omega, by simpa using hL, hstep, rfl⟩, ?_⟩
      ·exact (Less.of rfl (by repeat (first | exact trivial | refine ⟨⟨_, rfl, Wk.refl _⟩, ?_⟩ | refine ⟨⟨_, rfl, Wk.nil _ _⟩, ?_⟩ | refine ⟨⟨_, rfl, Wk.junk _⟩, ?_⟩)) (by repeat (first | exact trivial | refine ⟨rfl, ?_⟩)) rfl)
      ·simp [S.nat, fnd]; omega
     ·obtain rfl : k = 17 := by omega
      refine AW.seq ?_
      refine AW.seq ?_
      refine AW.region ?_
      refine AL.rp rfl rfl (rp_move rfl rfl) ?_
      (first | (refine AL.rp rfl rfl (rp_lssT rfl rfl rfl (by first | assumption | omega | (dsimp only; omega))) ?_) | (refine AL.rp rfl rfl (rp_lssF rfl rfl rfl (by first | assumption | omega | (dsimp only; omega))) ?_) | (refine AL.rp rfl rfl (rp_lss rfl rfl rfl) ?_))
      refine AL.nil ?_
      try simp only [thenS, S.put]
      refine AW.condF rfl ?_
      refine AW.exit ?_
      try simp only [thenS, inBlockS, ↓reduceIte, Nat.reduceEqDiff]
      refine AW.region ?_
      refine AL.rp rfl rfl (rp_move rfl rfl) ?_
      refine AL.rp rfl rfl (rp_add rfl rfl rfl (by first | omega | (dsimp only; omega))) ?_
      refine AL.rp rfl rfl (rp_assign rfl rfl) ?_
      refine AL.nil ?_
      try simp only [thenS, S.put]
      refine ⟨_, ?_, ⟨i + 1, L, by omega, hL, fun j hj => by rw [hLj j hj]; simp [divB, hbd], rfl⟩, ?_⟩
      ·exact (Less.of rfl (by repeat (first | exact trivial | refine ⟨⟨_, rfl, Wk.refl _⟩, ?_⟩ | refine ⟨⟨_, rfl, Wk.nil _ _⟩, ?_⟩ | refine ⟨⟨_, rfl, Wk.junk _⟩, ?_⟩)) (by repeat (first | exact trivial | refine ⟨rfl, ?_⟩)) rfl)
      ·simp [S.nat, fnd]; omega
   ·obtain rfl : i = n := by omega
    obtain ⟨n, rfl⟩ : ∃ n, n = i := ⟨_, rfl⟩
    refine AW.seq ?_
    refine AW.seq ?_
    refine AW.region ?_
    refine AL.rp rfl rfl (rp_move rfl rfl) ?_
    refine AL.rp rfl rfl (rp_move rfl rfl) ?_
    (first | (refine AL.rp rfl rfl (rp_lssT rfl rfl rfl (by first | assumption | omega | (dsimp only; omega))) ?_) | (refine AL.rp rfl rfl (rp_lssF rfl rfl rfl (by first | assumption | omega | (dsimp only; omega))) ?_) | (refine AL.rp rfl rfl (rp_lss rfl rfl rfl) ?_))
    refine AL.nil ?_
    try simp only [thenS, S.put]
    refine AW.condF rfl ?_
    refine AW.exit ?_
    try simp only [thenS, inBlockS, ↓reduceIte, Nat.reduceEqDiff]
    refine AW.seq ?_
    refine AW.region ?_
    refine AL.rp rfl rfl (rp_assign rfl rfl) ?_
    refine AL.nil ?_
    try simp only [thenS, S.put]
    refine AW.seq ?_
    refine AW.seq ?_
    refine AW.region ?_
    refine AL.rp rfl rfl (rp_move rfl rfl) ?_
    refine AL.rp rfl rfl (rp_assign rfl rfl) ?_
    refine AL.nil ?_
    try simp only [thenS, S.put]
    refine AW.block ?_
    refine AW.loop (fun s' => ∃ (t : Nat), t ≤ 16 ∧ s' = ⟨97, [(3, .i n), (4, .own 17 1 N false), (10, .i ((remB (divB l n) n t : Nat) : Int)), (11, .i ((n + t : Nat) : Int))], [(17, ⟨3, L.map vI, false, 1⟩)], []⟩) (fun s => N - s.nat 11) ?_ ?_
    ·refine ⟨_, ?_, 0, Nat.zero_le _, rfl⟩
     exact (Less.of rfl (by repeat (first | exact trivial | refine ⟨⟨_, rfl, Wk.refl _⟩, ?_⟩ | refine ⟨⟨_, rfl, Wk.nil _ _⟩, ?_⟩ | refine ⟨⟨_, rfl, Wk.junk _⟩, ?_⟩)) (by repeat (first | exact trivial | refine ⟨rfl, ?_⟩)) rfl)
    rintro s' ⟨t, ht, rfl⟩
    have hr1 := remB_lt (divB l n) n t
    have hr2 : 2 ^ t ≤ 2 ^ 16 := Nat.pow_le_pow_right (by decide) ht
    by_cases hlt2 : t < 16
    ·have hbi := hLj (n + t) (by omega)
     have hrs : remB (divB l n) n (t + 1) = 2 * remB (divB l n) n t + (divB l n (n + t)).toNat := rfl
     obtain ⟨b, hbd⟩ : ∃ b, divB l n (n + t) = b := ⟨_, rfl⟩
     have h01 := bI_01 b
     have hbb : bI b = ((b.toNat : Nat) : Int) := rfl
     rw [hbd] at hbi hrs
     obtain ⟨ro, hro⟩ : ∃ r, remB (divB l n) n t = r := ⟨_, rfl⟩
     obtain ⟨rn, hrn⟩ : ∃ r, remB (divB l n) n (t + 1) = r := ⟨_, rfl⟩
     rw [hro] at hr1 hrs ⊢
     rw [hrn] at hrs
     have hz : 2 * (ro : Int) + bI b = (rn : Int) := by omega
     refine AW.seq ?_
     refine AW.seq ?_
     refine AW.region ?_
     refine AL.rp rfl rfl (rp_move rfl rfl) ?_
     refine AL.rp rfl rfl (rp_move rfl rfl) ?_
     refine AL.rp rfl rfl (rp_addZ ((N : Int)) rfl rfl rfl (by omega) (by omega)) ?_
     (first | (refine AL.rp rfl rfl (rp_lssT rfl rfl rfl (by first | assumption | omega | (dsimp only; omega))) ?_) | (refine AL.rp rfl rfl (rp_lssF rfl rfl rfl (by first | assumption | omega | (dsimp only; omega))) ?_) | (refine AL.rp rfl rfl (rp_lss rfl rfl rfl) ?_))
     refine AL.nil ?_
     try simp only [thenS, S.put]
     refine AW.condT rfl ?_
     refine AW.skip ?_
     try simp only [thenS]
     refine AW.seq ?_
     refine AW.block ?_
     refine AW.region ?_
     refine AL.rp rfl rfl (rp_move rfl rfl) ?_
     refine AL.rp rfl rfl (rp_mul rfl rfl rfl (by first | omega | (dsimp only; omega))) ?_
     refine AL.rp rfl rfl (rp_move rfl rfl) ?_
     refine AL.rp rfl rfl (rp_move rfl rfl) ?_
     (first | (refine AL.rp rfl rfl (rp_index_own (k := n + t) Try.underlying82 inf3 rfl rfl rfl (by omega) (by omega)) ?_) | (refine AL.rp rfl rfl (rp_index_map (k := n + t) Try.underlying82 inf3 rfl rfl rfl (by omega) (by assumption)) ?_))
     (first | (refine AL.rd rfl rfl (rd_load_ref Try.underlying3 rfl rfl rfl rfl rfl rfl) ?_) | (refine AL.rd rfl rfl (rd_load_ad Try.underlying3 rfl rfl rfl rfl) ?_) | (refine AL.rd rfl rfl (rd_load_map Try.underlying3 rfl rfl rfl rfl rfl rfl (by assumption)) ?_) | (refine AL.rd rfl rfl (rd_load_flat Try.underlying3 rfl rfl rfl rfl rfl rfl (fun _ => rfl) (by assumption) rfl) ?_))
     refine AL.rp rfl rfl (rp_addZ ((rn : Int)) rfl rfl rfl (by omega) (by omega)) ?_
     refine AL.rp rfl rfl (rp_assign rfl rfl) ?_
     refine AL.nil ?_
     try simp only [thenS, S.put]
     refine AW.region ?_
     refine AL.rp rfl rfl (rp_move rfl rfl) ?_
     refine AL.rp rfl rfl (rp_add rfl rfl rfl (by first | omega | (dsimp only; omega))) ?_
     refine AL.rp rfl rfl (rp_assign rfl rfl) ?_
     refine AL.nil ?_
     try simp only [thenS, S.put]
     refine ⟨_, ?_, ⟨t + 1, by omega, rfl⟩, ?_⟩
     ·rw [hrn]; exact (Less.of rfl (by repeat (first | exact trivial | refine ⟨⟨_, rfl, Wk.refl _⟩, ?_⟩ | refine ⟨⟨_, rfl, Wk.nil _ _⟩, ?_⟩ | refine ⟨⟨_, rfl, Wk.junk _⟩, ?_⟩)) (by repeat (first | exact trivial | refine ⟨rfl, ?_⟩)) rfl)
     ·simp [S.nat, fnd]; omega
    ·obtain rfl : t = 16 := by omega
     rw [hcrc]
     refine AW.seq ?_
     refine AW.seq ?_
     refine AW.region ?_
     refine AL.rp rfl rfl (rp_move rfl rfl) ?_
     refine AL.rp rfl rfl (rp_move rfl rfl) ?_
     refine AL.rp rfl rfl (rp_addZ ((N : Int)) rfl rfl rfl (by omega) (by omega)) ?_
     (first | (refine AL.rp rfl rfl (rp_lssT rfl rfl rfl (by first | assumption | omega | (dsimp only; omega))) ?_) | (refine AL.rp rfl rfl (rp_lssF rfl rfl rfl (by first | assumption | omega | (dsimp only; omega))) ?_) | (refine AL.rp rfl rfl (rp_lss rfl rfl rfl) ?_))
     refine AL.nil ?_
     try simp only [thenS, S.put]
     refine AW.condF rfl ?_
     refine AW.exit ?_
     try simp only [thenS, inBlockS, ↓reduceIte, Nat.reduceEqDiff]
     refine AW.seq ?_
     refine AW.region ?_
     refine AL.rp rfl rfl (rp_move rfl rfl) ?_
     refine AL.rp rfl rfl (rp_assign rfl rfl) ?_
     refine AL.nil ?_
     try simp only [thenS, S.put]
     refine AW.ret ?_
     exact ⟨[_], ⟨rfl, trivial⟩, rfl, by simp [tupOf, V.pure, V.has]⟩
end Go.Proofs.Ythlcginebeapdaa
