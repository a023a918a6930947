-- %hmode
-- %heapc
/- packed.put, on bytes of its caller. -/
import Derived.Test.YtjbldphpkkmdpaaAmPck
import Derived.Test.YtjbldphpkkmdpaaAmStay
namespace Go.Proofs.Ytjbldphpkkmdpaa
open Go.RowKit
set_option linter.unusedSimpArgs false
set_option linter.unusedVariables false
set_option maxRecDepth 100000

/-- The objects as a call wants them: its slice, all others. -/
theorem Less.h1 {n : Nat} {T T' : List (Nat × V)} {r : Row} {H0 H' : List (Nat × Row)} {K : List V} (hT : LT ⟨n, T', H', K⟩ T) (h2 : fnd H' 901 = some r) (h3 : ∀ k row, fnd H0 k = some row → fnd H' k = some row) : Less ⟨n, T, (901, r) :: H0, K⟩ ⟨n, T', H', K⟩ := by
 refine ⟨rfl, fun i v h => hT.get i v h, fun k row h => ⟨row, ?_, rfl, rfl, rfl, fun j v hv => ⟨v, hv, .refl _⟩⟩, fun j v h => ⟨v, h, .refl _⟩⟩
 simp only [fnd] at h
 split at h
 ·rename_i e
  simp only [beq_iff_eq] at e
  subst e
  show fnd H' 901 = some row
  rw [h2]; exact h
 ·exact h3 k row h

theorem am_put (l : List Nat) (x k : Nat) (hx : x ≤ 1152921504606846976) (hk : k ≤ 8) (hlen : l.length ≤ 1000000) (H0 : List (Nat × Row)) (K : List V) (hl : Lw H0 K) : PCA Try.prog 70 [.own 901 1 l.length false, .i x, .i k] ((901, ⟨5, l.map vB, false, 1⟩) :: H0) K
  (fun v H' K' => v = .own 901 1 (l ++ splitB x k).length false ∧ H' = (901, ⟨5, (l ++ splitB x k).map vB, false, 1⟩) :: H0 ∧ K' = K) := by
 obtain ⟨n, hn⟩ : ∃ n, l.length = n := ⟨_, rfl⟩
 rw [hn] at hlen ⊢
 refine PCA.intro (n := 23) ⟨Try.func70, rfl, rfl, rfl, rfl⟩ (by simp) fun w0 out kx => ?_
 refine AW.seq ?_
 refine AW.region ?_
 refine AL.rp rfl rfl (rp_assign rfl rfl) ?_
 refine AL.nil ?_
 try simp only [thenS, S.put, enum, List.nil_append, List.cons_append, List.append_nil, Nat.zero_add, Nat.reduceAdd]
 refine AW.seq ?_
 refine AW.seq ?_
 refine AW.region ?_
 refine AL.rp rfl rfl (rp_move rfl rfl) ?_
 refine AL.rp rfl rfl (rp_sub rfl rfl rfl (by first | omega | (dsimp only; omega))) ?_
 refine AL.rp rfl rfl (rp_assign rfl rfl) ?_
 refine AL.nil ?_
 try simp only [thenS, S.put]
 refine AW.block ?_
 refine AW.loop (fun s' => ∃ (j m : Nat) (M : List Nat), j ≤ k ∧ M = l ++ (splitB x k).take j ∧ M.length = m ∧ s' = ⟨23, [(0, .own 901 1 m false), (1, .i x), (7, .i ((k : Int) - 1 - j))], (901, ⟨5, M.map vB, false, 1⟩) :: H0, K⟩) (fun s => ((match fnd s.T 7 with | some (.d (.p (.int .i64 n))) => n | _ => 0) + 1).toNat) ?_ ?_
 ·refine ⟨_, ?_, 0, n, l, Nat.zero_le _, by simp, hn, rfl⟩
  rw [show (k : Int) - 1 - ((0 : Nat) : Int) = (k : Int) - 1 by omega]
  refine Less.h1 (T := [(0, _), (1, _), (7, _)]) ?_ rfl ?_
  ·exact ⟨⟨_, rfl, Wk.refl _⟩, ⟨_, rfl, Wk.refl _⟩, ⟨_, rfl, Wk.refl _⟩, trivial⟩
  ·exact fun k row h => hl.low (T := [(901, _)]) (by rfl) k row h
 rintro s' ⟨j, m, M, hj, hM, hm, rfl⟩
 have hml : m = n + j := by rw [← hm, hM]; simp [splitB_len, hn]; omega
 have hfl : (M.map vB).length = m * 1 := by rw [List.length_map, hm]; omega
 by_cases hlt : j < k
 ·obtain ⟨p, hp⟩ : ∃ p, k - 1 - j = p := ⟨_, rfl⟩
  have hpi : (k : Int) - 1 - j = p := by omega
  have hsn := take_snoc (splitB_get (x := x) hlt)
  rw [hp] at hsn
  obtain ⟨q, hq⟩ : ∃ q, x / 256 ^ p = q := ⟨_, rfl⟩
  rw [hq] at hsn
  have hqx : q ≤ x := by rw [← hq]; exact Nat.div_le_self _ _
  have h8 : (x : Int) / 2 ^ (8 * p) = (q : Int) := by
   have e : (2 : Nat) ^ (8 * p) = 256 ^ p := by rw [Nat.pow_mul]
   rw [← hq, ← e]; simp
  rw [hpi]
  refine AW.seq ?_
  refine AW.seq ?_
  refine AW.region ?_
  refine AL.rp rfl rfl (rp_move rfl rfl) ?_
  (first | (refine AL.rp rfl rfl (rp_geqT rfl rfl rfl (by first | assumption | omega | (dsimp only; omega))) ?_) | (refine AL.rp rfl rfl (rp_geqF rfl rfl rfl (by first | assumption | omega | (dsimp only; omega))) ?_) | (refine AL.rp rfl rfl (rp_geq rfl rfl rfl) ?_))
  refine AL.nil ?_
  try simp only [thenS, S.put]
  refine AW.condT rfl ?_
  refine AW.skip ?_
  try simp only [thenS]
  refine AW.seq ?_
  refine AW.block ?_
  refine AW.region ?_
  refine AL.rp rfl rfl (rp_move rfl rfl) ?_
  refine AL.rp rfl rfl (rp_move rfl rfl) ?_
  refine AL.rp rfl rfl (rp_move rfl rfl) ?_
  refine AL.rp rfl rfl (rp_mul rfl rfl rfl (by first | omega | (dsimp only; omega))) ?_
  refine AL.rp rfl rfl (rp_shr (8 * p) rfl rfl rfl (by first | rfl | omega) (by omega) (r := (q : Int)) (by first | assumption | rfl | omega)) ?_
  refine AL.rp rfl rfl (rp_conv Try.underlying3 (by intro e h; cases h) (by intro h; cases h) Try.underlying5 rfl rfl (r := ((q % 256 : Nat) : Int)) (by first | (rw [wrap8]; omega) | (rw [wrap16]; omega) | (rw [wrap64 (by omega)] <;> omega) | (rw [wrapU64 (by omega)] <;> omega))) ?_
  refine AL.sm rfl (sm_slice (vs := [(0, _)]) (zs := [.d (.p (.int .u8 0))]) 910 Try.underlying46 inf5 rfl rfl (by decide) (by decide) (by decide) rfl rfl rfl rfl (by first | rfl | (refine S.clean_hp (L := [_]) hl (by decide) ?_ ?_ <;> simp [S.put, S.newObj, S.forget, enum, V.has, V.hasL, junkIf, setL, V.cs, hasL_i, hasL_b, hasL_s, hasL_n, hasL_rep, hasL_flat, hasL_append, -List.map_set]) | (refine S.clean_hp (L := [_, _]) hl (by decide) ?_ ?_ <;> simp [S.put, S.newObj, S.forget, enum, V.has, V.hasL, junkIf, setL, V.cs, hasL_i, hasL_b, hasL_s, hasL_n, hasL_rep, hasL_flat, hasL_append, -List.map_set]) | (refine S.clean_hp (L := [_, _, _]) hl (by decide) ?_ ?_ <;> simp [S.put, S.newObj, S.forget, enum, V.has, V.hasL, junkIf, setL, V.cs, hasL_i, hasL_b, hasL_s, hasL_n, hasL_rep, hasL_flat, hasL_append, -List.map_set]) | (refine S.clean_hp (L := [_, _, _, _]) hl (by decide) ?_ ?_ <;> simp [S.put, S.newObj, S.forget, enum, V.has, V.hasL, junkIf, setL, V.cs, hasL_i, hasL_b, hasL_s, hasL_n, hasL_rep, hasL_flat, hasL_append, -List.map_set]) | (refine S.clean_hp (L := [_, _, _, _, _]) hl (by decide) ?_ ?_ <;> simp [S.put, S.newObj, S.forget, enum, V.has, V.hasL, junkIf, setL, V.cs, hasL_i, hasL_b, hasL_s, hasL_n, hasL_rep, hasL_flat, hasL_append, -List.map_set]) | (refine S.clean_hp (L := [_, _, _, _, _, _]) hl (by decide) ?_ ?_ <;> simp [S.put, S.newObj, S.forget, enum, V.has, V.hasL, junkIf, setL, V.cs, hasL_i, hasL_b, hasL_s, hasL_n, hasL_rep, hasL_flat, hasL_append, -List.map_set]) | simp [S.put, S.newObj, S.forget, enum, V.has, V.hasL, junkIf, setL, V.cs, hasL_i, hasL_b, hasL_s, hasL_n, hasL_rep, hasL_flat, hasL_append, -List.map_set]) (by first | rfl | (refine S.clean_hp (L := [_]) hl (by decide) ?_ ?_ <;> simp [S.put, S.newObj, S.forget, enum, V.has, V.hasL, junkIf, setL, V.cs, hasL_i, hasL_b, hasL_s, hasL_n, hasL_rep, hasL_flat, hasL_append, -List.map_set]) | (refine S.clean_hp (L := [_, _]) hl (by decide) ?_ ?_ <;> simp [S.put, S.newObj, S.forget, enum, V.has, V.hasL, junkIf, setL, V.cs, hasL_i, hasL_b, hasL_s, hasL_n, hasL_rep, hasL_flat, hasL_append, -List.map_set]) | (refine S.clean_hp (L := [_, _, _]) hl (by decide) ?_ ?_ <;> simp [S.put, S.newObj, S.forget, enum, V.has, V.hasL, junkIf, setL, V.cs, hasL_i, hasL_b, hasL_s, hasL_n, hasL_rep, hasL_flat, hasL_append, -List.map_set]) | (refine S.clean_hp (L := [_, _, _, _]) hl (by decide) ?_ ?_ <;> simp [S.put, S.newObj, S.forget, enum, V.has, V.hasL, junkIf, setL, V.cs, hasL_i, hasL_b, hasL_s, hasL_n, hasL_rep, hasL_flat, hasL_append, -List.map_set]) | (refine S.clean_hp (L := [_, _, _, _, _]) hl (by decide) ?_ ?_ <;> simp [S.put, S.newObj, S.forget, enum, V.has, V.hasL, junkIf, setL, V.cs, hasL_i, hasL_b, hasL_s, hasL_n, hasL_rep, hasL_flat, hasL_append, -List.map_set]) | (refine S.clean_hp (L := [_, _, _, _, _, _]) hl (by decide) ?_ ?_ <;> simp [S.put, S.newObj, S.forget, enum, V.has, V.hasL, junkIf, setL, V.cs, hasL_i, hasL_b, hasL_s, hasL_n, hasL_rep, hasL_flat, hasL_append, -List.map_set]) | simp [S.put, S.newObj, S.forget, enum, V.has, V.hasL, junkIf, setL, V.cs, hasL_i, hasL_b, hasL_s, hasL_n, hasL_rep, hasL_flat, hasL_append, -List.map_set]) rfl) ?_
  refine AL.st rfl (st_appendF Try.underlying46 inf5 rfl (by decide) rfl rfl rfl rfl rfl rfl (by first | assumption | rfl | (simp; done)) (by first | rfl | (refine S.clean_hp (L := [_]) hl (by decide) ?_ ?_ <;> simp [S.put, S.newObj, S.forget, enum, V.has, V.hasL, junkIf, setL, V.cs, hasL_i, hasL_b, hasL_s, hasL_n, hasL_rep, hasL_flat, hasL_append, -List.map_set]) | (refine S.clean_hp (L := [_, _]) hl (by decide) ?_ ?_ <;> simp [S.put, S.newObj, S.forget, enum, V.has, V.hasL, junkIf, setL, V.cs, hasL_i, hasL_b, hasL_s, hasL_n, hasL_rep, hasL_flat, hasL_append, -List.map_set]) | (refine S.clean_hp (L := [_, _, _]) hl (by decide) ?_ ?_ <;> simp [S.put, S.newObj, S.forget, enum, V.has, V.hasL, junkIf, setL, V.cs, hasL_i, hasL_b, hasL_s, hasL_n, hasL_rep, hasL_flat, hasL_append, -List.map_set]) | (refine S.clean_hp (L := [_, _, _, _]) hl (by decide) ?_ ?_ <;> simp [S.put, S.newObj, S.forget, enum, V.has, V.hasL, junkIf, setL, V.cs, hasL_i, hasL_b, hasL_s, hasL_n, hasL_rep, hasL_flat, hasL_append, -List.map_set]) | (refine S.clean_hp (L := [_, _, _, _, _]) hl (by decide) ?_ ?_ <;> simp [S.put, S.newObj, S.forget, enum, V.has, V.hasL, junkIf, setL, V.cs, hasL_i, hasL_b, hasL_s, hasL_n, hasL_rep, hasL_flat, hasL_append, -List.map_set]) | (refine S.clean_hp (L := [_, _, _, _, _, _]) hl (by decide) ?_ ?_ <;> simp [S.put, S.newObj, S.forget, enum, V.has, V.hasL, junkIf, setL, V.cs, hasL_i, hasL_b, hasL_s, hasL_n, hasL_rep, hasL_flat, hasL_append, -List.map_set]) | simp [S.put, S.newObj, S.forget, enum, V.has, V.hasL, junkIf, setL, V.cs, hasL_i, hasL_b, hasL_s, hasL_n, hasL_rep, hasL_flat, hasL_append, -List.map_set]) rfl rfl rfl rfl rfl (by first | rfl | (refine S.clean_hp (L := [_]) hl (by decide) ?_ ?_ <;> simp [S.put, S.newObj, S.forget, enum, V.has, V.hasL, junkIf, setL, V.cs, hasL_i, hasL_b, hasL_s, hasL_n, hasL_rep, hasL_flat, hasL_append, -List.map_set]) | (refine S.clean_hp (L := [_, _]) hl (by decide) ?_ ?_ <;> simp [S.put, S.newObj, S.forget, enum, V.has, V.hasL, junkIf, setL, V.cs, hasL_i, hasL_b, hasL_s, hasL_n, hasL_rep, hasL_flat, hasL_append, -List.map_set]) | (refine S.clean_hp (L := [_, _, _]) hl (by decide) ?_ ?_ <;> simp [S.put, S.newObj, S.forget, enum, V.has, V.hasL, junkIf, setL, V.cs, hasL_i, hasL_b, hasL_s, hasL_n, hasL_rep, hasL_flat, hasL_append, -List.map_set]) | (refine S.clean_hp (L := [_, _, _, _]) hl (by decide) ?_ ?_ <;> simp [S.put, S.newObj, S.forget, enum, V.has, V.hasL, junkIf, setL, V.cs, hasL_i, hasL_b, hasL_s, hasL_n, hasL_rep, hasL_flat, hasL_append, -List.map_set]) | (refine S.clean_hp (L := [_, _, _, _, _]) hl (by decide) ?_ ?_ <;> simp [S.put, S.newObj, S.forget, enum, V.has, V.hasL, junkIf, setL, V.cs, hasL_i, hasL_b, hasL_s, hasL_n, hasL_rep, hasL_flat, hasL_append, -List.map_set]) | (refine S.clean_hp (L := [_, _, _, _, _, _]) hl (by decide) ?_ ?_ <;> simp [S.put, S.newObj, S.forget, enum, V.has, V.hasL, junkIf, setL, V.cs, hasL_i, hasL_b, hasL_s, hasL_n, hasL_rep, hasL_flat, hasL_append, -List.map_set]) | simp [S.put, S.newObj, S.forget, enum, V.has, V.hasL, junkIf, setL, V.cs, hasL_i, hasL_b, hasL_s, hasL_n, hasL_rep, hasL_flat, hasL_append, -List.map_set]) rfl (by decide) (by omega) (by omega) rfl) ?_
  simp only [S.forget, S.put, S.newObj, List.filter_cons, Nat.reduceBNe, bne_self_eq_false, if_true, if_false, Bool.false_eq_true, ↓reduceIte, List.map_cons, hl.forgetK 901 (by decide), hl.forgetH 901 (by decide)]
  simp only [S.forget, S.put, S.newObj, junkIf, V.has, V.hasL, hasL_i, hasL_b, hasL_s, hasL_d, hasL_n, hasL_rep, hasL_flat, hasL_append, List.map_cons, List.map_nil, List.filter_cons, List.filter_nil, Nat.reduceBNe, Nat.reduceBEq, eq_self, bne_self_eq_false,  Bool.not_true, Bool.not_false, Bool.or_false, Bool.or_true, Bool.false_or, Bool.true_or, if_true, if_false, Bool.false_eq_true, ite_true, ite_false, ↓reduceIte, beq_self_eq_true, Nat.reduceEqDiff]
  refine AL.rp rfl rfl (rp_assign rfl rfl) ?_
  refine AL.nil ?_
  try simp only [thenS, S.put, S.newObj, setL, V.cs, List.length_cons, List.length_nil, List.take_succ_cons, List.take_zero, List.drop_succ_cons, List.drop_zero, List.drop_nil, List.nil_append, List.cons_append, List.append_nil, Nat.zero_add, Nat.reduceAdd, List.map_cons, List.map_nil, List.set_cons_zero, List.set_cons_succ]
  refine AW.region ?_
  refine AL.rp rfl rfl (rp_move rfl rfl) ?_
  refine AL.rp rfl rfl (rp_sub rfl rfl rfl (by first | omega | (dsimp only; omega))) ?_
  refine AL.rp rfl rfl (rp_assign rfl rfl) ?_
  refine AL.nil ?_
  try simp only [thenS, S.put]
  refine ⟨_, ?_, ⟨j + 1, m + 1, M ++ [q % 256], by omega, by rw [hM, hsn, List.append_assoc], by simp [hm], rfl⟩, ?_⟩
  ·rw [show (k : Int) - 1 - ((j + 1 : Nat) : Int) = (p : Int) - 1 by omega, List.map_append]
   refine Less.h1 (T := [(0, _), (1, _), (7, _)]) ?_ rfl ?_
   ·exact ⟨⟨_, rfl, Wk.refl _⟩, ⟨_, rfl, Wk.refl _⟩, ⟨_, rfl, Wk.refl _⟩, trivial⟩
   ·exact fun k row h => hl.low (T := [(901, _), (910, _)]) (by rfl) k row h
  ·simp [fnd]; omega
 ·obtain rfl : j = k := by omega
  rw [List.take_of_length_le (by rw [splitB_len]; omega)] at hM
  have hneg : (j : Int) - 1 - j < 0 := by omega
  refine AW.seq ?_
  refine AW.seq ?_
  refine AW.region ?_
  refine AL.rp rfl rfl (rp_move rfl rfl) ?_
  (first | (refine AL.rp rfl rfl (rp_geqT rfl rfl rfl (by first | assumption | omega | (dsimp only; omega))) ?_) | (refine AL.rp rfl rfl (rp_geqF rfl rfl rfl (by first | assumption | omega | (dsimp only; omega))) ?_) | (refine AL.rp rfl rfl (rp_geq rfl rfl rfl) ?_))
  refine AL.nil ?_
  try simp only [thenS, S.put]
  refine AW.condF rfl ?_
  refine AW.exit ?_
  try simp only [thenS, inBlockS, ↓reduceIte, Nat.reduceEqDiff]
  refine AW.seq ?_
  refine AW.region ?_
  refine AL.rp rfl rfl (rp_move rfl rfl) ?_
  refine AL.rp rfl rfl (rp_assign rfl rfl) ?_
  refine AL.nil ?_
  try simp only [thenS, S.put]
  refine AW.ret ?_
  exact ⟨[_], ⟨rfl, trivial⟩, by rw [← hM, hm]; rfl, by rw [hM], rfl⟩
end Go.Proofs.Ytjbldphpkkmdpaa
