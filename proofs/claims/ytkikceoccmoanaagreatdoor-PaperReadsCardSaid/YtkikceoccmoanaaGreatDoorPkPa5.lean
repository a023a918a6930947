/- Part 5 of what the law PaperReads rests on. -/
import Derived.Shelf.Strings.SlTrimAscii
import Derived.Shelf.Strconv.Atoi
import Derived.Lib.AtoiErrMem
import Derived.Test.YtkikceoccmoanaaGreatDoorProg
import Derived.WideShapes
import Derived.Stop.IfaceNil
import Derived.Shelf.Strings.Split
import Derived.RowKit
import Derived.Test.YtkikceoccmoanaaGreatDoorPkPa1
import Derived.Test.YtkikceoccmoanaaGreatDoorPkPa2
import Derived.Test.YtkikceoccmoanaaGreatDoorPkPa3
import Derived.Test.YtkikceoccmoanaaGreatDoorPkPa4
namespace Go.Proofs.YtkikceoccmoanaaGreatDoor
open Go.RowKit
set_option linter.unusedSimpArgs false
set_option linter.unusedVariables false
set_option maxRecDepth 100000

theorem am_In (n lo hi : Int) : Fn Tryz.prog 27 [.i n, .i lo, .i hi] (fun v => v = .b (decide (lo ≤ n ∧ n ≤ hi))) := by
 refine Fn.intro (n := 15) ⟨Tryz.func27, rfl, rfl, rfl, rfl⟩ (by simp [V.pure, V.has, V.hasL]) (by simp) fun w0 out => ?_
 by_cases h1 : lo ≤ n
 ·by_cases h2 : n ≤ hi
  ·skip
   refine AW.seq ?_
   refine AW.region ?_
   refine AL.rp rfl rfl (rp_assign rfl rfl) ?_
   refine AL.nil ?_
   try simp only [thenS, S.put, enum, List.nil_append, List.cons_append, List.append_nil, Nat.zero_add, Nat.reduceAdd]
   refine AW.seq ?_
   refine AW.region ?_
   refine AL.rp rfl rfl (rp_move rfl rfl) ?_
   refine AL.rp rfl rfl (rp_move rfl rfl) ?_
   (first | (refine AL.rp rfl rfl (rp_geqT rfl rfl rfl (by first | assumption | omega | (dsimp only; omega))) ?_) | (refine AL.rp rfl rfl (rp_geqF rfl rfl rfl (by first | assumption | omega | (dsimp only; omega))) ?_) | (refine AL.rp rfl rfl (rp_geq rfl rfl rfl) ?_))
   refine AL.rp rfl rfl (rp_move rfl rfl) ?_
   (first | (refine AL.no rfl rfl rfl rfl ?_) | (refine AL.rpy rfl rfl rfl (rp_move rfl rfl) ?_))
   (first | (refine AL.no rfl rfl rfl rfl ?_) | (refine AL.rpy rfl rfl rfl (rp_move rfl rfl) ?_))
   (first | (refine AL.no rfl rfl rfl rfl ?_) | (refine AL.rpy rfl rfl rfl (rp_leqT rfl rfl rfl (by first | assumption | omega | (dsimp only; omega))) ?_) | (refine AL.rpy rfl rfl rfl (rp_leqF rfl rfl rfl (by first | assumption | omega | (dsimp only; omega))) ?_) | (refine AL.rpy rfl rfl rfl (rp_leq rfl rfl rfl) ?_))
   refine AL.rp rfl rfl (rp_pick rfl rfl rfl) ?_
   refine AL.rp rfl rfl (rp_assign rfl rfl) ?_
   refine AL.nil ?_
   try simp only [thenS, S.put]
   refine AW.ret ?_
   exact ⟨[_], ⟨rfl, trivial⟩, by simp [tupOf, h1, h2], by simp [tupOf, V.pure, V.has]⟩
  ·skip
   refine AW.seq ?_
   refine AW.region ?_
   refine AL.rp rfl rfl (rp_assign rfl rfl) ?_
   refine AL.nil ?_
   try simp only [thenS, S.put, enum, List.nil_append, List.cons_append, List.append_nil, Nat.zero_add, Nat.reduceAdd]
   refine AW.seq ?_
   refine AW.region ?_
   refine AL.rp rfl rfl (rp_move rfl rfl) ?_
   refine AL.rp rfl rfl (rp_move rfl rfl) ?_
   (first | (refine AL.rp rfl rfl (rp_geqT rfl rfl rfl (by first | assumption | omega | (dsimp only; omega))) ?_) | (refine AL.rp rfl rfl (rp_geqF rfl rfl rfl (by first | assumption | omega | (dsimp only; omega))) ?_) | (refine AL.rp rfl rfl (rp_geq rfl rfl rfl) ?_))
   refine AL.rp rfl rfl (rp_move rfl rfl) ?_
   (first | (refine AL.no rfl rfl rfl rfl ?_) | (refine AL.rpy rfl rfl rfl (rp_move rfl rfl) ?_))
   (first | (refine AL.no rfl rfl rfl rfl ?_) | (refine AL.rpy rfl rfl rfl (rp_move rfl rfl) ?_))
   (first | (refine AL.no rfl rfl rfl rfl ?_) | (refine AL.rpy rfl rfl rfl (rp_leqT rfl rfl rfl (by first | assumption | omega | (dsimp only; omega))) ?_) | (refine AL.rpy rfl rfl rfl (rp_leqF rfl rfl rfl (by first | assumption | omega | (dsimp only; omega))) ?_) | (refine AL.rpy rfl rfl rfl (rp_leq rfl rfl rfl) ?_))
   refine AL.rp rfl rfl (rp_pick rfl rfl rfl) ?_
   refine AL.rp rfl rfl (rp_assign rfl rfl) ?_
   refine AL.nil ?_
   try simp only [thenS, S.put]
   refine AW.ret ?_
   exact ⟨[_], ⟨rfl, trivial⟩, by simp [tupOf, h1, h2], by simp [tupOf, V.pure, V.has]⟩
 ·skip
  refine AW.seq ?_
  refine AW.region ?_
  refine AL.rp rfl rfl (rp_assign rfl rfl) ?_
  refine AL.nil ?_
  try simp only [thenS, S.put, enum, List.nil_append, List.cons_append, List.append_nil, Nat.zero_add, Nat.reduceAdd]
  refine AW.seq ?_
  refine AW.region ?_
  refine AL.rp rfl rfl (rp_move rfl rfl) ?_
  refine AL.rp rfl rfl (rp_move rfl rfl) ?_
  (first | (refine AL.rp rfl rfl (rp_geqT rfl rfl rfl (by first | assumption | omega | (dsimp only; omega))) ?_) | (refine AL.rp rfl rfl (rp_geqF rfl rfl rfl (by first | assumption | omega | (dsimp only; omega))) ?_) | (refine AL.rp rfl rfl (rp_geq rfl rfl rfl) ?_))
  refine AL.rp rfl rfl (rp_move rfl rfl) ?_
  (first | (refine AL.no rfl rfl rfl rfl ?_) | (refine AL.rpy rfl rfl rfl (rp_move rfl rfl) ?_))
  (first | (refine AL.no rfl rfl rfl rfl ?_) | (refine AL.rpy rfl rfl rfl (rp_move rfl rfl) ?_))
  (first | (refine AL.no rfl rfl rfl rfl ?_) | (refine AL.rpy rfl rfl rfl (rp_leqT rfl rfl rfl (by first | assumption | omega | (dsimp only; omega))) ?_) | (refine AL.rpy rfl rfl rfl (rp_leqF rfl rfl rfl (by first | assumption | omega | (dsimp only; omega))) ?_) | (refine AL.rpy rfl rfl rfl (rp_leq rfl rfl rfl) ?_))
  refine AL.rp rfl rfl (rp_pick rfl rfl rfl) ?_
  refine AL.rp rfl rfl (rp_assign rfl rfl) ?_
  refine AL.nil ?_
  try simp only [thenS, S.put]
  refine AW.ret ?_
  exact ⟨[_], ⟨rfl, trivial⟩, by simp [tupOf, h1], by simp [tupOf, V.pure, V.has]⟩

theorem am_ArcCount (m : Mach) (h60 : m.states.length ≤ 60) : Fn Tryz.prog 26 [mV m] (fun v => v = .i (arcN m.states)) := by
 refine Fn.mach m 0 rfl fun _ hal => ?_
 obtain ⟨st, sts⟩ := m
 simp only at h60 hal ⊢
 obtain ⟨len, hl⟩ : ∃ n, sts.length = n := ⟨_, rfl⟩
 rw [hl] at h60
 refine Fn.intro (n := 22) ⟨Tryz.func26, rfl, rfl, rfl, rfl⟩ (by simp [V.pure, V.has, V.hasL]) (by simp) fun w0 out => ?_
 refine AW.seq ?_
 refine AW.region ?_
 refine AL.sm rfl (sm_box 1 rfl rfl rfl (by first | rfl | simp [S.clean, S.put, S.newObj, S.forget, V.has, V.hasL, junkIf, setL, V.cs, hasL_i, hasL_d, hasL_b, hasL_s, hasL_n, hasL_rep, hasL_flat, hasL_append, -List.map_set]) rfl) ?_
 refine AL.rp rfl rfl (rp_assign rfl rfl) ?_
 refine AL.nil ?_
 try simp only [thenS, S.put, S.newObj, setL, V.cs, List.length_cons, List.length_nil, List.take_succ_cons, List.take_zero, List.drop_succ_cons, List.drop_zero, List.drop_nil, List.nil_append, List.cons_append, List.append_nil, Nat.zero_add, Nat.reduceAdd, List.map_cons, List.map_nil, List.set_cons_zero, List.set_cons_succ, enum]
 refine AW.seq ?_
 refine AW.region ?_
 refine AL.rp rfl rfl (rp_assign rfl rfl) ?_
 refine AL.nil ?_
 try simp only [thenS, S.put]
 refine AW.seq ?_
 refine AW.seq ?_
 refine AW.region ?_
 refine AL.rp rfl rfl (rp_assign rfl rfl) ?_
 refine AL.nil ?_
 try simp only [thenS, S.put]
 refine AW.block ?_
 refine AW.loop (fun s' => ∃ k : Nat, k ≤ len ∧ arcN (sts.take k) ≤ k * 4398046511104 ∧ s' = ⟨22, [(1, .ref 1 0), (3, .i (arcN (sts.take k))), (4, .i k)], [(1, ⟨24, [.i st, .d (stsD sts)], false, 0⟩)], []⟩) (fun s' => len - s'.nat 4) ⟨_, ?_, 0, by omega, by simp [arcN], rfl⟩ ?_
 ·exact (Less.of rfl (by repeat (first | exact trivial | refine ⟨⟨_, rfl, Wk.refl _⟩, ?_⟩ | refine ⟨⟨_, rfl, Wk.nil _ _⟩, ?_⟩ | refine ⟨⟨_, rfl, Wk.junk _⟩, ?_⟩)) (by repeat (first | exact trivial | refine ⟨rfl, ?_⟩)) rfl)
 rintro s' ⟨k, hk, hs, rfl⟩
 by_cases hlt : k < len
 ·obtain ⟨x, hx⟩ := get_lt hl hlt
  obtain ⟨la, hla⟩ : ∃ n, x.arcs.length = n := ⟨_, rfl⟩
  have hla' := hal x (List.mem_of_getElem? hx)
  have hsn : arcN (sts.take (k + 1)) = arcN (sts.take k) + la := by rw [take_snoc hx, arcN_snoc, hla]
  refine AW.seq ?_
  refine AW.seq ?_
  refine AW.region ?_
  refine AL.rp rfl rfl (rp_move rfl rfl) ?_
  (first | (refine AL.rp rfl rfl (rp_field_ref Tryz.underlying24 rfl rfl rfl inf22 (by decide) rfl) ?_) | (refine AL.rp rfl rfl (rp_field_ad Tryz.underlying24 rfl rfl rfl inf22 (by decide) rfl) ?_))
  (first | (refine AL.rd rfl rfl (rd_load_ref Tryz.underlying22 rfl rfl rfl rfl rfl rfl) ?_) | (refine AL.rd rfl rfl (rd_load_ad Tryz.underlying22 rfl rfl rfl rfl) ?_) | (refine AL.rd rfl rfl (rd_load_map Tryz.underlying22 rfl rfl rfl rfl rfl rfl (by assumption)) ?_))
  (first | (refine AL.rp rfl rfl (rp_len_map Tryz.underlying22 rfl rfl (by assumption)) ?_) | (refine AL.rp rfl rfl (rp_len_own Tryz.underlying22 rfl rfl) ?_) | (refine AL.rp rfl rfl (rp_len_sl Tryz.underlying22 rfl rfl) ?_) | (refine AL.rp rfl rfl (rp_len_nil Tryz.underlying22 rfl rfl) ?_) | (refine AL.rp rfl rfl (rp_len_str Tryz.underlying22 rfl rfl) ?_))
  (first | (refine AL.rp rfl rfl (rp_lssT rfl rfl rfl (by first | assumption | omega | (dsimp only; omega))) ?_) | (refine AL.rp rfl rfl (rp_lssF rfl rfl rfl (by first | assumption | omega | (dsimp only; omega))) ?_) | (refine AL.rp rfl rfl (rp_lss rfl rfl rfl) ?_))
  refine AL.nil ?_
  try simp only [thenS, S.put]
  refine AW.condT rfl ?_
  refine AW.skip ?_
  try simp only [thenS]
  refine AW.seq ?_
  refine AW.block ?_
  refine AW.region ?_
  refine AL.rp rfl rfl (rp_move rfl rfl) ?_
  (first | (refine AL.rp rfl rfl (rp_field_ref Tryz.underlying24 rfl rfl rfl inf22 (by decide) rfl) ?_) | (refine AL.rp rfl rfl (rp_field_ad Tryz.underlying24 rfl rfl rfl inf22 (by decide) rfl) ?_))
  (first | (refine AL.rd rfl rfl (rd_load_ref Tryz.underlying22 rfl rfl rfl rfl rfl rfl) ?_) | (refine AL.rd rfl rfl (rd_load_ad Tryz.underlying22 rfl rfl rfl rfl) ?_) | (refine AL.rd rfl rfl (rd_load_map Tryz.underlying22 rfl rfl rfl rfl rfl rfl (by assumption)) ?_))
  refine AL.rp rfl rfl (rp_move rfl rfl) ?_
  (first | (refine AL.rp rfl rfl (rp_index_map Tryz.underlying22 inf42 rfl rfl rfl rfl (by assumption)) ?_) | (refine AL.rp rfl rfl (rp_index_own Tryz.underlying22 inf42 rfl rfl rfl rfl (by first | assumption | omega)) ?_) | (refine AL.rp rfl rfl (rd_index_sl Tryz.underlying22 inf42 rfl rfl rfl rfl (by assumption)) ?_) | (refine AL.rp rfl rfl (rp_index_own Tryz.underlying22 inf42 rfl rfl rfl (by omega) (by omega)) ?_))
  (first | (refine AL.rp rfl rfl (rp_field_ref Tryz.underlying42 rfl rfl rfl inf40 (by decide) rfl) ?_) | (refine AL.rp rfl rfl (rp_field_ad Tryz.underlying42 rfl rfl rfl inf40 (by decide) rfl) ?_))
  (first | (refine AL.rd rfl rfl (rd_load_ref Tryz.underlying40 rfl rfl rfl rfl rfl rfl) ?_) | (refine AL.rd rfl rfl (rd_load_ad Tryz.underlying40 rfl rfl rfl rfl) ?_) | (refine AL.rd rfl rfl (rd_load_map Tryz.underlying40 rfl rfl rfl rfl rfl rfl (by assumption)) ?_))
  (first | (refine AL.rp rfl rfl (rp_len_map Tryz.underlying40 rfl rfl (by assumption)) ?_) | (refine AL.rp rfl rfl (rp_len_own Tryz.underlying40 rfl rfl) ?_) | (refine AL.rp rfl rfl (rp_len_sl Tryz.underlying40 rfl rfl) ?_) | (refine AL.rp rfl rfl (rp_len_nil Tryz.underlying40 rfl rfl) ?_) | (refine AL.rp rfl rfl (rp_len_str Tryz.underlying40 rfl rfl) ?_))
  refine AL.rp rfl rfl (rp_add rfl rfl rfl (by first | omega | (dsimp only; omega))) ?_
  refine AL.rp rfl rfl (rp_assign rfl rfl) ?_
  refine AL.nil ?_
  try simp only [thenS, S.put]
  refine AW.region ?_
  refine AL.rp rfl rfl (rp_move rfl rfl) ?_
  refine AL.rp rfl rfl (rp_add rfl rfl rfl (by first | omega | (dsimp only; omega))) ?_
  refine AL.rp rfl rfl (rp_assign rfl rfl) ?_
  refine AL.nil ?_
  try simp only [thenS, S.put]
  refine ⟨_, ?_, ⟨k + 1, by omega, by omega, rfl⟩, ?_⟩
  ·rw [hsn]; exact (Less.of rfl (by repeat (first | exact trivial | refine ⟨⟨_, rfl, Wk.refl _⟩, ?_⟩ | refine ⟨⟨_, rfl, Wk.nil _ _⟩, ?_⟩ | refine ⟨⟨_, rfl, Wk.junk _⟩, ?_⟩)) (by repeat (first | exact trivial | refine ⟨rfl, ?_⟩)) rfl)
  ·simp [S.nat, fnd]; omega
 ·skip
  refine AW.seq ?_
  refine AW.seq ?_
  refine AW.region ?_
  refine AL.rp rfl rfl (rp_move rfl rfl) ?_
  (first | (refine AL.rp rfl rfl (rp_field_ref Tryz.underlying24 rfl rfl rfl inf22 (by decide) rfl) ?_) | (refine AL.rp rfl rfl (rp_field_ad Tryz.underlying24 rfl rfl rfl inf22 (by decide) rfl) ?_))
  (first | (refine AL.rd rfl rfl (rd_load_ref Tryz.underlying22 rfl rfl rfl rfl rfl rfl) ?_) | (refine AL.rd rfl rfl (rd_load_ad Tryz.underlying22 rfl rfl rfl rfl) ?_) | (refine AL.rd rfl rfl (rd_load_map Tryz.underlying22 rfl rfl rfl rfl rfl rfl (by assumption)) ?_))
  (first | (refine AL.rp rfl rfl (rp_len_map Tryz.underlying22 rfl rfl (by assumption)) ?_) | (refine AL.rp rfl rfl (rp_len_own Tryz.underlying22 rfl rfl) ?_) | (refine AL.rp rfl rfl (rp_len_sl Tryz.underlying22 rfl rfl) ?_) | (refine AL.rp rfl rfl (rp_len_nil Tryz.underlying22 rfl rfl) ?_) | (refine AL.rp rfl rfl (rp_len_str Tryz.underlying22 rfl rfl) ?_))
  (first | (refine AL.rp rfl rfl (rp_lssT rfl rfl rfl (by first | assumption | omega | (dsimp only; omega))) ?_) | (refine AL.rp rfl rfl (rp_lssF rfl rfl rfl (by first | assumption | omega | (dsimp only; omega))) ?_) | (refine AL.rp rfl rfl (rp_lss rfl rfl rfl) ?_))
  refine AL.nil ?_
  try simp only [thenS, S.put]
  refine AW.condF rfl ?_
  refine AW.exit ?_
  try simp only [thenS, inBlockS, ↓reduceIte, Nat.reduceEqDiff]
  refine AW.seq ?_
  refine AW.region ?_
  refine AL.rp rfl rfl (rp_move rfl rfl) ?_
  refine AL.rp rfl rfl (rp_assign rfl rfl) ?_
  refine AL.nil ?_
  try simp only [thenS, S.put]
  refine AW.ret ?_
  exact ⟨[_], ⟨rfl, trivial⟩, by rw [arcN_full hl hlt]; rfl, by simp [tupOf, V.pure, V.has]⟩

theorem am_IsWeight (x : Int) : Fn Tryz.prog 28 [.i x] (fun v => v = .b (decide (0 ≤ x ∧ x ≤ 1000000001))) := by
 refine Fn.intro (n := 9) ⟨Tryz.func28, rfl, rfl, rfl, rfl⟩ (by simp [V.pure, V.has, V.hasL]) (by simp) fun w0 out => ?_
 by_cases h1 : x = 1000000001
 ·skip
  refine AW.seq ?_
  refine AW.region ?_
  refine AL.rp rfl rfl (rp_assign rfl rfl) ?_
  refine AL.nil ?_
  try simp only [thenS, S.put, enum, List.nil_append, List.cons_append, List.append_nil, Nat.zero_add, Nat.reduceAdd]
  refine AW.seq ?_
  refine AW.region ?_
  refine AL.rp rfl rfl (rp_move rfl rfl) ?_
  (first | (refine AL.rp rfl rfl (rp_eqlT rfl rfl rfl (by first | assumption | omega | (dsimp only; omega))) ?_) | (refine AL.rp rfl rfl (rp_eqlF rfl rfl rfl (by first | assumption | omega | (dsimp only; omega))) ?_) | (refine AL.rp rfl rfl (rp_eql rfl rfl rfl) ?_))
  refine AL.rp rfl rfl (rp_move rfl rfl) ?_
  (first | (refine AL.no rfl rfl rfl rfl ?_) | (refine AL.rpy rfl rfl rfl (rp_move rfl rfl) ?_))
  (first | (refine AL.no rfl rfl rfl rfl ?_) | (refine AL.cally (post := ?pc0) rfl rfl (sm_call (args := [_, _, _]) ?hc0 ⟨Tryz.func27, rfl, rfl, rfl, rfl⟩ rfl rfl rfl rfl) ?_; (case hc0 => (first | (refine Fn.decT (am_In _ _ _) ?_; omega) | (refine Fn.decF (am_In _ _ _) ?_; omega) | exact am_In _ _ _)); rintro _ rfl -; try dsimp only))
  refine AL.rp rfl rfl (rp_pick rfl rfl rfl) ?_
  refine AL.rp rfl rfl (rp_assign rfl rfl) ?_
  refine AL.nil ?_
  try simp only [thenS, S.put, S.newObj, setL, V.cs, List.length_cons, List.length_nil, List.take_succ_cons, List.take_zero, List.drop_succ_cons, List.drop_zero, List.drop_nil, List.nil_append, List.cons_append, List.append_nil, Nat.zero_add, Nat.reduceAdd, List.map_cons, List.map_nil, List.set_cons_zero, List.set_cons_succ]
  refine AW.ret ?_
  exact ⟨[_], ⟨rfl, trivial⟩, by simp [tupOf, h1], by simp [tupOf, V.pure, V.has]⟩
 ·skip
  refine AW.seq ?_
  refine AW.region ?_
  refine AL.rp rfl rfl (rp_assign rfl rfl) ?_
  refine AL.nil ?_
  try simp only [thenS, S.put, enum, List.nil_append, List.cons_append, List.append_nil, Nat.zero_add, Nat.reduceAdd]
  refine AW.seq ?_
  refine AW.region ?_
  refine AL.rp rfl rfl (rp_move rfl rfl) ?_
  (first | (refine AL.rp rfl rfl (rp_eqlT rfl rfl rfl (by first | assumption | omega | (dsimp only; omega))) ?_) | (refine AL.rp rfl rfl (rp_eqlF rfl rfl rfl (by first | assumption | omega | (dsimp only; omega))) ?_) | (refine AL.rp rfl rfl (rp_eql rfl rfl rfl) ?_))
  refine AL.rp rfl rfl (rp_move rfl rfl) ?_
  (first | (refine AL.no rfl rfl rfl rfl ?_) | (refine AL.rpy rfl rfl rfl (rp_move rfl rfl) ?_))
  (first | (refine AL.no rfl rfl rfl rfl ?_) | (refine AL.cally (post := ?pc1) rfl rfl (sm_call (args := [_, _, _]) ?hc1 ⟨Tryz.func27, rfl, rfl, rfl, rfl⟩ rfl rfl rfl rfl) ?_; (case hc1 => (first | (refine Fn.decT (am_In _ _ _) ?_; omega) | (refine Fn.decF (am_In _ _ _) ?_; omega) | exact am_In _ _ _)); rintro _ rfl -; try dsimp only))
  refine AL.rp rfl rfl (rp_pick rfl rfl rfl) ?_
  refine AL.rp rfl rfl (rp_assign rfl rfl) ?_
  refine AL.nil ?_
  try simp only [thenS, S.put, S.newObj, setL, V.cs, List.length_cons, List.length_nil, List.take_succ_cons, List.take_zero, List.drop_succ_cons, List.drop_zero, List.drop_nil, List.nil_append, List.cons_append, List.append_nil, Nat.zero_add, Nat.reduceAdd, List.map_cons, List.map_nil, List.set_cons_zero, List.set_cons_succ]
  refine AW.ret ?_
  refine ⟨[_], ⟨rfl, trivial⟩, ?_, by simp [tupOf, V.pure, V.has]⟩
  simp only [tupOf, V.b, V.d.injEq, D.p.injEq, Value.bool.injEq, decide_eq_decide]
  omega

theorem am_Fault (m : Mach) : Fn Tryz.prog 13 [mV m] (fun v => v = .i (machE m)) := by
 refine Fn.mach m 0 rfl fun hsl hal => ?_
 obtain ⟨st, sts⟩ := m
 simp only at hsl hal ⊢
 obtain ⟨len, hl⟩ : ∃ n, sts.length = n := ⟨_, rfl⟩
 rw [hl] at hsl
 refine Fn.intro (n := 77) ⟨Tryz.func13, rfl, rfl, rfl, rfl⟩ (by simp [V.pure, V.has, V.hasL]) (by simp) fun w0 out => ?_
 by_cases h60 : 60 < len
 ·skip
  refine AW.seq ?_
  refine AW.region ?_
  refine AL.sm rfl (sm_box 1 rfl rfl rfl (by first | rfl | simp [S.clean, S.put, S.newObj, S.forget, V.has, V.hasL, junkIf, setL, V.cs, hasL_i, hasL_d, hasL_b, hasL_s, hasL_n, hasL_rep, hasL_flat, hasL_append, -List.map_set]) rfl) ?_
  refine AL.rp rfl rfl (rp_assign rfl rfl) ?_
  refine AL.nil ?_
  try simp only [thenS, S.put, S.newObj, setL, V.cs, List.length_cons, List.length_nil, List.take_succ_cons, List.take_zero, List.drop_succ_cons, List.drop_zero, List.drop_nil, List.nil_append, List.cons_append, List.append_nil, Nat.zero_add, Nat.reduceAdd, List.map_cons, List.map_nil, List.set_cons_zero, List.set_cons_succ, enum]
  refine AW.seq ?_
  refine AW.region ?_
  (first | (refine AL.rp rfl rfl (rp_field_ref Tryz.underlying24 rfl rfl rfl inf22 (by decide) rfl) ?_) | (refine AL.rp rfl rfl (rp_field_ad Tryz.underlying24 rfl rfl rfl inf22 (by decide) rfl) ?_))
  (first | (refine AL.rd rfl rfl (rd_load_ref Tryz.underlying22 rfl rfl rfl rfl rfl rfl) ?_) | (refine AL.rd rfl rfl (rd_load_ad Tryz.underlying22 rfl rfl rfl rfl) ?_) | (refine AL.rd rfl rfl (rd_load_map Tryz.underlying22 rfl rfl rfl rfl rfl rfl (by assumption)) ?_))
  (first | (refine AL.rp rfl rfl (rp_len_map Tryz.underlying22 rfl rfl (by assumption)) ?_) | (refine AL.rp rfl rfl (rp_len_own Tryz.underlying22 rfl rfl) ?_) | (refine AL.rp rfl rfl (rp_len_sl Tryz.underlying22 rfl rfl) ?_) | (refine AL.rp rfl rfl (rp_len_nil Tryz.underlying22 rfl rfl) ?_) | (refine AL.rp rfl rfl (rp_len_str Tryz.underlying22 rfl rfl) ?_))
  refine AL.rp rfl rfl (rp_assign rfl rfl) ?_
  refine AL.nil ?_
  try simp only [thenS, S.put]
  refine AW.seq ?_
  refine AW.seq ?_
  refine AW.region ?_
  refine AL.rp rfl rfl (rp_move rfl rfl) ?_
  (first | (refine AL.rp rfl rfl (rp_gtrT rfl rfl rfl (by first | assumption | omega | (dsimp only; omega))) ?_) | (refine AL.rp rfl rfl (rp_gtrF rfl rfl rfl (by first | assumption | omega | (dsimp only; omega))) ?_) | (refine AL.rp rfl rfl (rp_gtr rfl rfl rfl) ?_))
  refine AL.rp rfl rfl (rp_move rfl rfl) ?_
  (first | (refine AL.no rfl rfl rfl rfl ?_) | (refine AL.rdy rfl rfl rfl (rd_loads_ref Tryz.underlying24 rfl inf24 rfl rfl rfl rfl rfl rfl) ?_) | (refine AL.rdy rfl rfl rfl (rd_loads_ad Tryz.underlying24 rfl inf24 rfl rfl rfl rfl) ?_))
  (first | (refine AL.no rfl rfl rfl rfl ?_) | (refine AL.cally (post := ?pc2) rfl rfl (sm_call (args := [_]) ?hc2 ⟨Tryz.func26, rfl, rfl, rfl, rfl⟩ rfl rfl rfl rfl) ?_; (case hc2 => (exact am_ArcCount ⟨st, sts⟩ (by simp only; omega))); rintro _ rfl -; try dsimp only))
  (first | (refine AL.no rfl rfl rfl rfl ?_) | (refine AL.rpy rfl rfl rfl (rp_gtrT rfl rfl rfl (by first | assumption | omega | (dsimp only; omega))) ?_) | (refine AL.rpy rfl rfl rfl (rp_gtrF rfl rfl rfl (by first | assumption | omega | (dsimp only; omega))) ?_) | (refine AL.rpy rfl rfl rfl (rp_gtr rfl rfl rfl) ?_))
  refine AL.rp rfl rfl (rp_pick rfl rfl rfl) ?_
  refine AL.nil ?_
  try simp only [thenS, S.put, S.newObj, setL, V.cs, List.length_cons, List.length_nil, List.take_succ_cons, List.take_zero, List.drop_succ_cons, List.drop_zero, List.drop_nil, List.nil_append, List.cons_append, List.append_nil, Nat.zero_add, Nat.reduceAdd, List.map_cons, List.map_nil, List.set_cons_zero, List.set_cons_succ]
  refine AW.condT rfl ?_
  refine AW.seq ?_
  refine AW.region ?_
  refine AL.rp rfl rfl (rp_assign rfl rfl) ?_
  refine AL.nil ?_
  try simp only [thenS, S.put]
  refine AW.ret ?_
  exact ⟨[_], ⟨rfl, trivial⟩, by rw [machE_size (.inl (by rw [hl]; exact h60))]; rfl, by simp [tupOf, V.pure, V.has]⟩
 ·by_cases h400 : 400 < arcN sts
  ·skip
   refine AW.seq ?_
   refine AW.region ?_
   refine AL.sm rfl (sm_box 1 rfl rfl rfl (by first | rfl | simp [S.clean, S.put, S.newObj, S.forget, V.has, V.hasL, junkIf, setL, V.cs, hasL_i, hasL_d, hasL_b, hasL_s, hasL_n, hasL_rep, hasL_flat, hasL_append, -List.map_set]) rfl) ?_
   refine AL.rp rfl rfl (rp_assign rfl rfl) ?_
   refine AL.nil ?_
   try simp only [thenS, S.put, S.newObj, setL, V.cs, List.length_cons, List.length_nil, List.take_succ_cons, List.take_zero, List.drop_succ_cons, List.drop_zero, List.drop_nil, List.nil_append, List.cons_append, List.append_nil, Nat.zero_add, Nat.reduceAdd, List.map_cons, List.map_nil, List.set_cons_zero, List.set_cons_succ, enum]
   refine AW.seq ?_
   refine AW.region ?_
   (first | (refine AL.rp rfl rfl (rp_field_ref Tryz.underlying24 rfl rfl rfl inf22 (by decide) rfl) ?_) | (refine AL.rp rfl rfl (rp_field_ad Tryz.underlying24 rfl rfl rfl inf22 (by decide) rfl) ?_))
   (first | (refine AL.rd rfl rfl (rd_load_ref Tryz.underlying22 rfl rfl rfl rfl rfl rfl) ?_) | (refine AL.rd rfl rfl (rd_load_ad Tryz.underlying22 rfl rfl rfl rfl) ?_) | (refine AL.rd rfl rfl (rd_load_map Tryz.underlying22 rfl rfl rfl rfl rfl rfl (by assumption)) ?_))
   (first | (refine AL.rp rfl rfl (rp_len_map Tryz.underlying22 rfl rfl (by assumption)) ?_) | (refine AL.rp rfl rfl (rp_len_own Tryz.underlying22 rfl rfl) ?_) | (refine AL.rp rfl rfl (rp_len_sl Tryz.underlying22 rfl rfl) ?_) | (refine AL.rp rfl rfl (rp_len_nil Tryz.underlying22 rfl rfl) ?_) | (refine AL.rp rfl rfl (rp_len_str Tryz.underlying22 rfl rfl) ?_))
   refine AL.rp rfl rfl (rp_assign rfl rfl) ?_
   refine AL.nil ?_
   try simp only [thenS, S.put]
   refine AW.seq ?_
   refine AW.seq ?_
   refine AW.region ?_
   refine AL.rp rfl rfl (rp_move rfl rfl) ?_
   (first | (refine AL.rp rfl rfl (rp_gtrT rfl rfl rfl (by first | assumption | omega | (dsimp only; omega))) ?_) | (refine AL.rp rfl rfl (rp_gtrF rfl rfl rfl (by first | assumption | omega | (dsimp only; omega))) ?_) | (refine AL.rp rfl rfl (rp_gtr rfl rfl rfl) ?_))
   refine AL.rp rfl rfl (rp_move rfl rfl) ?_
   (first | (refine AL.no rfl rfl rfl rfl ?_) | (refine AL.rdy rfl rfl rfl (rd_loads_ref Tryz.underlying24 rfl inf24 rfl rfl rfl rfl rfl rfl) ?_) | (refine AL.rdy rfl rfl rfl (rd_loads_ad Tryz.underlying24 rfl inf24 rfl rfl rfl rfl) ?_))
   (first | (refine AL.no rfl rfl rfl rfl ?_) | (refine AL.cally (post := ?pc3) rfl rfl (sm_call (args := [_]) ?hc3 ⟨Tryz.func26, rfl, rfl, rfl, rfl⟩ rfl rfl rfl rfl) ?_; (case hc3 => (exact am_ArcCount ⟨st, sts⟩ (by simp only; omega))); rintro _ rfl -; try dsimp only))
   (first | (refine AL.no rfl rfl rfl rfl ?_) | (refine AL.rpy rfl rfl rfl (rp_gtrT rfl rfl rfl (by first | assumption | omega | (dsimp only; omega))) ?_) | (refine AL.rpy rfl rfl rfl (rp_gtrF rfl rfl rfl (by first | assumption | omega | (dsimp only; omega))) ?_) | (refine AL.rpy rfl rfl rfl (rp_gtr rfl rfl rfl) ?_))
   refine AL.rp rfl rfl (rp_pick rfl rfl rfl) ?_
   refine AL.nil ?_
   try simp only [thenS, S.put, S.newObj, setL, V.cs, List.length_cons, List.length_nil, List.take_succ_cons, List.take_zero, List.drop_succ_cons, List.drop_zero, List.drop_nil, List.nil_append, List.cons_append, List.append_nil, Nat.zero_add, Nat.reduceAdd, List.map_cons, List.map_nil, List.set_cons_zero, List.set_cons_succ]
   refine AW.condT rfl ?_
   refine AW.seq ?_
   refine AW.region ?_
   refine AL.rp rfl rfl (rp_assign rfl rfl) ?_
   refine AL.nil ?_
   try simp only [thenS, S.put]
   refine AW.ret ?_
   exact ⟨[_], ⟨rfl, trivial⟩, by rw [machE_size (.inr h400)]; rfl, by simp [tupOf, V.pure, V.has]⟩
  ·by_cases hst : -1 ≤ st ∧ st ≤ (len : Int) - 1
   ·skip
    refine AW.seq ?_
    refine AW.region ?_
    refine AL.sm rfl (sm_box 1 rfl rfl rfl (by first | rfl | simp [S.clean, S.put, S.newObj, S.forget, V.has, V.hasL, junkIf, setL, V.cs, hasL_i, hasL_d, hasL_b, hasL_s, hasL_n, hasL_rep, hasL_flat, hasL_append, -List.map_set]) rfl) ?_
    refine AL.rp rfl rfl (rp_assign rfl rfl) ?_
    refine AL.nil ?_
    try simp only [thenS, S.put, S.newObj, setL, V.cs, List.length_cons, List.length_nil, List.take_succ_cons, List.take_zero, List.drop_succ_cons, List.drop_zero, List.drop_nil, List.nil_append, List.cons_append, List.append_nil, Nat.zero_add, Nat.reduceAdd, List.map_cons, List.map_nil, List.set_cons_zero, List.set_cons_succ, enum]
    refine AW.seq ?_
    refine AW.region ?_
    (first | (refine AL.rp rfl rfl (rp_field_ref Tryz.underlying24 rfl rfl rfl inf22 (by decide) rfl) ?_) | (refine AL.rp rfl rfl (rp_field_ad Tryz.underlying24 rfl rfl rfl inf22 (by decide) rfl) ?_))
    (first | (refine AL.rd rfl rfl (rd_load_ref Tryz.underlying22 rfl rfl rfl rfl rfl rfl) ?_) | (refine AL.rd rfl rfl (rd_load_ad Tryz.underlying22 rfl rfl rfl rfl) ?_) | (refine AL.rd rfl rfl (rd_load_map Tryz.underlying22 rfl rfl rfl rfl rfl rfl (by assumption)) ?_))
    (first | (refine AL.rp rfl rfl (rp_len_map Tryz.underlying22 rfl rfl (by assumption)) ?_) | (refine AL.rp rfl rfl (rp_len_own Tryz.underlying22 rfl rfl) ?_) | (refine AL.rp rfl rfl (rp_len_sl Tryz.underlying22 rfl rfl) ?_) | (refine AL.rp rfl rfl (rp_len_nil Tryz.underlying22 rfl rfl) ?_) | (refine AL.rp rfl rfl (rp_len_str Tryz.underlying22 rfl rfl) ?_))
    refine AL.rp rfl rfl (rp_assign rfl rfl) ?_
    refine AL.nil ?_
    try simp only [thenS, S.put]
    refine AW.seq ?_
    refine AW.seq ?_
    refine AW.region ?_
    refine AL.rp rfl rfl (rp_move rfl rfl) ?_
    (first | (refine AL.rp rfl rfl (rp_gtrT rfl rfl rfl (by first | assumption | omega | (dsimp only; omega))) ?_) | (refine AL.rp rfl rfl (rp_gtrF rfl rfl rfl (by first | assumption | omega | (dsimp only; omega))) ?_) | (refine AL.rp rfl rfl (rp_gtr rfl rfl rfl) ?_))
    refine AL.rp rfl rfl (rp_move rfl rfl) ?_
    (first | (refine AL.no rfl rfl rfl rfl ?_) | (refine AL.rdy rfl rfl rfl (rd_loads_ref Tryz.underlying24 rfl inf24 rfl rfl rfl rfl rfl rfl) ?_) | (refine AL.rdy rfl rfl rfl (rd_loads_ad Tryz.underlying24 rfl inf24 rfl rfl rfl rfl) ?_))
    (first | (refine AL.no rfl rfl rfl rfl ?_) | (refine AL.cally (post := ?pc4) rfl rfl (sm_call (args := [_]) ?hc4 ⟨Tryz.func26, rfl, rfl, rfl, rfl⟩ rfl rfl rfl rfl) ?_; (case hc4 => (exact am_ArcCount ⟨st, sts⟩ (by simp only; omega))); rintro _ rfl -; try dsimp only))
    (first | (refine AL.no rfl rfl rfl rfl ?_) | (refine AL.rpy rfl rfl rfl (rp_gtrT rfl rfl rfl (by first | assumption | omega | (dsimp only; omega))) ?_) | (refine AL.rpy rfl rfl rfl (rp_gtrF rfl rfl rfl (by first | assumption | omega | (dsimp only; omega))) ?_) | (refine AL.rpy rfl rfl rfl (rp_gtr rfl rfl rfl) ?_))
    refine AL.rp rfl rfl (rp_pick rfl rfl rfl) ?_
    refine AL.nil ?_
    try simp only [thenS, S.put, S.newObj, setL, V.cs, List.length_cons, List.length_nil, List.take_succ_cons, List.take_zero, List.drop_succ_cons, List.drop_zero, List.drop_nil, List.nil_append, List.cons_append, List.append_nil, Nat.zero_add, Nat.reduceAdd, List.map_cons, List.map_nil, List.set_cons_zero, List.set_cons_succ]
    refine AW.condF rfl ?_
    refine AW.skip ?_
    try simp only [thenS]
    refine AW.seq ?_
    refine AW.seq ?_
    refine AW.region ?_
    (first | (refine AL.rp rfl rfl (rp_field_ref Tryz.underlying24 rfl rfl rfl inf3 (by decide) rfl) ?_) | (refine AL.rp rfl rfl (rp_field_ad Tryz.underlying24 rfl rfl rfl inf3 (by decide) rfl) ?_))
    (first | (refine AL.rd rfl rfl (rd_load_ref Tryz.underlying3 rfl rfl rfl rfl rfl rfl) ?_) | (refine AL.rd rfl rfl (rd_load_ad Tryz.underlying3 rfl rfl rfl rfl) ?_) | (refine AL.rd rfl rfl (rd_load_map Tryz.underlying3 rfl rfl rfl rfl rfl rfl (by assumption)) ?_))
    refine AL.rp rfl rfl (rp_move rfl rfl) ?_
    refine AL.rp rfl rfl (rp_sub rfl rfl rfl (by first | omega | (dsimp only; omega))) ?_
    refine AL.call (post := ?pc5) rfl (sm_call (args := [_, _, _]) ?hc5 ⟨Tryz.func27, rfl, rfl, rfl, rfl⟩ rfl rfl rfl rfl) ?_
    case hc5 => first | (refine Fn.decT (am_In _ _ _) ?_; omega) | (refine Fn.decF (am_In _ _ _) ?_; omega) | exact am_In _ _ _
    rintro _ rfl -
    try dsimp only
    refine AL.rp rfl rfl (rp_not rfl rfl) ?_
    refine AL.nil ?_
    try simp only [thenS, S.put, S.newObj, setL, V.cs, List.length_cons, List.length_nil, List.take_succ_cons, List.take_zero, List.drop_succ_cons, List.drop_zero, List.drop_nil, List.nil_append, List.cons_append, List.append_nil, Nat.zero_add, Nat.reduceAdd, List.map_cons, List.map_nil, List.set_cons_zero, List.set_cons_succ]
    refine AW.condF rfl ?_
    refine AW.skip ?_
    try simp only [thenS]
    refine AW.seq ?_
    refine AW.seq ?_
    refine AW.region ?_
    refine AL.rp rfl rfl (rp_assign rfl rfl) ?_
    refine AL.nil ?_
    try simp only [thenS, S.put]
    refine AW.block ?_
    refine AW.loop (fun s' => ∃ k : Nat, k ≤ len ∧ (sts.take k).all (stOk len) = true ∧ s' = ⟨77, [(1, .ref 1 0), (3, .i len), (4, .i k)], [(1, ⟨24, [.i st, .d (stsD sts)], false, 0⟩)], []⟩) (fun s' => len - s'.nat 4) ⟨_, ?_, 0, by omega, by simp, rfl⟩ ?_
    ·exact (Less.of rfl (by repeat (first | exact trivial | refine ⟨⟨_, rfl, Wk.refl _⟩, ?_⟩ | refine ⟨⟨_, rfl, Wk.nil _ _⟩, ?_⟩ | refine ⟨⟨_, rfl, Wk.junk _⟩, ?_⟩)) (by repeat (first | exact trivial | refine ⟨rfl, ?_⟩)) rfl)
    rintro s' ⟨k, hk, hall, rfl⟩
    by_cases hlt : k < len
    ·obtain ⟨x, hx⟩ := get_lt hl hlt
     obtain ⟨la, hla⟩ : ∃ n, x.arcs.length = n := ⟨_, rfl⟩
     have hla' := hal x (List.mem_of_getElem? hx)
     by_cases hf : 0 ≤ x.fin ∧ x.fin ≤ 1000000001
     ·skip
      refine AW.seq ?_
      refine AW.seq ?_
      refine AW.region ?_
      refine AL.rp rfl rfl (rp_move rfl rfl) ?_
      refine AL.rp rfl rfl (rp_move rfl rfl) ?_
      (first | (refine AL.rp rfl rfl (rp_lssT rfl rfl rfl (by first | assumption | omega | (dsimp only; omega))) ?_) | (refine AL.rp rfl rfl (rp_lssF rfl rfl rfl (by first | assumption | omega | (dsimp only; omega))) ?_) | (refine AL.rp rfl rfl (rp_lss rfl rfl rfl) ?_))
      refine AL.nil ?_
      try simp only [thenS, S.put]
      refine AW.condT rfl ?_
      refine AW.skip ?_
      try simp only [thenS]
      refine AW.seq ?_
      refine AW.block ?_
      refine AW.seq ?_
      refine AW.seq ?_
      refine AW.region ?_
      (first | (refine AL.rp rfl rfl (rp_field_ref Tryz.underlying24 rfl rfl rfl inf22 (by decide) rfl) ?_) | (refine AL.rp rfl rfl (rp_field_ad Tryz.underlying24 rfl rfl rfl inf22 (by decide) rfl) ?_))
      (first | (refine AL.rd rfl rfl (rd_load_ref Tryz.underlying22 rfl rfl rfl rfl rfl rfl) ?_) | (refine AL.rd rfl rfl (rd_load_ad Tryz.underlying22 rfl rfl rfl rfl) ?_) | (refine AL.rd rfl rfl (rd_load_map Tryz.underlying22 rfl rfl rfl rfl rfl rfl (by assumption)) ?_))
      refine AL.rp rfl rfl (rp_move rfl rfl) ?_
      (first | (refine AL.rp rfl rfl (rp_index_map Tryz.underlying22 inf42 rfl rfl rfl rfl (by assumption)) ?_) | (refine AL.rp rfl rfl (rp_index_own Tryz.underlying22 inf42 rfl rfl rfl rfl (by first | assumption | omega)) ?_) | (refine AL.rp rfl rfl (rd_index_sl Tryz.underlying22 inf42 rfl rfl rfl rfl (by assumption)) ?_) | (refine AL.rp rfl rfl (rp_index_own Tryz.underlying22 inf42 rfl rfl rfl (by omega) (by omega)) ?_))
      (first | (refine AL.rp rfl rfl (rp_field_ref Tryz.underlying42 rfl rfl rfl inf3 (by decide) rfl) ?_) | (refine AL.rp rfl rfl (rp_field_ad Tryz.underlying42 rfl rfl rfl inf3 (by decide) rfl) ?_))
      (first | (refine AL.rd rfl rfl (rd_load_ref Tryz.underlying3 rfl rfl rfl rfl rfl rfl) ?_) | (refine AL.rd rfl rfl (rd_load_ad Tryz.underlying3 rfl rfl rfl rfl) ?_) | (refine AL.rd rfl rfl (rd_load_map Tryz.underlying3 rfl rfl rfl rfl rfl rfl (by assumption)) ?_))
      refine AL.call (post := ?pc6) rfl (sm_call (args := [_]) ?hc6 ⟨Tryz.func28, rfl, rfl, rfl, rfl⟩ rfl rfl rfl rfl) ?_
      case hc6 => first | (refine Fn.decT (am_IsWeight _) ?_; omega) | (refine Fn.decF (am_IsWeight _) ?_; omega) | exact am_IsWeight _
      rintro _ rfl -
      try dsimp only
      refine AL.rp rfl rfl (rp_not rfl rfl) ?_
      refine AL.nil ?_
      try simp only [thenS, S.put, S.newObj, setL, V.cs, List.length_cons, List.length_nil, List.take_succ_cons, List.take_zero, List.drop_succ_cons, List.drop_zero, List.drop_nil, List.nil_append, List.cons_append, List.append_nil, Nat.zero_add, Nat.reduceAdd, List.map_cons, List.map_nil, List.set_cons_zero, List.set_cons_succ]
      refine AW.condF rfl ?_
      refine AW.skip ?_
      try simp only [thenS]
      refine AW.seq ?_
      refine AW.region ?_
      (first | (refine AL.rp rfl rfl (rp_field_ref Tryz.underlying24 rfl rfl rfl inf22 (by decide) rfl) ?_) | (refine AL.rp rfl rfl (rp_field_ad Tryz.underlying24 rfl rfl rfl inf22 (by decide) rfl) ?_))
      (first | (refine AL.rd rfl rfl (rd_load_ref Tryz.underlying22 rfl rfl rfl rfl rfl rfl) ?_) | (refine AL.rd rfl rfl (rd_load_ad Tryz.underlying22 rfl rfl rfl rfl) ?_) | (refine AL.rd rfl rfl (rd_load_map Tryz.underlying22 rfl rfl rfl rfl rfl rfl (by assumption)) ?_))
      refine AL.rp rfl rfl (rp_move rfl rfl) ?_
      (first | (refine AL.rp rfl rfl (rp_index_map Tryz.underlying22 inf42 rfl rfl rfl rfl (by assumption)) ?_) | (refine AL.rp rfl rfl (rp_index_own Tryz.underlying22 inf42 rfl rfl rfl rfl (by first | assumption | omega)) ?_) | (refine AL.rp rfl rfl (rd_index_sl Tryz.underlying22 inf42 rfl rfl rfl rfl (by assumption)) ?_) | (refine AL.rp rfl rfl (rp_index_own Tryz.underlying22 inf42 rfl rfl rfl (by omega) (by omega)) ?_))
      (first | (refine AL.rp rfl rfl (rp_field_ref Tryz.underlying42 rfl rfl rfl inf40 (by decide) rfl) ?_) | (refine AL.rp rfl rfl (rp_field_ad Tryz.underlying42 rfl rfl rfl inf40 (by decide) rfl) ?_))
      (first | (refine AL.rd rfl rfl (rd_load_ref Tryz.underlying40 rfl rfl rfl rfl rfl rfl) ?_) | (refine AL.rd rfl rfl (rd_load_ad Tryz.underlying40 rfl rfl rfl rfl) ?_) | (refine AL.rd rfl rfl (rd_load_map Tryz.underlying40 rfl rfl rfl rfl rfl rfl (by assumption)) ?_))
      refine AL.rp rfl rfl (rp_assign rfl rfl) ?_
      refine AL.nil ?_
      try simp only [thenS, S.put]
      refine AW.seq ?_
      refine AW.region ?_
      refine AL.rp rfl rfl (rp_assign rfl rfl) ?_
      refine AL.nil ?_
      try simp only [thenS, S.put]
      refine AW.block ?_
      refine AW.loop (fun s' => ∃ j : Nat, j ≤ la ∧ (x.arcs.take j).all (arOk len) = true ∧ s' = ⟨77, [(1, .ref 1 0), (3, .i len), (4, .i k), (5, .d (arsD x.arcs)), (6, .i j)], [(1, ⟨24, [.i st, .d (stsD sts)], false, 0⟩)], []⟩) (fun s' => la - s'.nat 6) ⟨_, ?_, 0, by omega, by simp, rfl⟩ ?_
      ·exact (Less.of rfl (by repeat (first | exact trivial | refine ⟨⟨_, rfl, Wk.refl _⟩, ?_⟩ | refine ⟨⟨_, rfl, Wk.nil _ _⟩, ?_⟩ | refine ⟨⟨_, rfl, Wk.junk _⟩, ?_⟩)) (by repeat (first | exact trivial | refine ⟨rfl, ?_⟩)) rfl)
      rintro s' ⟨j, hj, hall2, rfl⟩
      by_cases hlj : j < la
      ·obtain ⟨y, hy⟩ := get_lt hla hlj
       by_cases hok : (0 ≤ y.i ∧ y.i ≤ 1000) ∧ (0 ≤ y.o ∧ y.o ≤ 1000) ∧ (0 ≤ y.w ∧ y.w ≤ 1000000000) ∧ 0 ≤ y.t ∧ y.t ≤ (len : Int) - 1
       ·obtain ⟨h1, h2, h3, h4⟩ := hok
        refine AW.seq ?_
        refine AW.seq ?_
        refine AW.region ?_
        refine AL.rp rfl rfl (rp_move rfl rfl) ?_
        refine AL.rp rfl rfl (rp_move rfl rfl) ?_
        (first | (refine AL.rp rfl rfl (rp_len_map Tryz.underlying40 rfl rfl (by assumption)) ?_) | (refine AL.rp rfl rfl (rp_len_own Tryz.underlying40 rfl rfl) ?_) | (refine AL.rp rfl rfl (rp_len_sl Tryz.underlying40 rfl rfl) ?_) | (refine AL.rp rfl rfl (rp_len_nil Tryz.underlying40 rfl rfl) ?_) | (refine AL.rp rfl rfl (rp_len_str Tryz.underlying40 rfl rfl) ?_))
        (first | (refine AL.rp rfl rfl (rp_lssT rfl rfl rfl (by first | assumption | omega | (dsimp only; omega))) ?_) | (refine AL.rp rfl rfl (rp_lssF rfl rfl rfl (by first | assumption | omega | (dsimp only; omega))) ?_) | (refine AL.rp rfl rfl (rp_lss rfl rfl rfl) ?_))
        refine AL.nil ?_
        try simp only [thenS, S.put]
        refine AW.condT rfl ?_
        refine AW.skip ?_
        try simp only [thenS]
        refine AW.seq ?_
        refine AW.block ?_
        refine AW.seq ?_
        refine AW.region ?_
        refine AL.rp rfl rfl (rp_move rfl rfl) ?_
        refine AL.rp rfl rfl (rp_move rfl rfl) ?_
        (first | (refine AL.rp rfl rfl (rp_index_map Tryz.underlying40 inf44 rfl rfl rfl rfl (by assumption)) ?_) | (refine AL.rp rfl rfl (rp_index_own Tryz.underlying40 inf44 rfl rfl rfl rfl (by first | assumption | omega)) ?_) | (refine AL.rp rfl rfl (rd_index_sl Tryz.underlying40 inf44 rfl rfl rfl rfl (by assumption)) ?_) | (refine AL.rp rfl rfl (rp_index_own Tryz.underlying40 inf44 rfl rfl rfl (by omega) (by omega)) ?_))
        (first | (refine AL.rd rfl rfl (rd_loads_ref Tryz.underlying44 rfl inf44 rfl rfl rfl rfl rfl rfl) ?_) | (refine AL.rd rfl rfl (rd_loads_ad Tryz.underlying44 rfl inf44 rfl rfl rfl rfl) ?_))
        refine AL.sm rfl (sm_alloc (l := [.d (.p (.int .i64 0)), .d (.p (.int .i64 0)), .d (.p (.int .i64 0)), .d (.p (.int .i64 0))]) 7 inf44 rfl (by first | rfl | simp [S.clean, S.put, S.newObj, S.forget, V.has, V.hasL, junkIf, setL, V.cs, hasL_i, hasL_d, hasL_b, hasL_s, hasL_n, hasL_rep, hasL_flat, hasL_append, -List.map_set]) rfl rfl) ?_
        refine AL.st rfl (st_store_any inf44 rfl rfl rfl rfl rfl rfl rfl rfl (by first | decide | (simp; done) | (simp; omega)) rfl) ?_
        refine AL.nil ?_
        try simp only [thenS, S.put, S.newObj, setL, V.cs, List.length_cons, List.length_nil, List.take_succ_cons, List.take_zero, List.drop_succ_cons, List.drop_zero, List.drop_nil, List.nil_append, List.cons_append, List.append_nil, Nat.zero_add, Nat.reduceAdd, List.map_cons, List.map_nil, List.set_cons_zero, List.set_cons_succ]
        refine AW.seq ?_
        refine AW.region ?_
        (first | (refine AL.rp rfl rfl (rp_field_ref Tryz.underlying44 rfl rfl rfl inf3 (by decide) rfl) ?_) | (refine AL.rp rfl rfl (rp_field_ad Tryz.underlying44 rfl rfl rfl inf3 (by decide) rfl) ?_))
        (first | (refine AL.rd rfl rfl (rd_load_ref Tryz.underlying3 rfl rfl rfl rfl rfl rfl) ?_) | (refine AL.rd rfl rfl (rd_load_ad Tryz.underlying3 rfl rfl rfl rfl) ?_) | (refine AL.rd rfl rfl (rd_load_map Tryz.underlying3 rfl rfl rfl rfl rfl rfl (by assumption)) ?_))
        refine AL.call (post := ?pc7) rfl (sm_call (args := [_, _, _]) ?hc7 ⟨Tryz.func27, rfl, rfl, rfl, rfl⟩ rfl rfl rfl rfl) ?_
        case hc7 => first | (refine Fn.decT (am_In _ _ _) ?_; omega) | (refine Fn.decF (am_In _ _ _) ?_; omega) | exact am_In _ _ _
        rintro _ rfl -
        try dsimp only
        refine AL.rp rfl rfl (rp_not rfl rfl) ?_
        refine AL.rp rfl rfl (rp_move rfl rfl) ?_
        (first | (refine AL.no rfl rfl rfl rfl ?_) | (refine AL.rpy rfl rfl rfl (rp_field_ref Tryz.underlying44 rfl rfl rfl inf3 (by decide) rfl) ?_) | (refine AL.rpy rfl rfl rfl (rp_field_ad Tryz.underlying44 rfl rfl rfl inf3 (by decide) rfl) ?_))
        (first | (refine AL.no rfl rfl rfl rfl ?_) | (refine AL.rdy rfl rfl rfl (rd_load_ref Tryz.underlying3 rfl rfl rfl rfl rfl rfl) ?_) | (refine AL.rdy rfl rfl rfl (rd_load_ad Tryz.underlying3 rfl rfl rfl rfl) ?_) | (refine AL.rdy rfl rfl rfl (rd_load_map Tryz.underlying3 rfl rfl rfl rfl rfl rfl (by assumption)) ?_))
        (first | (refine AL.no rfl rfl rfl rfl ?_) | (refine AL.cally (post := ?pc8) rfl rfl (sm_call (args := [_, _, _]) ?hc8 ⟨Tryz.func27, rfl, rfl, rfl, rfl⟩ rfl rfl rfl rfl) ?_; (case hc8 => (first | (refine Fn.decT (am_In _ _ _) ?_; omega) | (refine Fn.decF (am_In _ _ _) ?_; omega) | exact am_In _ _ _)); rintro _ rfl -; try dsimp only))
        (first | (refine AL.no rfl rfl rfl rfl ?_) | (refine AL.rpy rfl rfl rfl (rp_not rfl rfl) ?_))
        refine AL.rp rfl rfl (rp_pick rfl rfl rfl) ?_
        refine AL.rp rfl rfl (rp_move rfl rfl) ?_
        (first | (refine AL.no rfl rfl rfl rfl ?_) | (refine AL.rpy rfl rfl rfl (rp_field_ref Tryz.underlying44 rfl rfl rfl inf3 (by decide) rfl) ?_) | (refine AL.rpy rfl rfl rfl (rp_field_ad Tryz.underlying44 rfl rfl rfl inf3 (by decide) rfl) ?_))
        (first | (refine AL.no rfl rfl rfl rfl ?_) | (refine AL.rdy rfl rfl rfl (rd_load_ref Tryz.underlying3 rfl rfl rfl rfl rfl rfl) ?_) | (refine AL.rdy rfl rfl rfl (rd_load_ad Tryz.underlying3 rfl rfl rfl rfl) ?_) | (refine AL.rdy rfl rfl rfl (rd_load_map Tryz.underlying3 rfl rfl rfl rfl rfl rfl (by assumption)) ?_))
        (first | (refine AL.no rfl rfl rfl rfl ?_) | (refine AL.cally (post := ?pc9) rfl rfl (sm_call (args := [_, _, _]) ?hc9 ⟨Tryz.func27, rfl, rfl, rfl, rfl⟩ rfl rfl rfl rfl) ?_; (case hc9 => (first | (refine Fn.decT (am_In _ _ _) ?_; omega) | (refine Fn.decF (am_In _ _ _) ?_; omega) | exact am_In _ _ _)); rintro _ rfl -; try dsimp only))
        (first | (refine AL.no rfl rfl rfl rfl ?_) | (refine AL.rpy rfl rfl rfl (rp_not rfl rfl) ?_))
        refine AL.rp rfl rfl (rp_pick rfl rfl rfl) ?_
        refine AL.rp rfl rfl (rp_move rfl rfl) ?_
        (first | (refine AL.no rfl rfl rfl rfl ?_) | (refine AL.rpy rfl rfl rfl (rp_field_ref Tryz.underlying44 rfl rfl rfl inf3 (by decide) rfl) ?_) | (refine AL.rpy rfl rfl rfl (rp_field_ad Tryz.underlying44 rfl rfl rfl inf3 (by decide) rfl) ?_))
        (first | (refine AL.no rfl rfl rfl rfl ?_) | (refine AL.rdy rfl rfl rfl (rd_load_ref Tryz.underlying3 rfl rfl rfl rfl rfl rfl) ?_) | (refine AL.rdy rfl rfl rfl (rd_load_ad Tryz.underlying3 rfl rfl rfl rfl) ?_) | (refine AL.rdy rfl rfl rfl (rd_load_map Tryz.underlying3 rfl rfl rfl rfl rfl rfl (by assumption)) ?_))
        (first | (refine AL.no rfl rfl rfl rfl ?_) | (refine AL.rpy rfl rfl rfl (rp_move rfl rfl) ?_))
        (first | (refine AL.no rfl rfl rfl rfl ?_) | (refine AL.rpy rfl rfl rfl (rp_sub rfl rfl rfl (by first | omega | (dsimp only; omega))) ?_))
        (first | (refine AL.no rfl rfl rfl rfl ?_) | (refine AL.cally (post := ?pc10) rfl rfl (sm_call (args := [_, _, _]) ?hc10 ⟨Tryz.func27, rfl, rfl, rfl, rfl⟩ rfl rfl rfl rfl) ?_; (case hc10 => (first | (refine Fn.decT (am_In _ _ _) ?_; omega) | (refine Fn.decF (am_In _ _ _) ?_; omega) | exact am_In _ _ _)); rintro _ rfl -; try dsimp only))
        (first | (refine AL.no rfl rfl rfl rfl ?_) | (refine AL.rpy rfl rfl rfl (rp_not rfl rfl) ?_))
        refine AL.rp rfl rfl (rp_pick rfl rfl rfl) ?_
        refine AL.nil ?_
        try simp only [thenS, S.put, S.newObj, setL, V.cs, List.length_cons, List.length_nil, List.take_succ_cons, List.take_zero, List.drop_succ_cons, List.drop_zero, List.drop_nil, List.nil_append, List.cons_append, List.append_nil, Nat.zero_add, Nat.reduceAdd, List.map_cons, List.map_nil, List.set_cons_zero, List.set_cons_succ]
        refine AW.condF rfl ?_
        refine AW.skip ?_
        try simp only [thenS]
        refine AW.region ?_
        refine AL.rp rfl rfl (rp_move rfl rfl) ?_
        refine AL.rp rfl rfl (rp_add rfl rfl rfl (by first | omega | (dsimp only; omega))) ?_
        refine AL.rp rfl rfl (rp_assign rfl rfl) ?_
        refine AL.nil ?_
        try simp only [thenS, S.put]
        refine ⟨_, ?_, ⟨j + 1, by omega, all_snoc' hy hall2 (arOk_yes (by omega)), rfl⟩, ?_⟩
        ·exact (Less.of rfl (by repeat (first | exact trivial | refine ⟨⟨_, rfl, Wk.refl _⟩, ?_⟩ | refine ⟨⟨_, rfl, Wk.nil _ _⟩, ?_⟩ | refine ⟨⟨_, rfl, Wk.junk _⟩, ?_⟩)) (by repeat (first | exact trivial | refine ⟨rfl, ?_⟩)) rfl)
        ·simp [S.nat, fnd]; omega
       ·have hE : machE ⟨st, sts⟩ = 2 := machE_state hl h60 h400 hx (stOk_arc hy (arOk_no (by omega)))
        rw [hE]
        by_cases h1 : 0 ≤ y.i ∧ y.i ≤ 1000
        ·by_cases h2 : 0 ≤ y.o ∧ y.o ≤ 1000
         ·by_cases h3 : 0 ≤ y.w ∧ y.w ≤ 1000000000
          ·have h4 : ¬ (0 ≤ y.t ∧ y.t ≤ (len : Int) - 1) := fun h4 => hok ⟨h1, h2, h3, h4⟩
           clear hok
           refine AW.seq ?_
           refine AW.seq ?_
           refine AW.region ?_
           refine AL.rp rfl rfl (rp_move rfl rfl) ?_
           refine AL.rp rfl rfl (rp_move rfl rfl) ?_
           (first | (refine AL.rp rfl rfl (rp_len_map Tryz.underlying40 rfl rfl (by assumption)) ?_) | (refine AL.rp rfl rfl (rp_len_own Tryz.underlying40 rfl rfl) ?_) | (refine AL.rp rfl rfl (rp_len_sl Tryz.underlying40 rfl rfl) ?_) | (refine AL.rp rfl rfl (rp_len_nil Tryz.underlying40 rfl rfl) ?_) | (refine AL.rp rfl rfl (rp_len_str Tryz.underlying40 rfl rfl) ?_))
           (first | (refine AL.rp rfl rfl (rp_lssT rfl rfl rfl (by first | assumption | omega | (dsimp only; omega))) ?_) | (refine AL.rp rfl rfl (rp_lssF rfl rfl rfl (by first | assumption | omega | (dsimp only; omega))) ?_) | (refine AL.rp rfl rfl (rp_lss rfl rfl rfl) ?_))
           refine AL.nil ?_
           try simp only [thenS, S.put]
           refine AW.condT rfl ?_
           refine AW.skip ?_
           try simp only [thenS]
           refine AW.seq ?_
           refine AW.block ?_
           refine AW.seq ?_
           refine AW.region ?_
           refine AL.rp rfl rfl (rp_move rfl rfl) ?_
           refine AL.rp rfl rfl (rp_move rfl rfl) ?_
           (first | (refine AL.rp rfl rfl (rp_index_map Tryz.underlying40 inf44 rfl rfl rfl rfl (by assumption)) ?_) | (refine AL.rp rfl rfl (rp_index_own Tryz.underlying40 inf44 rfl rfl rfl rfl (by first | assumption | omega)) ?_) | (refine AL.rp rfl rfl (rd_index_sl Tryz.underlying40 inf44 rfl rfl rfl rfl (by assumption)) ?_) | (refine AL.rp rfl rfl (rp_index_own Tryz.underlying40 inf44 rfl rfl rfl (by omega) (by omega)) ?_))
           (first | (refine AL.rd rfl rfl (rd_loads_ref Tryz.underlying44 rfl inf44 rfl rfl rfl rfl rfl rfl) ?_) | (refine AL.rd rfl rfl (rd_loads_ad Tryz.underlying44 rfl inf44 rfl rfl rfl rfl) ?_))
           refine AL.sm rfl (sm_alloc (l := [.d (.p (.int .i64 0)), .d (.p (.int .i64 0)), .d (.p (.int .i64 0)), .d (.p (.int .i64 0))]) 7 inf44 rfl (by first | rfl | simp [S.clean, S.put, S.newObj, S.forget, V.has, V.hasL, junkIf, setL, V.cs, hasL_i, hasL_d, hasL_b, hasL_s, hasL_n, hasL_rep, hasL_flat, hasL_append, -List.map_set]) rfl rfl) ?_
           refine AL.st rfl (st_store_any inf44 rfl rfl rfl rfl rfl rfl rfl rfl (by first | decide | (simp; done) | (simp; omega)) rfl) ?_
           refine AL.nil ?_
           try simp only [thenS, S.put, S.newObj, setL, V.cs, List.length_cons, List.length_nil, List.take_succ_cons, List.take_zero, List.drop_succ_cons, List.drop_zero, List.drop_nil, List.nil_append, List.cons_append, List.append_nil, Nat.zero_add, Nat.reduceAdd, List.map_cons, List.map_nil, List.set_cons_zero, List.set_cons_succ]
           refine AW.seq ?_
           refine AW.region ?_
           (first | (refine AL.rp rfl rfl (rp_field_ref Tryz.underlying44 rfl rfl rfl inf3 (by decide) rfl) ?_) | (refine AL.rp rfl rfl (rp_field_ad Tryz.underlying44 rfl rfl rfl inf3 (by decide) rfl) ?_))
           (first | (refine AL.rd rfl rfl (rd_load_ref Tryz.underlying3 rfl rfl rfl rfl rfl rfl) ?_) | (refine AL.rd rfl rfl (rd_load_ad Tryz.underlying3 rfl rfl rfl rfl) ?_) | (refine AL.rd rfl rfl (rd_load_map Tryz.underlying3 rfl rfl rfl rfl rfl rfl (by assumption)) ?_))
           refine AL.call (post := ?pc11) rfl (sm_call (args := [_, _, _]) ?hc11 ⟨Tryz.func27, rfl, rfl, rfl, rfl⟩ rfl rfl rfl rfl) ?_
           case hc11 => first | (refine Fn.decT (am_In _ _ _) ?_; omega) | (refine Fn.decF (am_In _ _ _) ?_; omega) | exact am_In _ _ _
           rintro _ rfl -
           try dsimp only
           refine AL.rp rfl rfl (rp_not rfl rfl) ?_
           refine AL.rp rfl rfl (rp_move rfl rfl) ?_
           (first | (refine AL.no rfl rfl rfl rfl ?_) | (refine AL.rpy rfl rfl rfl (rp_field_ref Tryz.underlying44 rfl rfl rfl inf3 (by decide) rfl) ?_) | (refine AL.rpy rfl rfl rfl (rp_field_ad Tryz.underlying44 rfl rfl rfl inf3 (by decide) rfl) ?_))
           (first | (refine AL.no rfl rfl rfl rfl ?_) | (refine AL.rdy rfl rfl rfl (rd_load_ref Tryz.underlying3 rfl rfl rfl rfl rfl rfl) ?_) | (refine AL.rdy rfl rfl rfl (rd_load_ad Tryz.underlying3 rfl rfl rfl rfl) ?_) | (refine AL.rdy rfl rfl rfl (rd_load_map Tryz.underlying3 rfl rfl rfl rfl rfl rfl (by assumption)) ?_))
           (first | (refine AL.no rfl rfl rfl rfl ?_) | (refine AL.cally (post := ?pc12) rfl rfl (sm_call (args := [_, _, _]) ?hc12 ⟨Tryz.func27, rfl, rfl, rfl, rfl⟩ rfl rfl rfl rfl) ?_; (case hc12 => (first | (refine Fn.decT (am_In _ _ _) ?_; omega) | (refine Fn.decF (am_In _ _ _) ?_; omega) | exact am_In _ _ _)); rintro _ rfl -; try dsimp only))
           (first | (refine AL.no rfl rfl rfl rfl ?_) | (refine AL.rpy rfl rfl rfl (rp_not rfl rfl) ?_))
           refine AL.rp rfl rfl (rp_pick rfl rfl rfl) ?_
           refine AL.rp rfl rfl (rp_move rfl rfl) ?_
           (first | (refine AL.no rfl rfl rfl rfl ?_) | (refine AL.rpy rfl rfl rfl (rp_field_ref Tryz.underlying44 rfl rfl rfl inf3 (by decide) rfl) ?_) | (refine AL.rpy rfl rfl rfl (rp_field_ad Tryz.underlying44 rfl rfl rfl inf3 (by decide) rfl) ?_))
           (first | (refine AL.no rfl rfl rfl rfl ?_) | (refine AL.rdy rfl rfl rfl (rd_load_ref Tryz.underlying3 rfl rfl rfl rfl rfl rfl) ?_) | (refine AL.rdy rfl rfl rfl (rd_load_ad Tryz.underlying3 rfl rfl rfl rfl) ?_) | (refine AL.rdy rfl rfl rfl (rd_load_map Tryz.underlying3 rfl rfl rfl rfl rfl rfl (by assumption)) ?_))
           (first | (refine AL.no rfl rfl rfl rfl ?_) | (refine AL.cally (post := ?pc13) rfl rfl (sm_call (args := [_, _, _]) ?hc13 ⟨Tryz.func27, rfl, rfl, rfl, rfl⟩ rfl rfl rfl rfl) ?_; (case hc13 => (first | (refine Fn.decT (am_In _ _ _) ?_; omega) | (refine Fn.decF (am_In _ _ _) ?_; omega) | exact am_In _ _ _)); rintro _ rfl -; try dsimp only))
           (first | (refine AL.no rfl rfl rfl rfl ?_) | (refine AL.rpy rfl rfl rfl (rp_not rfl rfl) ?_))
           refine AL.rp rfl rfl (rp_pick rfl rfl rfl) ?_
           refine AL.rp rfl rfl (rp_move rfl rfl) ?_
           (first | (refine AL.no rfl rfl rfl rfl ?_) | (refine AL.rpy rfl rfl rfl (rp_field_ref Tryz.underlying44 rfl rfl rfl inf3 (by decide) rfl) ?_) | (refine AL.rpy rfl rfl rfl (rp_field_ad Tryz.underlying44 rfl rfl rfl inf3 (by decide) rfl) ?_))
           (first | (refine AL.no rfl rfl rfl rfl ?_) | (refine AL.rdy rfl rfl rfl (rd_load_ref Tryz.underlying3 rfl rfl rfl rfl rfl rfl) ?_) | (refine AL.rdy rfl rfl rfl (rd_load_ad Tryz.underlying3 rfl rfl rfl rfl) ?_) | (refine AL.rdy rfl rfl rfl (rd_load_map Tryz.underlying3 rfl rfl rfl rfl rfl rfl (by assumption)) ?_))
           (first | (refine AL.no rfl rfl rfl rfl ?_) | (refine AL.rpy rfl rfl rfl (rp_move rfl rfl) ?_))
           (first | (refine AL.no rfl rfl rfl rfl ?_) | (refine AL.rpy rfl rfl rfl (rp_sub rfl rfl rfl (by first | omega | (dsimp only; omega))) ?_))
           (first | (refine AL.no rfl rfl rfl rfl ?_) | (refine AL.cally (post := ?pc14) rfl rfl (sm_call (args := [_, _, _]) ?hc14 ⟨Tryz.func27, rfl, rfl, rfl, rfl⟩ rfl rfl rfl rfl) ?_; (case hc14 => (first | (refine Fn.decT (am_In _ _ _) ?_; omega) | (refine Fn.decF (am_In _ _ _) ?_; omega) | exact am_In _ _ _)); rintro _ rfl -; try dsimp only))
           (first | (refine AL.no rfl rfl rfl rfl ?_) | (refine AL.rpy rfl rfl rfl (rp_not rfl rfl) ?_))
           refine AL.rp rfl rfl (rp_pick rfl rfl rfl) ?_
           refine AL.nil ?_
           try simp only [thenS, S.put, S.newObj, setL, V.cs, List.length_cons, List.length_nil, List.take_succ_cons, List.take_zero, List.drop_succ_cons, List.drop_zero, List.drop_nil, List.nil_append, List.cons_append, List.append_nil, Nat.zero_add, Nat.reduceAdd, List.map_cons, List.map_nil, List.set_cons_zero, List.set_cons_succ]
           refine AW.condT rfl ?_
           refine AW.seq ?_
           refine AW.region ?_
           refine AL.rp rfl rfl (rp_assign rfl rfl) ?_
           refine AL.nil ?_
           try simp only [thenS, S.put]
           refine AW.ret ?_
           exact ⟨[_], ⟨rfl, trivial⟩, rfl, by simp [tupOf, V.pure, V.has]⟩
          ·clear hok
           refine AW.seq ?_
           refine AW.seq ?_
           refine AW.region ?_
           refine AL.rp rfl rfl (rp_move rfl rfl) ?_
           refine AL.rp rfl rfl (rp_move rfl rfl) ?_
           (first | (refine AL.rp rfl rfl (rp_len_map Tryz.underlying40 rfl rfl (by assumption)) ?_) | (refine AL.rp rfl rfl (rp_len_own Tryz.underlying40 rfl rfl) ?_) | (refine AL.rp rfl rfl (rp_len_sl Tryz.underlying40 rfl rfl) ?_) | (refine AL.rp rfl rfl (rp_len_nil Tryz.underlying40 rfl rfl) ?_) | (refine AL.rp rfl rfl (rp_len_str Tryz.underlying40 rfl rfl) ?_))
           (first | (refine AL.rp rfl rfl (rp_lssT rfl rfl rfl (by first | assumption | omega | (dsimp only; omega))) ?_) | (refine AL.rp rfl rfl (rp_lssF rfl rfl rfl (by first | assumption | omega | (dsimp only; omega))) ?_) | (refine AL.rp rfl rfl (rp_lss rfl rfl rfl) ?_))
           refine AL.nil ?_
           try simp only [thenS, S.put]
           refine AW.condT rfl ?_
           refine AW.skip ?_
           try simp only [thenS]
           refine AW.seq ?_
           refine AW.block ?_
           refine AW.seq ?_
           refine AW.region ?_
           refine AL.rp rfl rfl (rp_move rfl rfl) ?_
           refine AL.rp rfl rfl (rp_move rfl rfl) ?_
           (first | (refine AL.rp rfl rfl (rp_index_map Tryz.underlying40 inf44 rfl rfl rfl rfl (by assumption)) ?_) | (refine AL.rp rfl rfl (rp_index_own Tryz.underlying40 inf44 rfl rfl rfl rfl (by first | assumption | omega)) ?_) | (refine AL.rp rfl rfl (rd_index_sl Tryz.underlying40 inf44 rfl rfl rfl rfl (by assumption)) ?_) | (refine AL.rp rfl rfl (rp_index_own Tryz.underlying40 inf44 rfl rfl rfl (by omega) (by omega)) ?_))
           (first | (refine AL.rd rfl rfl (rd_loads_ref Tryz.underlying44 rfl inf44 rfl rfl rfl rfl rfl rfl) ?_) | (refine AL.rd rfl rfl (rd_loads_ad Tryz.underlying44 rfl inf44 rfl rfl rfl rfl) ?_))
           refine AL.sm rfl (sm_alloc (l := [.d (.p (.int .i64 0)), .d (.p (.int .i64 0)), .d (.p (.int .i64 0)), .d (.p (.int .i64 0))]) 7 inf44 rfl (by first | rfl | simp [S.clean, S.put, S.newObj, S.forget, V.has, V.hasL, junkIf, setL, V.cs, hasL_i, hasL_d, hasL_b, hasL_s, hasL_n, hasL_rep, hasL_flat, hasL_append, -List.map_set]) rfl rfl) ?_
           refine AL.st rfl (st_store_any inf44 rfl rfl rfl rfl rfl rfl rfl rfl (by first | decide | (simp; done) | (simp; omega)) rfl) ?_
           refine AL.nil ?_
           try simp only [thenS, S.put, S.newObj, setL, V.cs, List.length_cons, List.length_nil, List.take_succ_cons, List.take_zero, List.drop_succ_cons, List.drop_zero, List.drop_nil, List.nil_append, List.cons_append, List.append_nil, Nat.zero_add, Nat.reduceAdd, List.map_cons, List.map_nil, List.set_cons_zero, List.set_cons_succ]
           refine AW.seq ?_
           refine AW.region ?_
           (first | (refine AL.rp rfl rfl (rp_field_ref Tryz.underlying44 rfl rfl rfl inf3 (by decide) rfl) ?_) | (refine AL.rp rfl rfl (rp_field_ad Tryz.underlying44 rfl rfl rfl inf3 (by decide) rfl) ?_))
           (first | (refine AL.rd rfl rfl (rd_load_ref Tryz.underlying3 rfl rfl rfl rfl rfl rfl) ?_) | (refine AL.rd rfl rfl (rd_load_ad Tryz.underlying3 rfl rfl rfl rfl) ?_) | (refine AL.rd rfl rfl (rd_load_map Tryz.underlying3 rfl rfl rfl rfl rfl rfl (by assumption)) ?_))
           refine AL.call (post := ?pc15) rfl (sm_call (args := [_, _, _]) ?hc15 ⟨Tryz.func27, rfl, rfl, rfl, rfl⟩ rfl rfl rfl rfl) ?_
           case hc15 => first | (refine Fn.decT (am_In _ _ _) ?_; omega) | (refine Fn.decF (am_In _ _ _) ?_; omega) | exact am_In _ _ _
           rintro _ rfl -
           try dsimp only
           refine AL.rp rfl rfl (rp_not rfl rfl) ?_
           refine AL.rp rfl rfl (rp_move rfl rfl) ?_
           (first | (refine AL.no rfl rfl rfl rfl ?_) | (refine AL.rpy rfl rfl rfl (rp_field_ref Tryz.underlying44 rfl rfl rfl inf3 (by decide) rfl) ?_) | (refine AL.rpy rfl rfl rfl (rp_field_ad Tryz.underlying44 rfl rfl rfl inf3 (by decide) rfl) ?_))
           (first | (refine AL.no rfl rfl rfl rfl ?_) | (refine AL.rdy rfl rfl rfl (rd_load_ref Tryz.underlying3 rfl rfl rfl rfl rfl rfl) ?_) | (refine AL.rdy rfl rfl rfl (rd_load_ad Tryz.underlying3 rfl rfl rfl rfl) ?_) | (refine AL.rdy rfl rfl rfl (rd_load_map Tryz.underlying3 rfl rfl rfl rfl rfl rfl (by assumption)) ?_))
           (first | (refine AL.no rfl rfl rfl rfl ?_) | (refine AL.cally (post := ?pc16) rfl rfl (sm_call (args := [_, _, _]) ?hc16 ⟨Tryz.func27, rfl, rfl, rfl, rfl⟩ rfl rfl rfl rfl) ?_; (case hc16 => (first | (refine Fn.decT (am_In _ _ _) ?_; omega) | (refine Fn.decF (am_In _ _ _) ?_; omega) | exact am_In _ _ _)); rintro _ rfl -; try dsimp only))
           (first | (refine AL.no rfl rfl rfl rfl ?_) | (refine AL.rpy rfl rfl rfl (rp_not rfl rfl) ?_))
           refine AL.rp rfl rfl (rp_pick rfl rfl rfl) ?_
           refine AL.rp rfl rfl (rp_move rfl rfl) ?_
           (first | (refine AL.no rfl rfl rfl rfl ?_) | (refine AL.rpy rfl rfl rfl (rp_field_ref Tryz.underlying44 rfl rfl rfl inf3 (by decide) rfl) ?_) | (refine AL.rpy rfl rfl rfl (rp_field_ad Tryz.underlying44 rfl rfl rfl inf3 (by decide) rfl) ?_))
           (first | (refine AL.no rfl rfl rfl rfl ?_) | (refine AL.rdy rfl rfl rfl (rd_load_ref Tryz.underlying3 rfl rfl rfl rfl rfl rfl) ?_) | (refine AL.rdy rfl rfl rfl (rd_load_ad Tryz.underlying3 rfl rfl rfl rfl) ?_) | (refine AL.rdy rfl rfl rfl (rd_load_map Tryz.underlying3 rfl rfl rfl rfl rfl rfl (by assumption)) ?_))
           (first | (refine AL.no rfl rfl rfl rfl ?_) | (refine AL.cally (post := ?pc17) rfl rfl (sm_call (args := [_, _, _]) ?hc17 ⟨Tryz.func27, rfl, rfl, rfl, rfl⟩ rfl rfl rfl rfl) ?_; (case hc17 => (first | (refine Fn.decT (am_In _ _ _) ?_; omega) | (refine Fn.decF (am_In _ _ _) ?_; omega) | exact am_In _ _ _)); rintro _ rfl -; try dsimp only))
           (first | (refine AL.no rfl rfl rfl rfl ?_) | (refine AL.rpy rfl rfl rfl (rp_not rfl rfl) ?_))
           refine AL.rp rfl rfl (rp_pick rfl rfl rfl) ?_
           refine AL.rp rfl rfl (rp_move rfl rfl) ?_
           (first | (refine AL.no rfl rfl rfl rfl ?_) | (refine AL.rpy rfl rfl rfl (rp_field_ref Tryz.underlying44 rfl rfl rfl inf3 (by decide) rfl) ?_) | (refine AL.rpy rfl rfl rfl (rp_field_ad Tryz.underlying44 rfl rfl rfl inf3 (by decide) rfl) ?_))
           (first | (refine AL.no rfl rfl rfl rfl ?_) | (refine AL.rdy rfl rfl rfl (rd_load_ref Tryz.underlying3 rfl rfl rfl rfl rfl rfl) ?_) | (refine AL.rdy rfl rfl rfl (rd_load_ad Tryz.underlying3 rfl rfl rfl rfl) ?_) | (refine AL.rdy rfl rfl rfl (rd_load_map Tryz.underlying3 rfl rfl rfl rfl rfl rfl (by assumption)) ?_))
           (first | (refine AL.no rfl rfl rfl rfl ?_) | (refine AL.rpy rfl rfl rfl (rp_move rfl rfl) ?_))
           (first | (refine AL.no rfl rfl rfl rfl ?_) | (refine AL.rpy rfl rfl rfl (rp_sub rfl rfl rfl (by first | omega | (dsimp only; omega))) ?_))
           (first | (refine AL.no rfl rfl rfl rfl ?_) | (refine AL.cally (post := ?pc18) rfl rfl (sm_call (args := [_, _, _]) ?hc18 ⟨Tryz.func27, rfl, rfl, rfl, rfl⟩ rfl rfl rfl rfl) ?_; (case hc18 => (first | (refine Fn.decT (am_In _ _ _) ?_; omega) | (refine Fn.decF (am_In _ _ _) ?_; omega) | exact am_In _ _ _)); rintro _ rfl -; try dsimp only))
           (first | (refine AL.no rfl rfl rfl rfl ?_) | (refine AL.rpy rfl rfl rfl (rp_not rfl rfl) ?_))
           refine AL.rp rfl rfl (rp_pick rfl rfl rfl) ?_
           refine AL.nil ?_
           try simp only [thenS, S.put, S.newObj, setL, V.cs, List.length_cons, List.length_nil, List.take_succ_cons, List.take_zero, List.drop_succ_cons, List.drop_zero, List.drop_nil, List.nil_append, List.cons_append, List.append_nil, Nat.zero_add, Nat.reduceAdd, List.map_cons, List.map_nil, List.set_cons_zero, List.set_cons_succ]
           refine AW.condT rfl ?_
           refine AW.seq ?_
           refine AW.region ?_
           refine AL.rp rfl rfl (rp_assign rfl rfl) ?_
           refine AL.nil ?_
           try simp only [thenS, S.put]
           refine AW.ret ?_
           exact ⟨[_], ⟨rfl, trivial⟩, rfl, by simp [tupOf, V.pure, V.has]⟩
         ·clear hok
          refine AW.seq ?_
          refine AW.seq ?_
          refine AW.region ?_
          refine AL.rp rfl rfl (rp_move rfl rfl) ?_
          refine AL.rp rfl rfl (rp_move rfl rfl) ?_
          (first | (refine AL.rp rfl rfl (rp_len_map Tryz.underlying40 rfl rfl (by assumption)) ?_) | (refine AL.rp rfl rfl (rp_len_own Tryz.underlying40 rfl rfl) ?_) | (refine AL.rp rfl rfl (rp_len_sl Tryz.underlying40 rfl rfl) ?_) | (refine AL.rp rfl rfl (rp_len_nil Tryz.underlying40 rfl rfl) ?_) | (refine AL.rp rfl rfl (rp_len_str Tryz.underlying40 rfl rfl) ?_))
          (first | (refine AL.rp rfl rfl (rp_lssT rfl rfl rfl (by first | assumption | omega | (dsimp only; omega))) ?_) | (refine AL.rp rfl rfl (rp_lssF rfl rfl rfl (by first | assumption | omega | (dsimp only; omega))) ?_) | (refine AL.rp rfl rfl (rp_lss rfl rfl rfl) ?_))
          refine AL.nil ?_
          try simp only [thenS, S.put]
          refine AW.condT rfl ?_
          refine AW.skip ?_
          try simp only [thenS]
          refine AW.seq ?_
          refine AW.block ?_
          refine AW.seq ?_
          refine AW.region ?_
          refine AL.rp rfl rfl (rp_move rfl rfl) ?_
          refine AL.rp rfl rfl (rp_move rfl rfl) ?_
          (first | (refine AL.rp rfl rfl (rp_index_map Tryz.underlying40 inf44 rfl rfl rfl rfl (by assumption)) ?_) | (refine AL.rp rfl rfl (rp_index_own Tryz.underlying40 inf44 rfl rfl rfl rfl (by first | assumption | omega)) ?_) | (refine AL.rp rfl rfl (rd_index_sl Tryz.underlying40 inf44 rfl rfl rfl rfl (by assumption)) ?_) | (refine AL.rp rfl rfl (rp_index_own Tryz.underlying40 inf44 rfl rfl rfl (by omega) (by omega)) ?_))
          (first | (refine AL.rd rfl rfl (rd_loads_ref Tryz.underlying44 rfl inf44 rfl rfl rfl rfl rfl rfl) ?_) | (refine AL.rd rfl rfl (rd_loads_ad Tryz.underlying44 rfl inf44 rfl rfl rfl rfl) ?_))
          refine AL.sm rfl (sm_alloc (l := [.d (.p (.int .i64 0)), .d (.p (.int .i64 0)), .d (.p (.int .i64 0)), .d (.p (.int .i64 0))]) 7 inf44 rfl (by first | rfl | simp [S.clean, S.put, S.newObj, S.forget, V.has, V.hasL, junkIf, setL, V.cs, hasL_i, hasL_d, hasL_b, hasL_s, hasL_n, hasL_rep, hasL_flat, hasL_append, -List.map_set]) rfl rfl) ?_
          refine AL.st rfl (st_store_any inf44 rfl rfl rfl rfl rfl rfl rfl rfl (by first | decide | (simp; done) | (simp; omega)) rfl) ?_
          refine AL.nil ?_
          try simp only [thenS, S.put, S.newObj, setL, V.cs, List.length_cons, List.length_nil, List.take_succ_cons, List.take_zero, List.drop_succ_cons, List.drop_zero, List.drop_nil, List.nil_append, List.cons_append, List.append_nil, Nat.zero_add, Nat.reduceAdd, List.map_cons, List.map_nil, List.set_cons_zero, List.set_cons_succ]
          refine AW.seq ?_
          refine AW.region ?_
          (first | (refine AL.rp rfl rfl (rp_field_ref Tryz.underlying44 rfl rfl rfl inf3 (by decide) rfl) ?_) | (refine AL.rp rfl rfl (rp_field_ad Tryz.underlying44 rfl rfl rfl inf3 (by decide) rfl) ?_))
          (first | (refine AL.rd rfl rfl (rd_load_ref Tryz.underlying3 rfl rfl rfl rfl rfl rfl) ?_) | (refine AL.rd rfl rfl (rd_load_ad Tryz.underlying3 rfl rfl rfl rfl) ?_) | (refine AL.rd rfl rfl (rd_load_map Tryz.underlying3 rfl rfl rfl rfl rfl rfl (by assumption)) ?_))
          refine AL.call (post := ?pc19) rfl (sm_call (args := [_, _, _]) ?hc19 ⟨Tryz.func27, rfl, rfl, rfl, rfl⟩ rfl rfl rfl rfl) ?_
          case hc19 => first | (refine Fn.decT (am_In _ _ _) ?_; omega) | (refine Fn.decF (am_In _ _ _) ?_; omega) | exact am_In _ _ _
          rintro _ rfl -
          try dsimp only
          refine AL.rp rfl rfl (rp_not rfl rfl) ?_
          refine AL.rp rfl rfl (rp_move rfl rfl) ?_
          (first | (refine AL.no rfl rfl rfl rfl ?_) | (refine AL.rpy rfl rfl rfl (rp_field_ref Tryz.underlying44 rfl rfl rfl inf3 (by decide) rfl) ?_) | (refine AL.rpy rfl rfl rfl (rp_field_ad Tryz.underlying44 rfl rfl rfl inf3 (by decide) rfl) ?_))
          (first | (refine AL.no rfl rfl rfl rfl ?_) | (refine AL.rdy rfl rfl rfl (rd_load_ref Tryz.underlying3 rfl rfl rfl rfl rfl rfl) ?_) | (refine AL.rdy rfl rfl rfl (rd_load_ad Tryz.underlying3 rfl rfl rfl rfl) ?_) | (refine AL.rdy rfl rfl rfl (rd_load_map Tryz.underlying3 rfl rfl rfl rfl rfl rfl (by assumption)) ?_))
          (first | (refine AL.no rfl rfl rfl rfl ?_) | (refine AL.cally (post := ?pc20) rfl rfl (sm_call (args := [_, _, _]) ?hc20 ⟨Tryz.func27, rfl, rfl, rfl, rfl⟩ rfl rfl rfl rfl) ?_; (case hc20 => (first | (refine Fn.decT (am_In _ _ _) ?_; omega) | (refine Fn.decF (am_In _ _ _) ?_; omega) | exact am_In _ _ _)); rintro _ rfl -; try dsimp only))
          (first | (refine AL.no rfl rfl rfl rfl ?_) | (refine AL.rpy rfl rfl rfl (rp_not rfl rfl) ?_))
          refine AL.rp rfl rfl (rp_pick rfl rfl rfl) ?_
          refine AL.rp rfl rfl (rp_move rfl rfl) ?_
          (first | (refine AL.no rfl rfl rfl rfl ?_) | (refine AL.rpy rfl rfl rfl (rp_field_ref Tryz.underlying44 rfl rfl rfl inf3 (by decide) rfl) ?_) | (refine AL.rpy rfl rfl rfl (rp_field_ad Tryz.underlying44 rfl rfl rfl inf3 (by decide) rfl) ?_))
          (first | (refine AL.no rfl rfl rfl rfl ?_) | (refine AL.rdy rfl rfl rfl (rd_load_ref Tryz.underlying3 rfl rfl rfl rfl rfl rfl) ?_) | (refine AL.rdy rfl rfl rfl (rd_load_ad Tryz.underlying3 rfl rfl rfl rfl) ?_) | (refine AL.rdy rfl rfl rfl (rd_load_map Tryz.underlying3 rfl rfl rfl rfl rfl rfl (by assumption)) ?_))
          (first | (refine AL.no rfl rfl rfl rfl ?_) | (refine AL.cally (post := ?pc21) rfl rfl (sm_call (args := [_, _, _]) ?hc21 ⟨Tryz.func27, rfl, rfl, rfl, rfl⟩ rfl rfl rfl rfl) ?_; (case hc21 => (first | (refine Fn.decT (am_In _ _ _) ?_; omega) | (refine Fn.decF (am_In _ _ _) ?_; omega) | exact am_In _ _ _)); rintro _ rfl -; try dsimp only))
          (first | (refine AL.no rfl rfl rfl rfl ?_) | (refine AL.rpy rfl rfl rfl (rp_not rfl rfl) ?_))
          refine AL.rp rfl rfl (rp_pick rfl rfl rfl) ?_
          refine AL.rp rfl rfl (rp_move rfl rfl) ?_
          (first | (refine AL.no rfl rfl rfl rfl ?_) | (refine AL.rpy rfl rfl rfl (rp_field_ref Tryz.underlying44 rfl rfl rfl inf3 (by decide) rfl) ?_) | (refine AL.rpy rfl rfl rfl (rp_field_ad Tryz.underlying44 rfl rfl rfl inf3 (by decide) rfl) ?_))
          (first | (refine AL.no rfl rfl rfl rfl ?_) | (refine AL.rdy rfl rfl rfl (rd_load_ref Tryz.underlying3 rfl rfl rfl rfl rfl rfl) ?_) | (refine AL.rdy rfl rfl rfl (rd_load_ad Tryz.underlying3 rfl rfl rfl rfl) ?_) | (refine AL.rdy rfl rfl rfl (rd_load_map Tryz.underlying3 rfl rfl rfl rfl rfl rfl (by assumption)) ?_))
          (first | (refine AL.no rfl rfl rfl rfl ?_) | (refine AL.rpy rfl rfl rfl (rp_move rfl rfl) ?_))
          (first | (refine AL.no rfl rfl rfl rfl ?_) | (refine AL.rpy rfl rfl rfl (rp_sub rfl rfl rfl (by first | omega | (dsimp only; omega))) ?_))
          (first | (refine AL.no rfl rfl rfl rfl ?_) | (refine AL.cally (post := ?pc22) rfl rfl (sm_call (args := [_, _, _]) ?hc22 ⟨Tryz.func27, rfl, rfl, rfl, rfl⟩ rfl rfl rfl rfl) ?_; (case hc22 => (first | (refine Fn.decT (am_In _ _ _) ?_; omega) | (refine Fn.decF (am_In _ _ _) ?_; omega) | exact am_In _ _ _)); rintro _ rfl -; try dsimp only))
          (first | (refine AL.no rfl rfl rfl rfl ?_) | (refine AL.rpy rfl rfl rfl (rp_not rfl rfl) ?_))
          refine AL.rp rfl rfl (rp_pick rfl rfl rfl) ?_
          refine AL.nil ?_
          try simp only [thenS, S.put, S.newObj, setL, V.cs, List.length_cons, List.length_nil, List.take_succ_cons, List.take_zero, List.drop_succ_cons, List.drop_zero, List.drop_nil, List.nil_append, List.cons_append, List.append_nil, Nat.zero_add, Nat.reduceAdd, List.map_cons, List.map_nil, List.set_cons_zero, List.set_cons_succ]
          refine AW.condT rfl ?_
          refine AW.seq ?_
          refine AW.region ?_
          refine AL.rp rfl rfl (rp_assign rfl rfl) ?_
          refine AL.nil ?_
          try simp only [thenS, S.put]
          refine AW.ret ?_
          exact ⟨[_], ⟨rfl, trivial⟩, rfl, by simp [tupOf, V.pure, V.has]⟩
        ·clear hok
         refine AW.seq ?_
         refine AW.seq ?_
         refine AW.region ?_
         refine AL.rp rfl rfl (rp_move rfl rfl) ?_
         refine AL.rp rfl rfl (rp_move rfl rfl) ?_
         (first | (refine AL.rp rfl rfl (rp_len_map Tryz.underlying40 rfl rfl (by assumption)) ?_) | (refine AL.rp rfl rfl (rp_len_own Tryz.underlying40 rfl rfl) ?_) | (refine AL.rp rfl rfl (rp_len_sl Tryz.underlying40 rfl rfl) ?_) | (refine AL.rp rfl rfl (rp_len_nil Tryz.underlying40 rfl rfl) ?_) | (refine AL.rp rfl rfl (rp_len_str Tryz.underlying40 rfl rfl) ?_))
         (first | (refine AL.rp rfl rfl (rp_lssT rfl rfl rfl (by first | assumption | omega | (dsimp only; omega))) ?_) | (refine AL.rp rfl rfl (rp_lssF rfl rfl rfl (by first | assumption | omega | (dsimp only; omega))) ?_) | (refine AL.rp rfl rfl (rp_lss rfl rfl rfl) ?_))
         refine AL.nil ?_
         try simp only [thenS, S.put]
         refine AW.condT rfl ?_
         refine AW.skip ?_
         try simp only [thenS]
         refine AW.seq ?_
         refine AW.block ?_
         refine AW.seq ?_
         refine AW.region ?_
         refine AL.rp rfl rfl (rp_move rfl rfl) ?_
         refine AL.rp rfl rfl (rp_move rfl rfl) ?_
         (first | (refine AL.rp rfl rfl (rp_index_map Tryz.underlying40 inf44 rfl rfl rfl rfl (by assumption)) ?_) | (refine AL.rp rfl rfl (rp_index_own Tryz.underlying40 inf44 rfl rfl rfl rfl (by first | assumption | omega)) ?_) | (refine AL.rp rfl rfl (rd_index_sl Tryz.underlying40 inf44 rfl rfl rfl rfl (by assumption)) ?_) | (refine AL.rp rfl rfl (rp_index_own Tryz.underlying40 inf44 rfl rfl rfl (by omega) (by omega)) ?_))
         (first | (refine AL.rd rfl rfl (rd_loads_ref Tryz.underlying44 rfl inf44 rfl rfl rfl rfl rfl rfl) ?_) | (refine AL.rd rfl rfl (rd_loads_ad Tryz.underlying44 rfl inf44 rfl rfl rfl rfl) ?_))
         refine AL.sm rfl (sm_alloc (l := [.d (.p (.int .i64 0)), .d (.p (.int .i64 0)), .d (.p (.int .i64 0)), .d (.p (.int .i64 0))]) 7 inf44 rfl (by first | rfl | simp [S.clean, S.put, S.newObj, S.forget, V.has, V.hasL, junkIf, setL, V.cs, hasL_i, hasL_d, hasL_b, hasL_s, hasL_n, hasL_rep, hasL_flat, hasL_append, -List.map_set]) rfl rfl) ?_
         refine AL.st rfl (st_store_any inf44 rfl rfl rfl rfl rfl rfl rfl rfl (by first | decide | (simp; done) | (simp; omega)) rfl) ?_
         refine AL.nil ?_
         try simp only [thenS, S.put, S.newObj, setL, V.cs, List.length_cons, List.length_nil, List.take_succ_cons, List.take_zero, List.drop_succ_cons, List.drop_zero, List.drop_nil, List.nil_append, List.cons_append, List.append_nil, Nat.zero_add, Nat.reduceAdd, List.map_cons, List.map_nil, List.set_cons_zero, List.set_cons_succ]
         refine AW.seq ?_
         refine AW.region ?_
         (first | (refine AL.rp rfl rfl (rp_field_ref Tryz.underlying44 rfl rfl rfl inf3 (by decide) rfl) ?_) | (refine AL.rp rfl rfl (rp_field_ad Tryz.underlying44 rfl rfl rfl inf3 (by decide) rfl) ?_))
         (first | (refine AL.rd rfl rfl (rd_load_ref Tryz.underlying3 rfl rfl rfl rfl rfl rfl) ?_) | (refine AL.rd rfl rfl (rd_load_ad Tryz.underlying3 rfl rfl rfl rfl) ?_) | (refine AL.rd rfl rfl (rd_load_map Tryz.underlying3 rfl rfl rfl rfl rfl rfl (by assumption)) ?_))
         refine AL.call (post := ?pc23) rfl (sm_call (args := [_, _, _]) ?hc23 ⟨Tryz.func27, rfl, rfl, rfl, rfl⟩ rfl rfl rfl rfl) ?_
         case hc23 => first | (refine Fn.decT (am_In _ _ _) ?_; omega) | (refine Fn.decF (am_In _ _ _) ?_; omega) | exact am_In _ _ _
         rintro _ rfl -
         try dsimp only
         refine AL.rp rfl rfl (rp_not rfl rfl) ?_
         refine AL.rp rfl rfl (rp_move rfl rfl) ?_
         (first | (refine AL.no rfl rfl rfl rfl ?_) | (refine AL.rpy rfl rfl rfl (rp_field_ref Tryz.underlying44 rfl rfl rfl inf3 (by decide) rfl) ?_) | (refine AL.rpy rfl rfl rfl (rp_field_ad Tryz.underlying44 rfl rfl rfl inf3 (by decide) rfl) ?_))
         (first | (refine AL.no rfl rfl rfl rfl ?_) | (refine AL.rdy rfl rfl rfl (rd_load_ref Tryz.underlying3 rfl rfl rfl rfl rfl rfl) ?_) | (refine AL.rdy rfl rfl rfl (rd_load_ad Tryz.underlying3 rfl rfl rfl rfl) ?_) | (refine AL.rdy rfl rfl rfl (rd_load_map Tryz.underlying3 rfl rfl rfl rfl rfl rfl (by assumption)) ?_))
         (first | (refine AL.no rfl rfl rfl rfl ?_) | (refine AL.cally (post := ?pc24) rfl rfl (sm_call (args := [_, _, _]) ?hc24 ⟨Tryz.func27, rfl, rfl, rfl, rfl⟩ rfl rfl rfl rfl) ?_; (case hc24 => (first | (refine Fn.decT (am_In _ _ _) ?_; omega) | (refine Fn.decF (am_In _ _ _) ?_; omega) | exact am_In _ _ _)); rintro _ rfl -; try dsimp only))
         (first | (refine AL.no rfl rfl rfl rfl ?_) | (refine AL.rpy rfl rfl rfl (rp_not rfl rfl) ?_))
         refine AL.rp rfl rfl (rp_pick rfl rfl rfl) ?_
         refine AL.rp rfl rfl (rp_move rfl rfl) ?_
         (first | (refine AL.no rfl rfl rfl rfl ?_) | (refine AL.rpy rfl rfl rfl (rp_field_ref Tryz.underlying44 rfl rfl rfl inf3 (by decide) rfl) ?_) | (refine AL.rpy rfl rfl rfl (rp_field_ad Tryz.underlying44 rfl rfl rfl inf3 (by decide) rfl) ?_))
         (first | (refine AL.no rfl rfl rfl rfl ?_) | (refine AL.rdy rfl rfl rfl (rd_load_ref Tryz.underlying3 rfl rfl rfl rfl rfl rfl) ?_) | (refine AL.rdy rfl rfl rfl (rd_load_ad Tryz.underlying3 rfl rfl rfl rfl) ?_) | (refine AL.rdy rfl rfl rfl (rd_load_map Tryz.underlying3 rfl rfl rfl rfl rfl rfl (by assumption)) ?_))
         (first | (refine AL.no rfl rfl rfl rfl ?_) | (refine AL.cally (post := ?pc25) rfl rfl (sm_call (args := [_, _, _]) ?hc25 ⟨Tryz.func27, rfl, rfl, rfl, rfl⟩ rfl rfl rfl rfl) ?_; (case hc25 => (first | (refine Fn.decT (am_In _ _ _) ?_; omega) | (refine Fn.decF (am_In _ _ _) ?_; omega) | exact am_In _ _ _)); rintro _ rfl -; try dsimp only))
         (first | (refine AL.no rfl rfl rfl rfl ?_) | (refine AL.rpy rfl rfl rfl (rp_not rfl rfl) ?_))
         refine AL.rp rfl rfl (rp_pick rfl rfl rfl) ?_
         refine AL.rp rfl rfl (rp_move rfl rfl) ?_
         (first | (refine AL.no rfl rfl rfl rfl ?_) | (refine AL.rpy rfl rfl rfl (rp_field_ref Tryz.underlying44 rfl rfl rfl inf3 (by decide) rfl) ?_) | (refine AL.rpy rfl rfl rfl (rp_field_ad Tryz.underlying44 rfl rfl rfl inf3 (by decide) rfl) ?_))
         (first | (refine AL.no rfl rfl rfl rfl ?_) | (refine AL.rdy rfl rfl rfl (rd_load_ref Tryz.underlying3 rfl rfl rfl rfl rfl rfl) ?_) | (refine AL.rdy rfl rfl rfl (rd_load_ad Tryz.underlying3 rfl rfl rfl rfl) ?_) | (refine AL.rdy rfl rfl rfl (rd_load_map Tryz.underlying3 rfl rfl rfl rfl rfl rfl (by assumption)) ?_))
         (first | (refine AL.no rfl rfl rfl rfl ?_) | (refine AL.rpy rfl rfl rfl (rp_move rfl rfl) ?_))
         (first | (refine AL.no rfl rfl rfl rfl ?_) | (refine AL.rpy rfl rfl rfl (rp_sub rfl rfl rfl (by first | omega | (dsimp only; omega))) ?_))
         (first | (refine AL.no rfl rfl rfl rfl ?_) | (refine AL.cally (post := ?pc26) rfl rfl (sm_call (args := [_, _, _]) ?hc26 ⟨Tryz.func27, rfl, rfl, rfl, rfl⟩ rfl rfl rfl rfl) ?_; (case hc26 => (first | (refine Fn.decT (am_In _ _ _) ?_; omega) | (refine Fn.decF (am_In _ _ _) ?_; omega) | exact am_In _ _ _)); rintro _ rfl -; try dsimp only))
         (first | (refine AL.no rfl rfl rfl rfl ?_) | (refine AL.rpy rfl rfl rfl (rp_not rfl rfl) ?_))
         refine AL.rp rfl rfl (rp_pick rfl rfl rfl) ?_
         refine AL.nil ?_
         try simp only [thenS, S.put, S.newObj, setL, V.cs, List.length_cons, List.length_nil, List.take_succ_cons, List.take_zero, List.drop_succ_cons, List.drop_zero, List.drop_nil, List.nil_append, List.cons_append, List.append_nil, Nat.zero_add, Nat.reduceAdd, List.map_cons, List.map_nil, List.set_cons_zero, List.set_cons_succ]
         refine AW.condT rfl ?_
         refine AW.seq ?_
         refine AW.region ?_
         refine AL.rp rfl rfl (rp_assign rfl rfl) ?_
         refine AL.nil ?_
         try simp only [thenS, S.put]
         refine AW.ret ?_
         exact ⟨[_], ⟨rfl, trivial⟩, rfl, by simp [tupOf, V.pure, V.has]⟩
      ·skip
       refine AW.seq ?_
       refine AW.seq ?_
       refine AW.region ?_
       refine AL.rp rfl rfl (rp_move rfl rfl) ?_
       refine AL.rp rfl rfl (rp_move rfl rfl) ?_
       (first | (refine AL.rp rfl rfl (rp_len_map Tryz.underlying40 rfl rfl (by assumption)) ?_) | (refine AL.rp rfl rfl (rp_len_own Tryz.underlying40 rfl rfl) ?_) | (refine AL.rp rfl rfl (rp_len_sl Tryz.underlying40 rfl rfl) ?_) | (refine AL.rp rfl rfl (rp_len_nil Tryz.underlying40 rfl rfl) ?_) | (refine AL.rp rfl rfl (rp_len_str Tryz.underlying40 rfl rfl) ?_))
       (first | (refine AL.rp rfl rfl (rp_lssT rfl rfl rfl (by first | assumption | omega | (dsimp only; omega))) ?_) | (refine AL.rp rfl rfl (rp_lssF rfl rfl rfl (by first | assumption | omega | (dsimp only; omega))) ?_) | (refine AL.rp rfl rfl (rp_lss rfl rfl rfl) ?_))
       refine AL.nil ?_
       try simp only [thenS, S.put]
       refine AW.condF rfl ?_
       refine AW.exit ?_
       try simp only [thenS, inBlockS, ↓reduceIte, Nat.reduceEqDiff]
       refine AW.region ?_
       refine AL.rp rfl rfl (rp_move rfl rfl) ?_
       refine AL.rp rfl rfl (rp_add rfl rfl rfl (by first | omega | (dsimp only; omega))) ?_
       refine AL.rp rfl rfl (rp_assign rfl rfl) ?_
       refine AL.nil ?_
       try simp only [thenS, S.put]
       have hA : x.arcs.all (arOk len) = true := by rwa [List.take_of_length_le (by omega)] at hall2
       refine ⟨_, ?_, ⟨k + 1, by omega, all_snoc' hx hall (stOk_yes (by simp [finOk]; omega) hA), rfl⟩, ?_⟩
       ·exact (Less.of rfl (by repeat (first | exact trivial | refine ⟨⟨_, rfl, Wk.refl _⟩, ?_⟩ | refine ⟨⟨_, rfl, Wk.nil _ _⟩, ?_⟩ | refine ⟨⟨_, rfl, Wk.junk _⟩, ?_⟩)) (by repeat (first | exact trivial | refine ⟨rfl, ?_⟩)) rfl)
       ·simp [S.nat, fnd]; omega
     ·have hE : machE ⟨st, sts⟩ = 2 := machE_state hl h60 h400 hx (stOk_fin (by simp [finOk]; omega))
      rw [hE]
      refine AW.seq ?_
      refine AW.seq ?_
      refine AW.region ?_
      refine AL.rp rfl rfl (rp_move rfl rfl) ?_
      refine AL.rp rfl rfl (rp_move rfl rfl) ?_
      (first | (refine AL.rp rfl rfl (rp_lssT rfl rfl rfl (by first | assumption | omega | (dsimp only; omega))) ?_) | (refine AL.rp rfl rfl (rp_lssF rfl rfl rfl (by first | assumption | omega | (dsimp only; omega))) ?_) | (refine AL.rp rfl rfl (rp_lss rfl rfl rfl) ?_))
      refine AL.nil ?_
      try simp only [thenS, S.put]
      refine AW.condT rfl ?_
      refine AW.skip ?_
      try simp only [thenS]
      refine AW.seq ?_
      refine AW.block ?_
      refine AW.seq ?_
      refine AW.seq ?_
      refine AW.region ?_
      (first | (refine AL.rp rfl rfl (rp_field_ref Tryz.underlying24 rfl rfl rfl inf22 (by decide) rfl) ?_) | (refine AL.rp rfl rfl (rp_field_ad Tryz.underlying24 rfl rfl rfl inf22 (by decide) rfl) ?_))
      (first | (refine AL.rd rfl rfl (rd_load_ref Tryz.underlying22 rfl rfl rfl rfl rfl rfl) ?_) | (refine AL.rd rfl rfl (rd_load_ad Tryz.underlying22 rfl rfl rfl rfl) ?_) | (refine AL.rd rfl rfl (rd_load_map Tryz.underlying22 rfl rfl rfl rfl rfl rfl (by assumption)) ?_))
      refine AL.rp rfl rfl (rp_move rfl rfl) ?_
      (first | (refine AL.rp rfl rfl (rp_index_map Tryz.underlying22 inf42 rfl rfl rfl rfl (by assumption)) ?_) | (refine AL.rp rfl rfl (rp_index_own Tryz.underlying22 inf42 rfl rfl rfl rfl (by first | assumption | omega)) ?_) | (refine AL.rp rfl rfl (rd_index_sl Tryz.underlying22 inf42 rfl rfl rfl rfl (by assumption)) ?_) | (refine AL.rp rfl rfl (rp_index_own Tryz.underlying22 inf42 rfl rfl rfl (by omega) (by omega)) ?_))
      (first | (refine AL.rp rfl rfl (rp_field_ref Tryz.underlying42 rfl rfl rfl inf3 (by decide) rfl) ?_) | (refine AL.rp rfl rfl (rp_field_ad Tryz.underlying42 rfl rfl rfl inf3 (by decide) rfl) ?_))
      (first | (refine AL.rd rfl rfl (rd_load_ref Tryz.underlying3 rfl rfl rfl rfl rfl rfl) ?_) | (refine AL.rd rfl rfl (rd_load_ad Tryz.underlying3 rfl rfl rfl rfl) ?_) | (refine AL.rd rfl rfl (rd_load_map Tryz.underlying3 rfl rfl rfl rfl rfl rfl (by assumption)) ?_))
      refine AL.call (post := ?pc27) rfl (sm_call (args := [_]) ?hc27 ⟨Tryz.func28, rfl, rfl, rfl, rfl⟩ rfl rfl rfl rfl) ?_
      case hc27 => first | (refine Fn.decT (am_IsWeight _) ?_; omega) | (refine Fn.decF (am_IsWeight _) ?_; omega) | exact am_IsWeight _
      rintro _ rfl -
      try dsimp only
      refine AL.rp rfl rfl (rp_not rfl rfl) ?_
      refine AL.nil ?_
      try simp only [thenS, S.put, S.newObj, setL, V.cs, List.length_cons, List.length_nil, List.take_succ_cons, List.take_zero, List.drop_succ_cons, List.drop_zero, List.drop_nil, List.nil_append, List.cons_append, List.append_nil, Nat.zero_add, Nat.reduceAdd, List.map_cons, List.map_nil, List.set_cons_zero, List.set_cons_succ]
      refine AW.condT rfl ?_
      refine AW.seq ?_
      refine AW.region ?_
      refine AL.rp rfl rfl (rp_assign rfl rfl) ?_
      refine AL.nil ?_
      try simp only [thenS, S.put]
      refine AW.ret ?_
      exact ⟨[_], ⟨rfl, trivial⟩, rfl, by simp [tupOf, V.pure, V.has]⟩
    ·skip
     refine AW.seq ?_
     refine AW.seq ?_
     refine AW.region ?_
     refine AL.rp rfl rfl (rp_move rfl rfl) ?_
     refine AL.rp rfl rfl (rp_move rfl rfl) ?_
     (first | (refine AL.rp rfl rfl (rp_lssT rfl rfl rfl (by first | assumption | omega | (dsimp only; omega))) ?_) | (refine AL.rp rfl rfl (rp_lssF rfl rfl rfl (by first | assumption | omega | (dsimp only; omega))) ?_) | (refine AL.rp rfl rfl (rp_lss rfl rfl rfl) ?_))
     refine AL.nil ?_
     try simp only [thenS, S.put]
     refine AW.condF rfl ?_
     refine AW.exit ?_
     try simp only [thenS, inBlockS, ↓reduceIte, Nat.reduceEqDiff]
     refine AW.seq ?_
     refine AW.region ?_
     refine AL.rp rfl rfl (rp_assign rfl rfl) ?_
     refine AL.nil ?_
     try simp only [thenS, S.put]
     refine AW.ret ?_
     exact ⟨[_], ⟨rfl, trivial⟩, by rw [machE_good hl h60 h400 (by omega) hlt hall]; rfl, by simp [tupOf, V.pure, V.has]⟩
   ·skip
    refine AW.seq ?_
    refine AW.region ?_
    refine AL.sm rfl (sm_box 1 rfl rfl rfl (by first | rfl | simp [S.clean, S.put, S.newObj, S.forget, V.has, V.hasL, junkIf, setL, V.cs, hasL_i, hasL_d, hasL_b, hasL_s, hasL_n, hasL_rep, hasL_flat, hasL_append, -List.map_set]) rfl) ?_
    refine AL.rp rfl rfl (rp_assign rfl rfl) ?_
    refine AL.nil ?_
    try simp only [thenS, S.put, S.newObj, setL, V.cs, List.length_cons, List.length_nil, List.take_succ_cons, List.take_zero, List.drop_succ_cons, List.drop_zero, List.drop_nil, List.nil_append, List.cons_append, List.append_nil, Nat.zero_add, Nat.reduceAdd, List.map_cons, List.map_nil, List.set_cons_zero, List.set_cons_succ, enum]
    refine AW.seq ?_
    refine AW.region ?_
    (first | (refine AL.rp rfl rfl (rp_field_ref Tryz.underlying24 rfl rfl rfl inf22 (by decide) rfl) ?_) | (refine AL.rp rfl rfl (rp_field_ad Tryz.underlying24 rfl rfl rfl inf22 (by decide) rfl) ?_))
    (first | (refine AL.rd rfl rfl (rd_load_ref Tryz.underlying22 rfl rfl rfl rfl rfl rfl) ?_) | (refine AL.rd rfl rfl (rd_load_ad Tryz.underlying22 rfl rfl rfl rfl) ?_) | (refine AL.rd rfl rfl (rd_load_map Tryz.underlying22 rfl rfl rfl rfl rfl rfl (by assumption)) ?_))
    (first | (refine AL.rp rfl rfl (rp_len_map Tryz.underlying22 rfl rfl (by assumption)) ?_) | (refine AL.rp rfl rfl (rp_len_own Tryz.underlying22 rfl rfl) ?_) | (refine AL.rp rfl rfl (rp_len_sl Tryz.underlying22 rfl rfl) ?_) | (refine AL.rp rfl rfl (rp_len_nil Tryz.underlying22 rfl rfl) ?_) | (refine AL.rp rfl rfl (rp_len_str Tryz.underlying22 rfl rfl) ?_))
    refine AL.rp rfl rfl (rp_assign rfl rfl) ?_
    refine AL.nil ?_
    try simp only [thenS, S.put]
    refine AW.seq ?_
    refine AW.seq ?_
    refine AW.region ?_
    refine AL.rp rfl rfl (rp_move rfl rfl) ?_
    (first | (refine AL.rp rfl rfl (rp_gtrT rfl rfl rfl (by first | assumption | omega | (dsimp only; omega))) ?_) | (refine AL.rp rfl rfl (rp_gtrF rfl rfl rfl (by first | assumption | omega | (dsimp only; omega))) ?_) | (refine AL.rp rfl rfl (rp_gtr rfl rfl rfl) ?_))
    refine AL.rp rfl rfl (rp_move rfl rfl) ?_
    (first | (refine AL.no rfl rfl rfl rfl ?_) | (refine AL.rdy rfl rfl rfl (rd_loads_ref Tryz.underlying24 rfl inf24 rfl rfl rfl rfl rfl rfl) ?_) | (refine AL.rdy rfl rfl rfl (rd_loads_ad Tryz.underlying24 rfl inf24 rfl rfl rfl rfl) ?_))
    (first | (refine AL.no rfl rfl rfl rfl ?_) | (refine AL.cally (post := ?pc28) rfl rfl (sm_call (args := [_]) ?hc28 ⟨Tryz.func26, rfl, rfl, rfl, rfl⟩ rfl rfl rfl rfl) ?_; (case hc28 => (exact am_ArcCount ⟨st, sts⟩ (by simp only; omega))); rintro _ rfl -; try dsimp only))
    (first | (refine AL.no rfl rfl rfl rfl ?_) | (refine AL.rpy rfl rfl rfl (rp_gtrT rfl rfl rfl (by first | assumption | omega | (dsimp only; omega))) ?_) | (refine AL.rpy rfl rfl rfl (rp_gtrF rfl rfl rfl (by first | assumption | omega | (dsimp only; omega))) ?_) | (refine AL.rpy rfl rfl rfl (rp_gtr rfl rfl rfl) ?_))
    refine AL.rp rfl rfl (rp_pick rfl rfl rfl) ?_
    refine AL.nil ?_
    try simp only [thenS, S.put, S.newObj, setL, V.cs, List.length_cons, List.length_nil, List.take_succ_cons, List.take_zero, List.drop_succ_cons, List.drop_zero, List.drop_nil, List.nil_append, List.cons_append, List.append_nil, Nat.zero_add, Nat.reduceAdd, List.map_cons, List.map_nil, List.set_cons_zero, List.set_cons_succ]
    refine AW.condF rfl ?_
    refine AW.skip ?_
    try simp only [thenS]
    refine AW.seq ?_
    refine AW.seq ?_
    refine AW.region ?_
    (first | (refine AL.rp rfl rfl (rp_field_ref Tryz.underlying24 rfl rfl rfl inf3 (by decide) rfl) ?_) | (refine AL.rp rfl rfl (rp_field_ad Tryz.underlying24 rfl rfl rfl inf3 (by decide) rfl) ?_))
    (first | (refine AL.rd rfl rfl (rd_load_ref Tryz.underlying3 rfl rfl rfl rfl rfl rfl) ?_) | (refine AL.rd rfl rfl (rd_load_ad Tryz.underlying3 rfl rfl rfl rfl) ?_) | (refine AL.rd rfl rfl (rd_load_map Tryz.underlying3 rfl rfl rfl rfl rfl rfl (by assumption)) ?_))
    refine AL.rp rfl rfl (rp_move rfl rfl) ?_
    refine AL.rp rfl rfl (rp_sub rfl rfl rfl (by first | omega | (dsimp only; omega))) ?_
    refine AL.call (post := ?pc29) rfl (sm_call (args := [_, _, _]) ?hc29 ⟨Tryz.func27, rfl, rfl, rfl, rfl⟩ rfl rfl rfl rfl) ?_
    case hc29 => first | (refine Fn.decT (am_In _ _ _) ?_; omega) | (refine Fn.decF (am_In _ _ _) ?_; omega) | exact am_In _ _ _
    rintro _ rfl -
    try dsimp only
    refine AL.rp rfl rfl (rp_not rfl rfl) ?_
    refine AL.nil ?_
    try simp only [thenS, S.put, S.newObj, setL, V.cs, List.length_cons, List.length_nil, List.take_succ_cons, List.take_zero, List.drop_succ_cons, List.drop_zero, List.drop_nil, List.nil_append, List.cons_append, List.append_nil, Nat.zero_add, Nat.reduceAdd, List.map_cons, List.map_nil, List.set_cons_zero, List.set_cons_succ]
    refine AW.condT rfl ?_
    refine AW.seq ?_
    refine AW.region ?_
    refine AL.rp rfl rfl (rp_assign rfl rfl) ?_
    refine AL.nil ?_
    try simp only [thenS, S.put]
    refine AW.ret ?_
    exact ⟨[_], ⟨rfl, trivial⟩, by rw [machE_start hl h60 h400 (by omega)]; rfl, by simp [tupOf, V.pure, V.has]⟩
end Go.Proofs.YtkikceoccmoanaaGreatDoor
namespace Go.Proofs.YtkikceoccmoanaaGreatDoor
open Go.RowKit
set_option linter.unusedSimpArgs false
set_option linter.unusedVariables false
set_option maxRecDepth 100000

def sLF : ByteArray := ⟨#[10]⟩
def sSP : ByteArray := ⟨#[32]⟩
/-- One arc's line. -/
def papA (s : ByteArray) (a : Ar) : ByteArray := s ++ ⟨#[97, 114, 99, 32]⟩ ++ decS a.t.toNat ++ sSP ++ decS a.i.toNat ++ sSP ++ decS a.o.toNat ++ sSP ++ decS a.w.toNat ++ sLF
def papS (s : ByteArray) (x : St) : ByteArray := x.arcs.foldl papA (s ++ ⟨#[115, 116, 97, 116, 101, 32]⟩ ++ shS x.fin ++ sLF)
def papH (st : Int) : ByteArray := if 0 ≤ st then ⟨#[115, 116, 97, 114, 116, 32]⟩ ++ decS st.toNat ++ sLF else ⟨#[115, 116, 97, 114, 116, 32, 45, 10]⟩
noncomputable def papM (m : Mach) : ByteArray := if machE m = 0 then m.states.foldl papS (papH m.start) else ⟨#[]⟩
theorem shS_size (x : Int) : (shS x).size ≤ 1000000005 := by
  unfold shS
  split
  · rename_i h
    split
    · show 3 ≤ _; omega
    · have := decS_size x.toNat
      have h2 : 0 ≤ x ∧ x ≤ 1000000001 := h
      omega
  · show 0 ≤ _; omega
theorem papH_size {st : Int} (h : st ≤ 1000) : (papH st).size ≤ 10000 := by
  unfold papH
  split
  · have := decS_size st.toNat
    simp only [ByteArray.size_append]
    have h1 : (⟨#[115, 116, 97, 114, 116, 32]⟩ : ByteArray).size = 6 := rfl
    have h2 : sLF.size = 1 := rfl
    omega
  · show 8 ≤ _; omega
theorem papA_size {s : ByteArray} {a : Ar} {n : Int} (h : arOk n a = true) (hn : n ≤ 60) : (papA s a).size ≤ s.size + 2000000000 := by
  simp only [arOk, decide_eq_true_eq] at h
  unfold papA
  simp only [ByteArray.size_append]
  have h1 : (⟨#[97, 114, 99, 32]⟩ : ByteArray).size = 4 := rfl
  have h2 : sLF.size = 1 := rfl
  have h3 : sSP.size = 1 := rfl
  have := decS_size a.t.toNat
  have := decS_size a.i.toNat
  have := decS_size a.o.toNat
  have := decS_size a.w.toNat
  omega
end Go.Proofs.YtkikceoccmoanaaGreatDoor
namespace Go.Proofs.YtkikceoccmoanaaGreatDoor
open Go.Shelf Go.RowKit Go.Sort Go.Lib
def lays160_ren : Go.Shelf.Ren := ⟨fun | 160 => 35 | 232 => 53 | 231 => 52 | 227 => 54 | 234 => 56 | 233 => 55 | 236 => 58 | 235 => 57 | 228 => 74 | 271 => 76 | 151 => 75 | 197 => 66 | 120 => 91 | 152 => 90 | 260 => 83 | 137 => 31 | 119 => 101 | 224 => 85 | 225 => 84 | 217 => 45 | 266 => 64 | n => n, fun | 9 => 9 | 4 => 4 | 3 => 3 | 5 => 5 | 117 => 89 | 116 => 88 | 0 => 0 | 124 => 92 | 21 => 21 | 105 => 97 | 46 => 115 | 119 => 129 | 139 => 132 | 138 => 131 | n => n, fun | 3 => 4 | 4 => 5 | n => n⟩
theorem lays160 : Go.Proofs.Lays.n160 Tryz.prog lays160_ren := {
  mixed := by kernel_rfl
  f119 := Tryz.func101.trans (congrArg some (by kernel_rfl))
  f120 := Tryz.func91.trans (congrArg some (by kernel_rfl))
  f137 := Tryz.func31.trans (congrArg some (by kernel_rfl))
  f151 := Tryz.func75.trans (congrArg some (by kernel_rfl))
  f152 := Tryz.func90.trans (congrArg some (by kernel_rfl))
  f160 := Tryz.func35.trans (congrArg some (by kernel_rfl))
  f197 := Tryz.func66.trans (congrArg some (by kernel_rfl))
  f217 := Tryz.func45.trans (congrArg some (by kernel_rfl))
  f224 := Tryz.func85.trans (congrArg some (by kernel_rfl))
  f225 := Tryz.func84.trans (congrArg some (by kernel_rfl))
  f227 := Tryz.func54.trans (congrArg some (by kernel_rfl))
  f228 := Tryz.func74.trans (congrArg some (by kernel_rfl))
  f231 := Tryz.func52.trans (congrArg some (by kernel_rfl))
  f232 := Tryz.func53.trans (congrArg some (by kernel_rfl))
  f233 := Tryz.func55.trans (congrArg some (by kernel_rfl))
  f234 := Tryz.func56.trans (congrArg some (by kernel_rfl))
  f235 := Tryz.func57.trans (congrArg some (by kernel_rfl))
  f236 := Tryz.func58.trans (congrArg some (by kernel_rfl))
  f260 := Tryz.func83.trans (congrArg some (by kernel_rfl))
  f266 := Tryz.func64.trans (congrArg some (by kernel_rfl))
  f271 := Tryz.func76.trans (congrArg some (by kernel_rfl))
  t0 := Tryz.underlying0
  a0 := Tryz.isAgg0
  z0 := Tryz.sizeOf0
  v0 := Tryz.zeroValue0
  t3 := Tryz.underlying3
  a3 := Tryz.isAgg3
  z3 := Tryz.sizeOf3
  v3 := Tryz.zeroValue3
  t4 := Tryz.underlying4
  a4 := Tryz.isAgg4
  z4 := Tryz.sizeOf4
  v4 := Tryz.zeroValue4
  t5 := Tryz.underlying5
  a5 := Tryz.isAgg5
  z5 := Tryz.sizeOf5
  v5 := Tryz.zeroValue5
  t9 := Tryz.underlying9
  a9 := Tryz.isAgg9
  z9 := Tryz.sizeOf9
  v9 := Tryz.zeroValue9
  t21 := Tryz.underlying21
  a21 := Tryz.isAgg21
  z21 := Tryz.sizeOf21
  v21 := Tryz.zeroValue21
  t46 := Tryz.underlying115
  a46 := Tryz.isAgg115
  z46 := Tryz.sizeOf115
  v46 := Tryz.zeroValue115
  t105 := Tryz.underlying97
  a105 := Tryz.isAgg97
  z105 := Tryz.sizeOf97
  v105 := Tryz.zeroValue97
  t116 := Tryz.underlying88
  a116 := Tryz.isAgg88
  z116 := Tryz.sizeOf88
  t117 := Tryz.underlying89
  a117 := Tryz.isAgg89
  z117 := Tryz.sizeOf89
  v117 := Tryz.zeroValue89
  t119 := Tryz.underlying129
  a119 := Tryz.isAgg129
  z119 := Tryz.sizeOf129
  t124 := Tryz.underlying92
  a124 := Tryz.isAgg92
  z124 := Tryz.sizeOf92
  v124 := Tryz.zeroValue92
  t138 := Tryz.underlying131
  a138 := Tryz.isAgg131
  z138 := Tryz.sizeOf131
  v138 := Tryz.zeroValue131
  t139 := Tryz.underlying132
  a139 := Tryz.isAgg132
  z139 := Tryz.sizeOf132
  v139 := Tryz.zeroValue132
  g3 := by kernel_rfl
  g4 := by kernel_rfl }
def lays172_ren : Go.Shelf.Ren := ⟨fun | 172 => 34 | 244 => 50 | 245 => 51 | 247 => 69 | 279 => 70 | 280 => 71 | 281 => 72 | 282 => 73 | 287 => 87 | 316 => 88 | 171 => 21 | 205 => 89 | 321 => 99 | 322 => 100 | 243 => 40 | 246 => 61 | 283 => 77 | 284 => 78 | 285 => 79 | 286 => 80 | 129 => 93 | 317 => 92 | 318 => 94 | 319 => 95 | 320 => 96 | 337 => 102 | 338 => 103 | n => n, fun | 9 => 9 | 3 => 3 | 75 => 72 | 76 => 73 | 4 => 4 | 5 => 5 | 167 => 99 | 37 => 55 | 0 => 0 | 85 => 100 | 2 => 2 | 168 => 102 | 53 => 107 | 175 => 116 | 46 => 115 | 210 => 120 | 127 => 81 | 145 => 138 | 143 => 136 | 21 => 21 | 171 => 106 | 173 => 110 | 212 => 124 | 51 => 125 | 20 => 20 | 213 => 126 | 232 => 141 | 233 => 142 | 80 => 63 | n => n, fun | 15 => 1 | 16 => 2 | 17 => 3 | 18 => 6 | 19 => 7 | n => n⟩
theorem lays172 : Go.Proofs.Lays.n172 Tryz.prog lays172_ren := {
  mixed := by kernel_rfl
  f129 := Tryz.func93.trans (congrArg some (by kernel_rfl))
  f171 := Tryz.func21.trans (congrArg some (by kernel_rfl))
  f172 := Tryz.func34.trans (congrArg some (by kernel_rfl))
  f205 := Tryz.func89.trans (congrArg some (by kernel_rfl))
  f243 := Tryz.func40.trans (congrArg some (by kernel_rfl))
  f244 := Tryz.func50.trans (congrArg some (by kernel_rfl))
  f245 := Tryz.func51.trans (congrArg some (by kernel_rfl))
  f246 := Tryz.func61.trans (congrArg some (by kernel_rfl))
  f247 := Tryz.func69.trans (congrArg some (by kernel_rfl))
  f279 := Tryz.func70.trans (congrArg some (by kernel_rfl))
  f280 := Tryz.func71.trans (congrArg some (by kernel_rfl))
  f281 := Tryz.func72.trans (congrArg some (by kernel_rfl))
  f282 := Tryz.func73.trans (congrArg some (by kernel_rfl))
  f283 := Tryz.func77.trans (congrArg some (by kernel_rfl))
  f284 := Tryz.func78.trans (congrArg some (by kernel_rfl))
  f285 := Tryz.func79.trans (congrArg some (by kernel_rfl))
  f286 := Tryz.func80.trans (congrArg some (by kernel_rfl))
  f287 := Tryz.func87.trans (congrArg some (by kernel_rfl))
  f316 := Tryz.func88.trans (congrArg some (by kernel_rfl))
  f317 := Tryz.func92.trans (congrArg some (by kernel_rfl))
  f318 := Tryz.func94.trans (congrArg some (by kernel_rfl))
  f319 := Tryz.func95.trans (congrArg some (by kernel_rfl))
  f320 := Tryz.func96.trans (congrArg some (by kernel_rfl))
  f321 := Tryz.func99.trans (congrArg some (by kernel_rfl))
  f322 := Tryz.func100.trans (congrArg some (by kernel_rfl))
  f337 := Tryz.func102.trans (congrArg some (by kernel_rfl))
  f338 := Tryz.func103.trans (congrArg some (by kernel_rfl))
  t0 := Tryz.underlying0
  a0 := Tryz.isAgg0
  z0 := Tryz.sizeOf0
  v0 := Tryz.zeroValue0
  t2 := Tryz.underlying2
  a2 := Tryz.isAgg2
  z2 := Tryz.sizeOf2
  v2 := Tryz.zeroValue2
  t3 := Tryz.underlying3
  a3 := Tryz.isAgg3
  z3 := Tryz.sizeOf3
  v3 := Tryz.zeroValue3
  t4 := Tryz.underlying4
  a4 := Tryz.isAgg4
  z4 := Tryz.sizeOf4
  v4 := Tryz.zeroValue4
  t5 := Tryz.underlying5
  a5 := Tryz.isAgg5
  z5 := Tryz.sizeOf5
  v5 := Tryz.zeroValue5
  t9 := Tryz.underlying9
  a9 := Tryz.isAgg9
  z9 := Tryz.sizeOf9
  v9 := Tryz.zeroValue9
  t20 := Tryz.underlying20
  a20 := Tryz.isAgg20
  z20 := Tryz.sizeOf20
  v20 := Tryz.zeroValue20
  t21 := Tryz.underlying21
  a21 := Tryz.isAgg21
  z21 := Tryz.sizeOf21
  v21 := Tryz.zeroValue21
  t37 := Tryz.underlying55
  a37 := Tryz.isAgg55
  z37 := Tryz.sizeOf55
  v37 := Tryz.zeroValue55
  t46 := Tryz.underlying115
  a46 := Tryz.isAgg115
  z46 := Tryz.sizeOf115
  v46 := Tryz.zeroValue115
  t51 := Tryz.underlying125
  a51 := Tryz.isAgg125
  z51 := Tryz.sizeOf125
  v51 := Tryz.zeroValue125
  t53 := Tryz.underlying107
  a53 := Tryz.isAgg107
  z53 := Tryz.sizeOf107
  v53 := Tryz.zeroValue107
  t75 := Tryz.underlying72
  a75 := Tryz.isAgg72
  z75 := Tryz.sizeOf72
  v75 := Tryz.zeroValue72
  t76 := Tryz.underlying73
  a76 := Tryz.isAgg73
  z76 := Tryz.sizeOf73
  v76 := Tryz.zeroValue73
  t85 := Tryz.underlying100
  a85 := Tryz.isAgg100
  z85 := Tryz.sizeOf100
  v85 := Tryz.zeroValue100
  t127 := Tryz.underlying81
  a127 := Tryz.isAgg81
  z127 := Tryz.sizeOf81
  v127 := Tryz.zeroValue81
  t143 := Tryz.underlying136
  a143 := Tryz.isAgg136
  z143 := Tryz.sizeOf136
  v143 := Tryz.zeroValue136
  t145 := Tryz.underlying138
  a145 := Tryz.isAgg138
  z145 := Tryz.sizeOf138
  v145 := Tryz.zeroValue138
  t167 := Tryz.underlying99
  a167 := Tryz.isAgg99
  z167 := Tryz.sizeOf99
  v167 := Tryz.zeroValue99
  t168 := Tryz.underlying102
  a168 := Tryz.isAgg102
  z168 := Tryz.sizeOf102
  v168 := Tryz.zeroValue102
  t171 := Tryz.underlying106
  a171 := Tryz.isAgg106
  z171 := Tryz.sizeOf106
  v171 := Tryz.zeroValue106
  t173 := Tryz.underlying110
  a173 := Tryz.isAgg110
  z173 := Tryz.sizeOf110
  v173 := Tryz.zeroValue110
  t175 := Tryz.underlying116
  a175 := Tryz.isAgg116
  z175 := Tryz.sizeOf116
  v175 := Tryz.zeroValue116
  t210 := Tryz.underlying120
  a210 := Tryz.isAgg120
  z210 := Tryz.sizeOf120
  v210 := Tryz.zeroValue120
  t212 := Tryz.underlying124
  a212 := Tryz.isAgg124
  z212 := Tryz.sizeOf124
  v212 := Tryz.zeroValue124
  t213 := Tryz.underlying126
  a213 := Tryz.isAgg126
  z213 := Tryz.sizeOf126
  t232 := Tryz.underlying141
  a232 := Tryz.isAgg141
  z232 := Tryz.sizeOf141
  v232 := Tryz.zeroValue141
  t233 := Tryz.underlying142
  a233 := Tryz.isAgg142
  z233 := Tryz.sizeOf142
  v233 := Tryz.zeroValue142
  g15 := by kernel_rfl
  g16 := by kernel_rfl
  g17 := by kernel_rfl
  g18 := by kernel_rfl
  g19 := by kernel_rfl }
theorem atoi_call (s : ByteArray) (n : Int) (hl : s.size ≤ 18) (h : Lib.atoi s.data.toList = some n) (w : World) :
    Calls Tryz.prog 34 #[.string s] w fun e w' => e = .returned (.tuple #[.int .i64 n, .nilIface]) ∧ ∃ t, w' = Lib.bytesWorld w 5 t := Any.strconv_Atoi lays172 s n hl h w
theorem trim_call (s : ByteArray) (w : World) (hs : s.size ≤ 9223372036854775807) :
    Calls Tryz.prog 35 #[.string s, .string ⟨#[48, 49, 50, 51, 52, 53, 54, 55, 56, 57]⟩] w fun e w' => e = .returned (.string ⟨(Lib.trimS s.data.toList [48, 49, 50, 51, 52, 53, 54, 55, 56, 57]).toArray⟩) ∧ Below w.heap.size w w' :=
  Any.strings_Trim_laid lays160 (by kernel_rfl) s ⟨#[48, 49, 50, 51, 52, 53, 54, 55, 56, 57]⟩ w hs (by decide) (ascii_of_all (by decide))
end Go.Proofs.YtkikceoccmoanaaGreatDoor
namespace Go.Proofs.YtkikceoccmoanaaGreatDoor
open Go.RowKit
set_option linter.unusedSimpArgs false
set_option linter.unusedVariables false
set_option maxRecDepth 100000

section
variable {c : Cx} {s : S} {o : Oper}
theorem rp_neqI0 {t t' : TypeId} {x : Operand} {u : Value} {ms : Array (String × TypeId)} (hu : c.P.underlying t = some (.interface ms)) (ho : o.op = .binOp .neq t x (.const u) t') (hx : s.ev x = some (.d (.p .nilIface))) (hy : s.ev (.const u) = some (.d (.p .nilIface))) : RP c o s (.b false) :=
  rp_bin ho hx hy fun w => by
    have h1 : c.P.isIface t = true := by simp [Program.isIface, hu]
    have h2 := run_neq_nil_nil_at (P := c.P) w t h1
    simp [eqGuard, h2]
end
theorem reps_s2 {a b : ByteArray} {w : World} {q : Nat → Prop} {g : Nat → Nat × Nat} {zs : List Value} (h : VReps w q g [.s a, .s b] zs) : zs = [.string a, .string b] := by
  obtain ⟨h1, h2⟩ := h
  match zs, h1, h2 with
  | [z, y], _, h2 => rw [VRep.p_eq (h2 0 _ z rfl rfl), VRep.p_eq (h2 1 _ y rfl rfl)]
def digs : List UInt8 := [48, 49, 50, 51, 52, 53, 54, 55, 56, 57]
theorem am_Trim (str : ByteArray) (hs : str.size ≤ 9223372036854775807) : Fn Tryz.prog 35 [.s str, .s ⟨#[48, 49, 50, 51, 52, 53, 54, 55, 56, 57]⟩] (fun v => v = .s ⟨(Lib.trimS str.data.toList digs).toArray⟩) :=
  Fn.ofCalls (fun w => trim_call str w hs) (fun _ _ _ _ h => reps_s2 h) (fun _ _ _ => .d _ _ (.p _)) (by simp [V.pure, V.has, V.hasL])
theorem am_Atoi (str : ByteArray) (n : Int) (hl : str.size ≤ 18) (h : Lib.atoi str.data.toList = some n) : Fn Tryz.prog 34 [.s str] (fun v => v = .tup [.i n, .d (.p .nilIface)]) :=
  Fn.ofCalls (xs := [.string str]) (y := .tuple #[.int .i64 n, .nilIface]) (fun w => (atoi_call str n hl h w).mono fun e w' ⟨he, t, hw⟩ => ⟨he, by rw [hw]; exact Lib.bytesWorld_below _ _ _⟩) (fun _ _ _ _ h => reps_s1 h) (fun _ _ _ => .tup _ _ rfl fun j u z hu hz => by
    match j, hu with
    | 0, hu => simp at hu hz; subst hu hz; exact .d _ _ (.p _)
    | 1, hu => simp at hu hz; subst hu hz; exact .d _ _ (.p _)
    | j + 2, hu => simp at hu) (by simp [V.pure, V.has, V.hasL])
end Go.Proofs.YtkikceoccmoanaaGreatDoor
namespace Go.Proofs.YtkikceoccmoanaaGreatDoor
open Go.RowKit
set_option linter.unusedSimpArgs false
set_option linter.unusedVariables false
set_option maxRecDepth 100000

theorem digs_has (b : UInt8) : digs.contains b = true ↔ (48 ≤ b.toNat ∧ b.toNat ≤ 57) := by
 simp only [digs, List.contains_cons, List.contains_nil, Bool.or_false, Bool.or_eq_true, beq_iff_eq, ← UInt8.toNat_inj]
 simp only [UInt8.reduceToNat]
 omega
theorem dw_idem {α : Type} (p : α → Bool) : ∀ l : List α, (l.dropWhile p).dropWhile p = l.dropWhile p
 | [] => rfl
 | a :: l => by
  by_cases h : p a = true
  ·rw [List.dropWhile_cons_of_pos h]; exact dw_idem p l
  ·rw [List.dropWhile_cons_of_neg h, List.dropWhile_cons_of_neg h]
theorem dw_nil {α : Type} (p : α → Bool) : ∀ l : List α, l.dropWhile p = [] ↔ ∀ x ∈ l, p x = true
 | [] => by simp
 | a :: l => by
  by_cases h : p a = true
  ·rw [List.dropWhile_cons_of_pos h, dw_nil p l]; simp [h]
  ·rw [List.dropWhile_cons_of_neg h]; simp [h]
theorem trim_nil (l cs : List UInt8) : Lib.trimS l cs = [] ↔ ∀ x ∈ l, cs.contains x = true := by
 unfold Lib.trimS Lib.trimLeftS Lib.trimRightS
 rw [dw_nil]
 constructor
 ·intro h
  have h1 : ∀ x ∈ l.reverse.dropWhile (cs.contains ·), cs.contains x = true := fun x hx => h x (by simpa using hx)
  have h2 := (dw_nil (cs.contains ·) _).2 h1
  rw [dw_idem] at h2
  have h3 := (dw_nil (cs.contains ·) _).1 h2
  exact fun x hx => h3 x (by simpa using hx)
 ·intro h x hx
  have h1 := (dw_nil (cs.contains ·) l.reverse).2 (fun x hx => h x (by simpa using hx))
  rw [h1] at hx
  simp at hx
theorem dec_all : ∀ (l : List UInt8) (acc : Nat), (∀ x ∈ l, 48 ≤ x.toNat ∧ x.toNat ≤ 57) → ∃ v, Lib.decFrom acc l = some v
 | [], acc, _ => ⟨acc, rfl⟩
 | b :: l, acc, h => by
  rw [Lib.decFrom, digit_some (h b (by simp))]
  exact dec_all l _ fun x hx => h x (by simp [hx])
theorem atoi_of {l : List UInt8} {v : Nat} (hne : l ≠ []) (h : ∀ x ∈ l, 48 ≤ x.toNat ∧ x.toNat ≤ 57) (hv : Lib.decFrom 0 l = some v) : Lib.atoi l = some (v : Int) := by
 match l, hne with
 | b :: r, _ =>
  have hb := h b (by simp)
  have h1 : (b == 45) = false := by rw [beq_eq_false_iff_ne]; rintro rfl; simp at hb
  have h2 : (b == 43) = false := by rw [beq_eq_false_iff_ne]; rintro rfl; simp at hb
  simp [Lib.atoi, h1, h2, Lib.decNat, hv]
def infL : List UInt8 := [105, 110, 102]
def rdX (l : List UInt8) : Int := if l = infL then 1000000001 else if numR l = -1 ∨ numR l = -2 ∨ 1000000000 < numR l then 0 else numR l
def rdE (l : List UInt8) : Int := if l = infL then 0 else if numR l = -1 then 1 else if numR l = -2 then 3 else if 1000000000 < numR l then 4 else 0
theorem ba_of {a : ByteArray} {l : List UInt8} (h : a.data.toList = l) : a = ⟨l.toArray⟩ := by
 cases a with | mk d => simp only at h; subst h; simp
theorem am_refRead (str : ByteArray) (l : List UInt8) (hl : str.data.toList = l) : Fn Tryz.prog 12 [.s str] (fun v => v = .tup [.i (rdX l), .i (rdE l)]) := by
 have hnum := am_Number str l hl
 obtain ⟨r, hr⟩ : ∃ r, numR l = r := ⟨_, rfl⟩
 by_cases hi : l = infL
 ·have hs : str = ⟨#[105, 110, 102]⟩ := by rw [ba_of hl, hi]; rfl
  have h1 : rdX l = 1000000001 := by unfold rdX; rw [if_pos hi]
  have h2 : rdE l = 0 := by unfold rdE; rw [if_pos hi]
  rw [h1, h2]
  refine Fn.intro (n := 16) ⟨Tryz.func12, rfl, rfl, rfl, rfl⟩ (by simp [V.pure, V.has, V.hasL]) (by simp) fun w0 out => ?_
  refine AW.seq ?_
  refine AW.region ?_
  refine AL.rp rfl rfl (rp_assign rfl rfl) ?_
  refine AL.rp rfl rfl (rp_assign rfl rfl) ?_
  refine AL.nil ?_
  try simp only [thenS, S.put, enum, List.nil_append, List.cons_append, List.append_nil, Nat.zero_add, Nat.reduceAdd]
  refine AW.seq ?_
  refine AW.seq ?_
  refine AW.region ?_
  refine AL.rp rfl rfl (rp_move rfl rfl) ?_
  (first | (refine AL.rp rfl rfl (rp_eqlsT rfl rfl rfl (by assumption)) ?_) | (refine AL.rp rfl rfl (rp_eqlsF rfl rfl rfl (by assumption)) ?_) | (refine AL.rp rfl rfl (rp_eqls rfl rfl rfl) ?_))
  refine AL.nil ?_
  try simp only [thenS, S.put]
  refine AW.condT rfl ?_
  refine AW.seq ?_
  refine AW.region ?_
  refine AL.rp rfl rfl (rp_assign rfl rfl) ?_
  refine AL.rp rfl rfl (rp_assign rfl rfl) ?_
  refine AL.nil ?_
  try simp only [thenS, S.put]
  refine AW.ret ?_
  exact ⟨[_, _], ⟨rfl, rfl, trivial⟩, rfl, by simp [tupOf, V.pure, V.has, V.hasL]⟩
 ·have hs : str.data.toList ≠ (⟨#[105, 110, 102]⟩ : ByteArray).data.toList := by rw [hl]; exact hi
  have h1 : rdX l = if r = -1 ∨ r = -2 ∨ 1000000000 < r then 0 else r := by unfold rdX; rw [if_neg hi, hr]
  have h2 : rdE l = if r = -1 then 1 else if r = -2 then 3 else if 1000000000 < r then 4 else 0 := by unfold rdE; rw [if_neg hi, hr]
  rw [h1, h2]
  rw [hr] at hnum
  by_cases hA : r = -1
  ·rw [if_pos (.inl hA), if_pos hA]
   refine Fn.intro (n := 16) ⟨Tryz.func12, rfl, rfl, rfl, rfl⟩ (by simp [V.pure, V.has, V.hasL]) (by simp) fun w0 out => ?_
   refine AW.seq ?_
   refine AW.region ?_
   refine AL.rp rfl rfl (rp_assign rfl rfl) ?_
   refine AL.rp rfl rfl (rp_assign rfl rfl) ?_
   refine AL.nil ?_
   try simp only [thenS, S.put, enum, List.nil_append, List.cons_append, List.append_nil, Nat.zero_add, Nat.reduceAdd]
   refine AW.seq ?_
   refine AW.seq ?_
   refine AW.region ?_
   refine AL.rp rfl rfl (rp_move rfl rfl) ?_
   (first | (refine AL.rp rfl rfl (rp_eqlsT rfl rfl rfl (by assumption)) ?_) | (refine AL.rp rfl rfl (rp_eqlsF rfl rfl rfl (by assumption)) ?_) | (refine AL.rp rfl rfl (rp_eqls rfl rfl rfl) ?_))
   refine AL.nil ?_
   try simp only [thenS, S.put]
   refine AW.condF rfl ?_
   refine AW.skip ?_
   try simp only [thenS]
   refine AW.seq ?_
   refine AW.region ?_
   refine AL.rp rfl rfl (rp_move rfl rfl) ?_
   refine AL.call (post := ?pc71) rfl (sm_call (args := [_, _]) ?hc71 ⟨Tryz.func11, rfl, rfl, rfl, rfl⟩ rfl rfl rfl rfl) ?_
   case hc71 => exact hnum
   rintro _ rfl -
   try dsimp only
   refine AL.rp rfl rfl (rp_assign rfl rfl) ?_
   refine AL.nil ?_
   try simp only [thenS, S.put, S.newObj, setL, V.cs, List.length_cons, List.length_nil, List.take_succ_cons, List.take_zero, List.drop_succ_cons, List.drop_zero, List.drop_nil, List.nil_append, List.cons_append, List.append_nil, Nat.zero_add, Nat.reduceAdd, List.map_cons, List.map_nil, List.set_cons_zero, List.set_cons_succ]
   refine AW.seq ?_
   refine AW.seq ?_
   refine AW.region ?_
   refine AL.rp rfl rfl (rp_move rfl rfl) ?_
   (first | (refine AL.rp rfl rfl (rp_eqlT rfl rfl rfl (by first | assumption | omega | (dsimp only; omega))) ?_) | (refine AL.rp rfl rfl (rp_eqlF rfl rfl rfl (by first | assumption | omega | (dsimp only; omega))) ?_) | (refine AL.rp rfl rfl (rp_eql rfl rfl rfl) ?_))
   refine AL.nil ?_
   try simp only [thenS, S.put]
   refine AW.condT rfl ?_
   refine AW.seq ?_
   refine AW.region ?_
   refine AL.rp rfl rfl (rp_assign rfl rfl) ?_
   refine AL.rp rfl rfl (rp_assign rfl rfl) ?_
   refine AL.nil ?_
   try simp only [thenS, S.put]
   refine AW.ret ?_
   exact ⟨[_, _], ⟨rfl, rfl, trivial⟩, rfl, by simp [tupOf, V.pure, V.has, V.hasL]⟩
  ·by_cases hB : r = -2
   ·rw [if_pos (.inr (.inl hB)), if_neg hA, if_pos hB]
    refine Fn.intro (n := 16) ⟨Tryz.func12, rfl, rfl, rfl, rfl⟩ (by simp [V.pure, V.has, V.hasL]) (by simp) fun w0 out => ?_
    refine AW.seq ?_
    refine AW.region ?_
    refine AL.rp rfl rfl (rp_assign rfl rfl) ?_
    refine AL.rp rfl rfl (rp_assign rfl rfl) ?_
    refine AL.nil ?_
    try simp only [thenS, S.put, enum, List.nil_append, List.cons_append, List.append_nil, Nat.zero_add, Nat.reduceAdd]
    refine AW.seq ?_
    refine AW.seq ?_
    refine AW.region ?_
    refine AL.rp rfl rfl (rp_move rfl rfl) ?_
    (first | (refine AL.rp rfl rfl (rp_eqlsT rfl rfl rfl (by assumption)) ?_) | (refine AL.rp rfl rfl (rp_eqlsF rfl rfl rfl (by assumption)) ?_) | (refine AL.rp rfl rfl (rp_eqls rfl rfl rfl) ?_))
    refine AL.nil ?_
    try simp only [thenS, S.put]
    refine AW.condF rfl ?_
    refine AW.skip ?_
    try simp only [thenS]
    refine AW.seq ?_
    refine AW.region ?_
    refine AL.rp rfl rfl (rp_move rfl rfl) ?_
    refine AL.call (post := ?pc72) rfl (sm_call (args := [_, _]) ?hc72 ⟨Tryz.func11, rfl, rfl, rfl, rfl⟩ rfl rfl rfl rfl) ?_
    case hc72 => exact hnum
    rintro _ rfl -
    try dsimp only
    refine AL.rp rfl rfl (rp_assign rfl rfl) ?_
    refine AL.nil ?_
    try simp only [thenS, S.put, S.newObj, setL, V.cs, List.length_cons, List.length_nil, List.take_succ_cons, List.take_zero, List.drop_succ_cons, List.drop_zero, List.drop_nil, List.nil_append, List.cons_append, List.append_nil, Nat.zero_add, Nat.reduceAdd, List.map_cons, List.map_nil, List.set_cons_zero, List.set_cons_succ]
    refine AW.seq ?_
    refine AW.seq ?_
    refine AW.region ?_
    refine AL.rp rfl rfl (rp_move rfl rfl) ?_
    (first | (refine AL.rp rfl rfl (rp_eqlT rfl rfl rfl (by first | assumption | omega | (dsimp only; omega))) ?_) | (refine AL.rp rfl rfl (rp_eqlF rfl rfl rfl (by first | assumption | omega | (dsimp only; omega))) ?_) | (refine AL.rp rfl rfl (rp_eql rfl rfl rfl) ?_))
    refine AL.nil ?_
    try simp only [thenS, S.put]
    refine AW.condF rfl ?_
    refine AW.skip ?_
    try simp only [thenS]
    refine AW.seq ?_
    refine AW.seq ?_
    refine AW.region ?_
    refine AL.rp rfl rfl (rp_move rfl rfl) ?_
    (first | (refine AL.rp rfl rfl (rp_eqlT rfl rfl rfl (by first | assumption | omega | (dsimp only; omega))) ?_) | (refine AL.rp rfl rfl (rp_eqlF rfl rfl rfl (by first | assumption | omega | (dsimp only; omega))) ?_) | (refine AL.rp rfl rfl (rp_eql rfl rfl rfl) ?_))
    refine AL.nil ?_
    try simp only [thenS, S.put]
    refine AW.condT rfl ?_
    refine AW.seq ?_
    refine AW.region ?_
    refine AL.rp rfl rfl (rp_assign rfl rfl) ?_
    refine AL.rp rfl rfl (rp_assign rfl rfl) ?_
    refine AL.nil ?_
    try simp only [thenS, S.put]
    refine AW.ret ?_
    exact ⟨[_, _], ⟨rfl, rfl, trivial⟩, rfl, by simp [tupOf, V.pure, V.has, V.hasL]⟩
   ·by_cases hC : 1000000000 < r
    ·rw [if_pos (.inr (.inr hC)), if_neg hA, if_neg hB, if_pos hC]
     refine Fn.intro (n := 16) ⟨Tryz.func12, rfl, rfl, rfl, rfl⟩ (by simp [V.pure, V.has, V.hasL]) (by simp) fun w0 out => ?_
     refine AW.seq ?_
     refine AW.region ?_
     refine AL.rp rfl rfl (rp_assign rfl rfl) ?_
     refine AL.rp rfl rfl (rp_assign rfl rfl) ?_
     refine AL.nil ?_
     try simp only [thenS, S.put, enum, List.nil_append, List.cons_append, List.append_nil, Nat.zero_add, Nat.reduceAdd]
     refine AW.seq ?_
     refine AW.seq ?_
     refine AW.region ?_
     refine AL.rp rfl rfl (rp_move rfl rfl) ?_
     (first | (refine AL.rp rfl rfl (rp_eqlsT rfl rfl rfl (by assumption)) ?_) | (refine AL.rp rfl rfl (rp_eqlsF rfl rfl rfl (by assumption)) ?_) | (refine AL.rp rfl rfl (rp_eqls rfl rfl rfl) ?_))
     refine AL.nil ?_
     try simp only [thenS, S.put]
     refine AW.condF rfl ?_
     refine AW.skip ?_
     try simp only [thenS]
     refine AW.seq ?_
     refine AW.region ?_
     refine AL.rp rfl rfl (rp_move rfl rfl) ?_
     refine AL.call (post := ?pc73) rfl (sm_call (args := [_, _]) ?hc73 ⟨Tryz.func11, rfl, rfl, rfl, rfl⟩ rfl rfl rfl rfl) ?_
     case hc73 => exact hnum
     rintro _ rfl -
     try dsimp only
     refine AL.rp rfl rfl (rp_assign rfl rfl) ?_
     refine AL.nil ?_
     try simp only [thenS, S.put, S.newObj, setL, V.cs, List.length_cons, List.length_nil, List.take_succ_cons, List.take_zero, List.drop_succ_cons, List.drop_zero, List.drop_nil, List.nil_append, List.cons_append, List.append_nil, Nat.zero_add, Nat.reduceAdd, List.map_cons, List.map_nil, List.set_cons_zero, List.set_cons_succ]
     refine AW.seq ?_
     refine AW.seq ?_
     refine AW.region ?_
     refine AL.rp rfl rfl (rp_move rfl rfl) ?_
     (first | (refine AL.rp rfl rfl (rp_eqlT rfl rfl rfl (by first | assumption | omega | (dsimp only; omega))) ?_) | (refine AL.rp rfl rfl (rp_eqlF rfl rfl rfl (by first | assumption | omega | (dsimp only; omega))) ?_) | (refine AL.rp rfl rfl (rp_eql rfl rfl rfl) ?_))
     refine AL.nil ?_
     try simp only [thenS, S.put]
     refine AW.condF rfl ?_
     refine AW.skip ?_
     try simp only [thenS]
     refine AW.seq ?_
     refine AW.seq ?_
     refine AW.region ?_
     refine AL.rp rfl rfl (rp_move rfl rfl) ?_
     (first | (refine AL.rp rfl rfl (rp_eqlT rfl rfl rfl (by first | assumption | omega | (dsimp only; omega))) ?_) | (refine AL.rp rfl rfl (rp_eqlF rfl rfl rfl (by first | assumption | omega | (dsimp only; omega))) ?_) | (refine AL.rp rfl rfl (rp_eql rfl rfl rfl) ?_))
     refine AL.nil ?_
     try simp only [thenS, S.put]
     refine AW.condF rfl ?_
     refine AW.skip ?_
     try simp only [thenS]
     refine AW.seq ?_
     refine AW.seq ?_
     refine AW.region ?_
     refine AL.rp rfl rfl (rp_move rfl rfl) ?_
     (first | (refine AL.rp rfl rfl (rp_gtrT rfl rfl rfl (by first | assumption | omega | (dsimp only; omega))) ?_) | (refine AL.rp rfl rfl (rp_gtrF rfl rfl rfl (by first | assumption | omega | (dsimp only; omega))) ?_) | (refine AL.rp rfl rfl (rp_gtr rfl rfl rfl) ?_))
     refine AL.nil ?_
     try simp only [thenS, S.put]
     refine AW.condT rfl ?_
     refine AW.seq ?_
     refine AW.region ?_
     refine AL.rp rfl rfl (rp_assign rfl rfl) ?_
     refine AL.rp rfl rfl (rp_assign rfl rfl) ?_
     refine AL.nil ?_
     try simp only [thenS, S.put]
     refine AW.ret ?_
     exact ⟨[_, _], ⟨rfl, rfl, trivial⟩, rfl, by simp [tupOf, V.pure, V.has, V.hasL]⟩
    ·rw [if_neg (by omega), if_neg hA, if_neg hB, if_neg hC]
     refine Fn.intro (n := 16) ⟨Tryz.func12, rfl, rfl, rfl, rfl⟩ (by simp [V.pure, V.has, V.hasL]) (by simp) fun w0 out => ?_
     refine AW.seq ?_
     refine AW.region ?_
     refine AL.rp rfl rfl (rp_assign rfl rfl) ?_
     refine AL.rp rfl rfl (rp_assign rfl rfl) ?_
     refine AL.nil ?_
     try simp only [thenS, S.put, enum, List.nil_append, List.cons_append, List.append_nil, Nat.zero_add, Nat.reduceAdd]
     refine AW.seq ?_
     refine AW.seq ?_
     refine AW.region ?_
     refine AL.rp rfl rfl (rp_move rfl rfl) ?_
     (first | (refine AL.rp rfl rfl (rp_eqlsT rfl rfl rfl (by assumption)) ?_) | (refine AL.rp rfl rfl (rp_eqlsF rfl rfl rfl (by assumption)) ?_) | (refine AL.rp rfl rfl (rp_eqls rfl rfl rfl) ?_))
     refine AL.nil ?_
     try simp only [thenS, S.put]
     refine AW.condF rfl ?_
     refine AW.skip ?_
     try simp only [thenS]
     refine AW.seq ?_
     refine AW.region ?_
     refine AL.rp rfl rfl (rp_move rfl rfl) ?_
     refine AL.call (post := ?pc74) rfl (sm_call (args := [_, _]) ?hc74 ⟨Tryz.func11, rfl, rfl, rfl, rfl⟩ rfl rfl rfl rfl) ?_
     case hc74 => exact hnum
     rintro _ rfl -
     try dsimp only
     refine AL.rp rfl rfl (rp_assign rfl rfl) ?_
     refine AL.nil ?_
     try simp only [thenS, S.put, S.newObj, setL, V.cs, List.length_cons, List.length_nil, List.take_succ_cons, List.take_zero, List.drop_succ_cons, List.drop_zero, List.drop_nil, List.nil_append, List.cons_append, List.append_nil, Nat.zero_add, Nat.reduceAdd, List.map_cons, List.map_nil, List.set_cons_zero, List.set_cons_succ]
     refine AW.seq ?_
     refine AW.seq ?_
     refine AW.region ?_
     refine AL.rp rfl rfl (rp_move rfl rfl) ?_
     (first | (refine AL.rp rfl rfl (rp_eqlT rfl rfl rfl (by first | assumption | omega | (dsimp only; omega))) ?_) | (refine AL.rp rfl rfl (rp_eqlF rfl rfl rfl (by first | assumption | omega | (dsimp only; omega))) ?_) | (refine AL.rp rfl rfl (rp_eql rfl rfl rfl) ?_))
     refine AL.nil ?_
     try simp only [thenS, S.put]
     refine AW.condF rfl ?_
     refine AW.skip ?_
     try simp only [thenS]
     refine AW.seq ?_
     refine AW.seq ?_
     refine AW.region ?_
     refine AL.rp rfl rfl (rp_move rfl rfl) ?_
     (first | (refine AL.rp rfl rfl (rp_eqlT rfl rfl rfl (by first | assumption | omega | (dsimp only; omega))) ?_) | (refine AL.rp rfl rfl (rp_eqlF rfl rfl rfl (by first | assumption | omega | (dsimp only; omega))) ?_) | (refine AL.rp rfl rfl (rp_eql rfl rfl rfl) ?_))
     refine AL.nil ?_
     try simp only [thenS, S.put]
     refine AW.condF rfl ?_
     refine AW.skip ?_
     try simp only [thenS]
     refine AW.seq ?_
     refine AW.seq ?_
     refine AW.region ?_
     refine AL.rp rfl rfl (rp_move rfl rfl) ?_
     (first | (refine AL.rp rfl rfl (rp_gtrT rfl rfl rfl (by first | assumption | omega | (dsimp only; omega))) ?_) | (refine AL.rp rfl rfl (rp_gtrF rfl rfl rfl (by first | assumption | omega | (dsimp only; omega))) ?_) | (refine AL.rp rfl rfl (rp_gtr rfl rfl rfl) ?_))
     refine AL.nil ?_
     try simp only [thenS, S.put]
     refine AW.condF rfl ?_
     refine AW.skip ?_
     try simp only [thenS]
     refine AW.seq ?_
     refine AW.region ?_
     refine AL.rp rfl rfl (rp_move rfl rfl) ?_
     refine AL.rp rfl rfl (rp_assign rfl rfl) ?_
     refine AL.rp rfl rfl (rp_assign rfl rfl) ?_
     refine AL.nil ?_
     try simp only [thenS, S.put]
     refine AW.ret ?_
     exact ⟨[_, _], ⟨rfl, rfl, trivial⟩, rfl, by simp [tupOf, V.pure, V.has, V.hasL]⟩
end Go.Proofs.YtkikceoccmoanaaGreatDoor
namespace Go.Proofs.YtkikceoccmoanaaGreatDoor
open Go.RowKit
set_option linter.unusedSimpArgs false
set_option linter.unusedVariables false

def wSt : List UInt8 := [115, 116, 97, 114, 116]
def wSa : List UInt8 := [115, 116, 97, 116, 101]
def wAr : List UInt8 := [97, 114, 99]
def dg (n : Int) : List UInt8 := Lib.decDigits n.toNat
/-- The words of a machine's lines. -/
def hW (st : Int) : List (List UInt8) := [wSt, if 0 ≤ st then dg st else [45]]
def sW (x : St) : List (List UInt8) := [wSa, (shS x.fin).data.toList]
def aW (a : Ar) : List (List UInt8) := [wAr, dg a.t, dg a.i, dg a.o, dg a.w]
def tW (x : St) : List (List (List UInt8)) := sW x :: x.arcs.map aW
def pW (m : Mach) : List (List (List UInt8)) := hW m.start :: m.states.flatMap tW
theorem joinL_app (c : UInt8) (l l' : List (List UInt8)) : joinL c (l ++ l') = joinL c l ++ joinL c l' := by simp [joinL]
theorem joinL_cons (c : UInt8) (u : List UInt8) (l : List (List UInt8)) : joinL c (u :: l) = u ++ [c] ++ joinL c l := by simp [joinL]
theorem papA_bytes (s : ByteArray) (a : Ar) : (papA s a).data.toList = s.data.toList ++ (glue (aW a) ++ [10]) := by
  unfold papA aW dg decS sSP sLF wAr
  simp [ByteArray.data_append, glue]
theorem arcs_bytes : ∀ (l : List Ar) (s : ByteArray), (l.foldl papA s).data.toList = s.data.toList ++ joinL 10 ((l.map aW).map glue)
  | [], s => by simp [joinL]
  | a :: l, s => by
    rw [List.foldl_cons, arcs_bytes l, papA_bytes, List.map_cons, List.map_cons, joinL_cons]
    simp
theorem papS_bytes (s : ByteArray) (x : St) : (papS s x).data.toList = s.data.toList ++ joinL 10 ((tW x).map glue) := by
  unfold papS tW
  rw [arcs_bytes, List.map_cons, joinL_cons]
  unfold sW sLF wSa
  simp [ByteArray.data_append, glue]
theorem sts_bytes : ∀ (l : List St) (s : ByteArray), (l.foldl papS s).data.toList = s.data.toList ++ joinL 10 ((l.flatMap tW).map glue)
  | [], s => by simp [joinL]
  | x :: l, s => by
    rw [List.foldl_cons, sts_bytes l, papS_bytes, List.flatMap_cons, List.map_append, joinL_app, List.append_assoc]
theorem papH_bytes (st : Int) : (papH st).data.toList = glue (hW st) ++ [10] := by
  unfold papH hW wSt
  split
  · simp [ByteArray.data_append, glue, dg, decS, sLF]
  · rfl
theorem papM_bytes {m : Mach} (h0 : machE m = 0) : (papM m).data.toList = joinL 10 ((pW m).map glue) := by
  unfold papM pW
  rw [if_pos h0, sts_bytes, papH_bytes, List.map_cons, joinL_cons]
theorem dg_no (n : Int) : (32 : UInt8) ∉ dg n ∧ (10 : UInt8) ∉ dg n := by
  refine ⟨fun h => ?_, fun h => ?_⟩
  all_goals
    have := digits_byte h
    simp at this
theorem shS_no (x : Int) : (32 : UInt8) ∉ (shS x).data.toList ∧ (10 : UInt8) ∉ (shS x).data.toList := by
  unfold shS
  split
  · split
    · decide
    · exact dg_no x
  · simp
theorem pW_no (m : Mach) : ∀ l ∈ pW m, l ≠ [] ∧ ∀ w ∈ l, (32 : UInt8) ∉ w ∧ (10 : UInt8) ∉ w := by
  have hc : ∀ w ∈ [wSt, wSa, wAr, [45]], (32 : UInt8) ∉ w ∧ (10 : UInt8) ∉ w := by decide
  intro l hl
  unfold pW at hl
  rcases List.mem_cons.1 hl with rfl | hl
  · refine ⟨by simp [hW], fun w hw => ?_⟩
    simp only [hW, List.mem_cons, List.not_mem_nil, or_false] at hw
    rcases hw with rfl | rfl
    · exact hc _ (by simp)
    · split
      · exact dg_no _
      · exact hc _ (by simp)
  · obtain ⟨x, hx, hl⟩ := List.mem_flatMap.1 hl
    unfold tW at hl
    rcases List.mem_cons.1 hl with rfl | hl
    · refine ⟨by simp [sW], fun w hw => ?_⟩
      simp only [sW, List.mem_cons, List.not_mem_nil, or_false] at hw
      rcases hw with rfl | rfl
      · exact hc _ (by simp)
      · exact shS_no _
    · obtain ⟨a, _, rfl⟩ := List.mem_map.1 hl
      refine ⟨by simp [aW], fun w hw => ?_⟩
      simp only [aW, List.mem_cons, List.not_mem_nil, or_false] at hw
      rcases hw with rfl | rfl | rfl | rfl | rfl
      · exact hc _ (by simp)
      all_goals exact dg_no _
theorem pW_prt (m : Mach) : ((pW m).map glue).map prt = pW m := by
  rw [List.map_map]
  refine (List.map_congr_left fun l hl => ?_).trans (List.map_id _)
  obtain ⟨h1, h2⟩ := pW_no m l hl
  exact prt_glue h1 fun w hw => (h2 w hw).1
theorem pW_lf (m : Mach) : ∀ u ∈ (pW m).map glue, (10 : UInt8) ∉ u := fun u hu => by
  obtain ⟨l, hl, rfl⟩ := List.mem_map.1 hu
  exact glue_no (by decide) fun w hw => ((pW_no m l hl).2 w hw).2
theorem glue_prt : ∀ (n : Nat) (u : List UInt8), u.length ≤ n → glue (prt u) = u := by
  intro n
  induction n with
  | zero =>
    intro u h
    obtain rfl : u = [] := List.length_eq_zero_iff.1 (by omega)
    rw [prt_one (by simp)]
    rfl
  | succ n ih =>
    intro u h
    by_cases hm : (32 : UInt8) ∈ u
    · obtain ⟨p, r, rfl, hp⟩ := first_at hm
      rw [prt_cons hp]
      have := ih r (by simp at h; omega)
      obtain ⟨w0, v, hv⟩ := prt_ne r
      rw [hv] at this ⊢
      rw [show glue (p :: w0 :: v) = p ++ 32 :: glue (w0 :: v) from rfl, this]
    · rw [prt_one hm]
      rfl
/-- What numbers takes a word for. -/
def nbr (w : List UInt8) : Int := match Lib.atoiAll w with | .ok v => v | _ => -1
theorem nbr_dg {n : Int} (h0 : 0 ≤ n) (h : n ≤ 1000000000) : nbr (dg n) = n := by
  unfold dg
  obtain ⟨s1, s2, _, s4, s5⟩ := digits_spell n.toNat
  have hl := digits_len 9 n.toNat (by omega)
  unfold nbr
  rw [Lib.atoiAll_short _ (by omega)]
  cases hd : Lib.decDigits n.toNat with
  | nil => exact absurd hd s2
  | cons c r =>
    rw [hd] at s1 s4 s5
    have h45 : c ≠ 45 := fun e => s4 (by rw [e]; rfl)
    have h43 : c ≠ 43 := fun e => s5 (by rw [e]; rfl)
    simp [Lib.atoi, h45, h43, Lib.decNat, s1, Lib.NumEnd.ofOption]
    omega
theorem nbr_dash : nbr [45] = -1 := rfl
def putA (l : List St) (a : Ar) : List St := match l.getLast? with
  | none => []
  | some x => l.dropLast ++ [⟨x.fin, x.arcs ++ [a]⟩]
theorem putA_snoc (l : List St) (x : St) (a : Ar) : putA (l ++ [x]) a = l ++ [⟨x.fin, x.arcs ++ [a]⟩] := by simp [putA]
/-- What the program does with a line's words. -/
def stP (m : Mach) (ws : List (List UInt8)) : Mach :=
  if ws[0]?.getD [] = wSt ∧ ws.length = 2 then ⟨nbr (ws[1]?.getD []), m.states⟩
  else if ws[0]?.getD [] = wSa ∧ ws.length = 2 then ⟨m.start, m.states ++ [⟨rdX (ws[1]?.getD []), []⟩]⟩
  else if ws[0]?.getD [] = wAr ∧ ws.length = 5 ∧ 0 < m.states.length then ⟨m.start, putA m.states ⟨nbr (ws[2]?.getD []), nbr (ws[3]?.getD []), nbr (ws[4]?.getD []), nbr (ws[1]?.getD [])⟩⟩
  else m
def rdM (t : List UInt8) : Mach := (lns t).foldl (fun m ln => stP m (prt (Lib.trimSuffix ln [10]))) ⟨-1, []⟩
theorem numR_dg {n : Int} (h0 : 0 ≤ n) (h : n ≤ 1000000000) : numR (dg n) = n := by
  have := numM_digits (m := 1000000000) (n := n.toNat) (by omega) (Nat.le_refl _)
  have e : numR (dg n) = numM 1000000000 (dg n) := rfl
  rw [e]
  unfold dg
  omega
theorem rdX_shS {x : Int} (h : finOk x = true) : rdX (shS x).data.toList = x ∧ rdE (shS x).data.toList = 0 := by
  simp only [finOk, decide_eq_true_eq] at h
  unfold shS
  rw [if_pos (show shOk x from h)]
  split
  · rename_i e
    subst e
    exact ⟨rfl, rfl⟩
  · have e1 : (decS x.toNat).data.toList = dg x := rfl
    rw [e1]
    have hn := numR_dg h.1 (by omega)
    have hne : dg x ≠ infL := by
      intro e
      have h1 : (105 : UInt8) ∈ dg x := by rw [e]; decide
      have := digits_byte h1
      simp at this
    unfold rdX rdE
    rw [if_neg hne, if_neg hne, hn, if_neg (by omega), if_neg (by omega), if_neg (by omega), if_neg (by omega)]
    exact ⟨rfl, rfl⟩
theorem shS_rdX {q : List UInt8} (h : rdE q = 0) : (shS (rdX q)).data.toList = q ∧ finOk (rdX q) = true := by
  unfold rdE at h
  unfold rdX
  split at h
  · rename_i e
    rw [if_pos e, e]
    exact ⟨rfl, rfl⟩
  · rename_i e
    rw [if_neg e]
    split at h
    · omega
    split at h
    · omega
    split at h
    · omega
    rename_i h1 h2 h3
    rw [if_neg (by omega)]
    have hge : 0 ≤ numR q := by
      unfold numR at h1 h2 ⊢
      split at h1
      · exact absurd rfl h1
      · rename_i h4
        rw [if_neg h4] at h2 ⊢
        split at h2
        · exact absurd rfl h2
        · rename_i h5
          rw [if_neg h5]
          cases hd : Lib.decFrom 0 q with
          | none => rw [hd] at h2; exact absurd rfl h2
          | some n =>
            simp only
            split <;> omega
    have hc := numM_only (m := 1000000000) (q := q) (b := numR q) rfl hge (by omega)
    refine ⟨?_, by simp only [finOk, decide_eq_true_eq]; omega⟩
    unfold shS
    rw [if_pos (show shOk _ from ⟨hge, by omega⟩), if_neg (by omega)]
    exact hc.symm
/-- A machine whose text can be told back. -/
def gd (m : Mach) : Prop := (-1 ≤ m.start ∧ m.start ≤ 60) ∧ ∀ x ∈ m.states, finOk x.fin = true ∧ ∀ a ∈ x.arcs, (0 ≤ a.i ∧ a.i ≤ 1000) ∧ (0 ≤ a.o ∧ a.o ≤ 1000) ∧ (0 ≤ a.w ∧ a.w ≤ 1000000000) ∧ 0 ≤ a.t ∧ a.t ≤ 60
theorem gd_of {m : Mach} (h0 : machE m = 0) : gd m := by
  obtain ⟨h1, _, h2, h3⟩ := machE_zero h0
  refine ⟨by omega, fun x hx => ⟨(h3 x hx).1, fun a ha => ?_⟩⟩
  have := (h3 x hx).2 a ha
  simp only [arOk, decide_eq_true_eq] at this
  omega
theorem stP_h {st : Int} (h : -1 ≤ st ∧ st ≤ 60) (s0 : Int) : stP ⟨s0, []⟩ (hW st) = ⟨st, []⟩ := by
  have hn : nbr (if 0 ≤ st then dg st else [45]) = st := by
    split
    · exact nbr_dg (by omega) (by omega)
    · rw [nbr_dash]; omega
  unfold stP hW
  simp [hn]
theorem stP_s {st : Int} {l : List St} {x : Int} (h : finOk x = true) : stP ⟨st, l⟩ [wSa, (shS x).data.toList] = ⟨st, l ++ [⟨x, []⟩]⟩ := by
  have h1 : ¬ wSa = wSt := by decide
  unfold stP
  simp [h1, (rdX_shS h).1]
theorem stP_a {st : Int} {l : List St} {x : St} {a : Ar} (h : (0 ≤ a.i ∧ a.i ≤ 1000) ∧ (0 ≤ a.o ∧ a.o ≤ 1000) ∧ (0 ≤ a.w ∧ a.w ≤ 1000000000) ∧ 0 ≤ a.t ∧ a.t ≤ 60) : stP ⟨st, l ++ [x]⟩ (aW a) = ⟨st, l ++ [⟨x.fin, x.arcs ++ [a]⟩]⟩ := by
  obtain ⟨⟨i1, i2⟩, ⟨o1, o2⟩, ⟨w1, w2⟩, t1, t2⟩ := h
  have h1 : ¬ wAr = wSt := by decide
  have h2 : ¬ wAr = wSa := by decide
  unfold stP aW
  simp [h1, h2, nbr_dg i1 (by omega), nbr_dg o1 (by omega), nbr_dg w1 w2, nbr_dg t1 (by omega), putA_snoc]
theorem foldP_arcs {st : Int} {l : List St} {f : Int} : ∀ (xs done : List Ar), (∀ a ∈ xs, (0 ≤ a.i ∧ a.i ≤ 1000) ∧ (0 ≤ a.o ∧ a.o ≤ 1000) ∧ (0 ≤ a.w ∧ a.w ≤ 1000000000) ∧ 0 ≤ a.t ∧ a.t ≤ 60) → (xs.map aW).foldl stP ⟨st, l ++ [⟨f, done⟩]⟩ = ⟨st, l ++ [⟨f, done ++ xs⟩]⟩
  | [], done, _ => by simp
  | a :: xs, done, h => by
    rw [List.map_cons, List.foldl_cons, stP_a (h a List.mem_cons_self), foldP_arcs xs (done ++ [a]) fun b hb => h b (List.mem_cons_of_mem _ hb)]
    simp
theorem foldP_sts {st : Int} : ∀ (l done : List St), (∀ x ∈ l, finOk x.fin = true ∧ ∀ a ∈ x.arcs, (0 ≤ a.i ∧ a.i ≤ 1000) ∧ (0 ≤ a.o ∧ a.o ≤ 1000) ∧ (0 ≤ a.w ∧ a.w ≤ 1000000000) ∧ 0 ≤ a.t ∧ a.t ≤ 60) → (l.flatMap tW).foldl stP ⟨st, done⟩ = ⟨st, done ++ l⟩
  | [], done, _ => by simp
  | x :: l, done, h => by
    obtain ⟨h1, h2⟩ := h x List.mem_cons_self
    rw [List.flatMap_cons, List.foldl_append]
    rw [show tW x = [wSa, (shS x.fin).data.toList] :: x.arcs.map aW from rfl, List.foldl_cons, stP_s h1, foldP_arcs x.arcs [] h2, List.nil_append]
    have := foldP_sts (st := st) l (done ++ [x]) fun y hy => h y (List.mem_cons_of_mem _ hy)
    rw [List.append_assoc] at this
    exact this
theorem text_pap {m : Mach} {t : List UInt8} (h0 : machE m = 0) (h : papM m = bs t) : t = joinL 10 ((pW m).map glue) := by
  rw [← papM_bytes h0, h, bs_list]
theorem foldl_lines : ∀ (l : List (List UInt8)) (m : Mach), (l.map (· ++ [10])).foldl (fun m ln => stP m (prt (Lib.trimSuffix ln [10]))) m = (l.map prt).foldl stP m
  | [], _ => rfl
  | u :: l, m => by
    rw [List.map_cons, List.map_cons, List.foldl_cons, List.foldl_cons, trim_at, foldl_lines l]
/-- The program reads back what is shown .. -/
theorem rdM_of {m : Mach} {t : List UInt8} (h0 : machE m = 0) (h : papM m = bs t) : rdM t = m := by
  obtain ⟨g1, g2⟩ := gd_of h0
  unfold rdM
  rw [text_pap h0 h, lns_join (pW_lf m), foldl_lines, pW_prt]
  obtain ⟨st, sts⟩ := m
  unfold pW
  rw [List.foldl_cons, stP_h g1, foldP_sts sts [] g2]
  rfl
/-- What the document does with line i's words. -/
def lnA (i : Nat) (m : Mach) (p : List (List UInt8)) : Option Mach :=
  if i = 0 then
    (if p.length = 2 ∧ p[0]?.getD [] = wSt then
      (if p[1]?.getD [] = [45] then some ⟨-1, m.states⟩ else if numM 60 (p[1]?.getD []) < 0 then none else some ⟨numM 60 (p[1]?.getD []), m.states⟩)
    else none)
  else if p[0]?.getD [] = wSa ∧ p.length = 2 then (if rdE (p[1]?.getD []) = 0 then some ⟨m.start, m.states ++ [⟨rdX (p[1]?.getD []), []⟩]⟩ else none)
  else if p[0]?.getD [] = wAr ∧ p.length = 5 ∧ m.states.length ≠ 0 then
    (if numM 60 (p[1]?.getD []) < 0 ∨ numM 1000 (p[2]?.getD []) < 0 ∨ numM 1000 (p[3]?.getD []) < 0 ∨ numM 1000000000 (p[4]?.getD []) < 0 then none
    else some ⟨m.start, putA m.states ⟨numM 1000 (p[2]?.getD []), numM 1000 (p[3]?.getD []), numM 1000000000 (p[4]?.getD []), numM 60 (p[1]?.getD [])⟩⟩)
  else none
def mR (L : List (List UInt8)) : Nat → Option Mach
  | 0 => some ⟨0, []⟩
  | i + 1 => (mR L i).bind fun m => lnA i m (prt (L[i]?.getD []))
def stepsR : Nat → Mach → List (List (List UInt8)) → Option Mach
  | _, m, [] => some m
  | i, m, p :: r => (lnA i m p).bind fun m' => stepsR (i + 1) m' r
theorem mR_steps {L : List (List UInt8)} : ∀ (P : List (List (List UInt8))) (k : Nat) (m m' : Mach), mR L k = some m → (L.drop k).map prt = P → stepsR k m P = some m' → mR L (k + P.length) = some m'
  | [], k, m, m', h1, _, h3 => by
    simp only [stepsR, Option.some.injEq] at h3
    subst h3
    exact h1
  | p :: P, k, m, m', h1, h2, h3 => by
    have hlt : k < L.length := by
      refine Classical.byContradiction fun hn => ?_
      rw [List.drop_eq_nil_of_le (by omega)] at h2
      cases h2
    rw [List.drop_eq_getElem_cons hlt, List.map_cons, List.cons.injEq] at h2
    obtain ⟨h4, h5⟩ := h2
    simp only [stepsR] at h3
    cases hs : lnA k m p with
    | none => rw [hs] at h3; cases h3
    | some m1 =>
      rw [hs] at h3
      have h6 : mR L (k + 1) = some m1 := by
        show (mR L k).bind _ = _
        rw [h1, Option.bind_some, List.getElem?_eq_getElem hlt, Option.getD_some, h4]
        exact hs
      have := mR_steps P (k + 1) m1 m' h6 h5 h3
      rw [List.length_cons, show k + (P.length + 1) = k + 1 + P.length by omega]
      exact this
theorem numM_dg {m : Nat} {n : Int} (h0 : 0 ≤ n) (h : n ≤ m) (hm : m ≤ 1000000000) : numM m (dg n) = n := by
  have := numM_digits (m := m) (n := n.toNat) (by omega) hm
  unfold dg
  omega
theorem lnA_h {st : Int} (h : -1 ≤ st ∧ st ≤ 60) (s0 : Int) : lnA 0 ⟨s0, []⟩ (hW st) = some ⟨st, []⟩ := by
  unfold lnA hW
  by_cases h0 : 0 ≤ st
  · have hn := numM_dg (m := 60) h0 (by omega) (by omega)
    have hne : dg st ≠ [45] := by
      intro e
      have h1 : (45 : UInt8) ∈ dg st := by rw [e]; decide
      have := digits_byte h1
      simp at this
    have hnn : ¬ st < 0 := by omega
    simp [h0, hne, hn, hnn]
  · obtain rfl : st = -1 := by omega
    rfl
theorem lnA_s {st : Int} {l : List St} {x : Int} {i : Nat} (hi : i ≠ 0) (h : finOk x = true) : lnA i ⟨st, l⟩ [wSa, (shS x).data.toList] = some ⟨st, l ++ [⟨x, []⟩]⟩ := by
  unfold lnA
  simp [hi, (rdX_shS h).1, (rdX_shS h).2]
theorem lnA_a {st : Int} {l : List St} {x : St} {a : Ar} {i : Nat} (hi : i ≠ 0) (h : (0 ≤ a.i ∧ a.i ≤ 1000) ∧ (0 ≤ a.o ∧ a.o ≤ 1000) ∧ (0 ≤ a.w ∧ a.w ≤ 1000000000) ∧ 0 ≤ a.t ∧ a.t ≤ 60) : lnA i ⟨st, l ++ [x]⟩ (aW a) = some ⟨st, l ++ [⟨x.fin, x.arcs ++ [a]⟩]⟩ := by
  obtain ⟨⟨i1, i2⟩, ⟨o1, o2⟩, ⟨w1, w2⟩, t1, t2⟩ := h
  have h2 : ¬ wAr = wSa := by decide
  have n1 := numM_dg (m := 1000) i1 (by omega) (by omega)
  have n2 := numM_dg (m := 1000) o1 (by omega) (by omega)
  have n3 := numM_dg (m := 1000000000) w1 (by omega) (by omega)
  have n4 := numM_dg (m := 60) t1 (by omega) (by omega)
  have z1 : ¬ a.i < 0 := by omega
  have z2 : ¬ a.o < 0 := by omega
  have z3 : ¬ a.w < 0 := by omega
  have z4 : ¬ a.t < 0 := by omega
  unfold lnA aW
  simp [hi, h2, n1, n2, n3, n4, z1, z2, z3, z4, putA_snoc]
theorem stepsR_arcs {st : Int} {l : List St} {f : Int} {r : List (List (List UInt8))} : ∀ (xs done : List Ar) (i : Nat), i ≠ 0 → (∀ a ∈ xs, (0 ≤ a.i ∧ a.i ≤ 1000) ∧ (0 ≤ a.o ∧ a.o ≤ 1000) ∧ (0 ≤ a.w ∧ a.w ≤ 1000000000) ∧ 0 ≤ a.t ∧ a.t ≤ 60) → stepsR i ⟨st, l ++ [⟨f, done⟩]⟩ (xs.map aW ++ r) = stepsR (i + xs.length) ⟨st, l ++ [⟨f, done ++ xs⟩]⟩ r
  | [], done, i, _, _ => by simp
  | a :: xs, done, i, hi, h => by
    rw [List.map_cons, List.cons_append, stepsR, lnA_a hi (h a List.mem_cons_self), Option.bind_some, stepsR_arcs xs (done ++ [a]) (i + 1) (by omega) fun b hb => h b (List.mem_cons_of_mem _ hb), List.length_cons, show i + 1 + xs.length = i + (xs.length + 1) by omega]
    simp
theorem stepsR_sts {st : Int} : ∀ (l done : List St) (i : Nat), i ≠ 0 → (∀ x ∈ l, finOk x.fin = true ∧ ∀ a ∈ x.arcs, (0 ≤ a.i ∧ a.i ≤ 1000) ∧ (0 ≤ a.o ∧ a.o ≤ 1000) ∧ (0 ≤ a.w ∧ a.w ≤ 1000000000) ∧ 0 ≤ a.t ∧ a.t ≤ 60) → stepsR i ⟨st, done⟩ (l.flatMap tW) = some ⟨st, done ++ l⟩
  | [], done, i, _, _ => by simp [stepsR]
  | x :: l, done, i, hi, h => by
    obtain ⟨h1, h2⟩ := h x List.mem_cons_self
    rw [List.flatMap_cons]
    rw [show tW x = [wSa, (shS x.fin).data.toList] :: x.arcs.map aW from rfl, List.cons_append, stepsR, lnA_s hi h1, Option.bind_some, stepsR_arcs x.arcs [] (i + 1) (by omega) h2, List.nil_append]
    have := stepsR_sts (st := st) l (done ++ [x]) (i + 1 + x.arcs.length) (by omega) fun y hy => h y (List.mem_cons_of_mem _ hy)
    rw [List.append_assoc] at this
    exact this
/-- .. and so does the document. -/
theorem mR_of {m : Mach} {t : List UInt8} (h0 : machE m = 0) (h : papM m = bs t) : frm 10 t t.length = t.length ∧ pcs 10 t t.length = (pW m).map glue ∧ mR (pcs 10 t t.length) (pcs 10 t t.length).length = some m := by
  obtain ⟨g1, g2⟩ := gd_of h0
  have ht := text_pap h0 h
  obtain ⟨p1, p2⟩ := pcs_join (c := 10) (pW_lf m)
  rw [← ht] at p1 p2
  refine ⟨p2, p1, ?_⟩
  rw [p1]
  have hp := pW_prt m
  obtain ⟨st, sts⟩ := m
  have hs : stepsR 0 ⟨0, []⟩ (pW ⟨st, sts⟩) = some ⟨st, sts⟩ := by
    unfold pW
    rw [stepsR, lnA_h g1, Option.bind_some, stepsR_sts sts [] 1 (by omega) g2]
    rfl
  have := mR_steps (L := (pW ⟨st, sts⟩).map glue) (pW ⟨st, sts⟩) 0 ⟨0, []⟩ ⟨st, sts⟩ rfl (by rw [List.drop_zero]; exact hp) hs
  rw [Nat.zero_add] at this
  rw [List.length_map]
  exact this
theorem two_of {p : List (List UInt8)} (h : p.length = 2) : p = [p[0]?.getD [], p[1]?.getD []] := by
  match p, h with
  | [a, b], _ => rfl
theorem five_of {p : List (List UInt8)} (h : p.length = 5) : p = [p[0]?.getD [], p[1]?.getD [], p[2]?.getD [], p[3]?.getD [], p[4]?.getD []] := by
  match p, h with
  | [a, b, c, d, e], _ => rfl
theorem pW_app (st : Int) (l : List St) (x : St) : pW ⟨st, l ++ [x]⟩ = pW ⟨st, l⟩ ++ tW x := by simp [pW]
theorem tW_app (f : Int) (xs : List Ar) (a : Ar) : tW ⟨f, xs ++ [a]⟩ = tW ⟨f, xs⟩ ++ [aW a] := by simp [tW, sW]
theorem lnA_head {p : List (List UInt8)} {M : Mach} (h : lnA 0 ⟨0, []⟩ p = some M) (hg : gd M) : pW M = [p] := by
  unfold lnA at h
  rw [if_pos rfl] at h
  split at h
  rotate_left
  · cases h
  rename_i h1
  obtain ⟨h1, h2⟩ := h1
  have hp := two_of h1
  rw [h2] at hp
  split at h
  · rename_i h3
    cases h
    rw [hp, h3]
    rfl
  · rename_i h3
    split at h
    · cases h
    · rename_i h4
      simp only [Option.some.injEq] at h
      subst h
      obtain ⟨⟨_, h5⟩, _⟩ := hg
      simp only at h5
      have hc := numM_only (m := 60) (q := p[1]?.getD []) rfl (by omega) (by omega)
      have e : pW ⟨numM 60 (p[1]?.getD []), ([] : List St)⟩ = [[wSt, if 0 ≤ numM 60 (p[1]?.getD []) then dg (numM 60 (p[1]?.getD [])) else [45]]] := rfl
      rw [e, if_pos (by omega)]
      unfold dg
      rw [← hc]
      exact congrArg (fun x => [x]) hp.symm
theorem lnA_tail {i : Nat} {m M : Mach} {p : List (List UInt8)} (hi : i ≠ 0) (h : lnA i m p = some M) (hg : gd M) : gd m ∧ pW M = pW m ++ [p] := by
  obtain ⟨st, sts⟩ := m
  unfold lnA at h
  rw [if_neg hi] at h
  split at h
  · rename_i h1
    obtain ⟨h1, h2⟩ := h1
    have hp := two_of h2
    rw [h1] at hp
    split at h
    · rename_i h3
      simp only [Option.some.injEq] at h
      subst h
      obtain ⟨g1, g2⟩ := hg
      refine ⟨⟨g1, fun x hx => g2 x (List.mem_append_left _ hx)⟩, ?_⟩
      rw [pW_app]
      have e : tW ⟨rdX (p[1]?.getD []), []⟩ = [p] := by
        show [[wSa, (shS (rdX (p[1]?.getD []))).data.toList]] = [p]
        rw [(shS_rdX h3).1]
        exact congrArg (fun x => [x]) hp.symm
      rw [e]
    · cases h
  · split at h
    rotate_left
    · cases h
    rename_i h1
    obtain ⟨h1, h2, h3⟩ := h1
    have hp := five_of h2
    rw [h1] at hp
    split at h
    · cases h
    rename_i h4
    have hnn : ¬ numM 60 (p[1]?.getD []) < 0 ∧ ¬ numM 1000 (p[2]?.getD []) < 0 ∧ ¬ numM 1000 (p[3]?.getD []) < 0 ∧ ¬ numM 1000000000 (p[4]?.getD []) < 0 := ⟨fun h => h4 (.inl h), fun h => h4 (.inr (.inl h)), fun h => h4 (.inr (.inr (.inl h))), fun h => h4 (.inr (.inr (.inr h)))⟩
    obtain ⟨n1, n2, n3, n4⟩ := hnn
    simp only at h3 h
    obtain ⟨l, ⟨f, as'⟩, rfl⟩ : ∃ l x, sts = l ++ [x] := ⟨sts.dropLast, sts.getLast (by intro e; exact h3 (by rw [e]; rfl)), (List.dropLast_concat_getLast _).symm⟩
    rw [putA_snoc] at h
    simp only [Option.some.injEq] at h
    subst h
    obtain ⟨g1, g2⟩ := hg
    obtain ⟨g3, g4⟩ := g2 _ (List.mem_append_right _ (List.mem_singleton.2 rfl))
    refine ⟨⟨g1, fun x hx => ?_⟩, ?_⟩
    · rcases List.mem_append.1 hx with hx | hx
      · exact g2 x (List.mem_append_left _ hx)
      · simp only [List.mem_singleton] at hx
        subst hx
        exact ⟨g3, fun a ha => g4 a (List.mem_append_left _ ha)⟩
    · obtain ⟨⟨i1, i2⟩, ⟨o1, o2⟩, ⟨w1, w2⟩, t1, t2⟩ := g4 _ (List.mem_append_right _ (List.mem_singleton.2 rfl))
      simp only at i1 i2 o1 o2 w1 w2 t1 t2
      have c1 := numM_only (m := 60) (q := p[1]?.getD []) rfl t1 (by omega)
      have c2 := numM_only (m := 1000) (q := p[2]?.getD []) rfl i1 (by omega)
      have c3 := numM_only (m := 1000) (q := p[3]?.getD []) rfl o1 (by omega)
      have c4 := numM_only (m := 1000000000) (q := p[4]?.getD []) rfl w1 (by omega)
      have ea : aW ⟨numM 1000 (p[2]?.getD []), numM 1000 (p[3]?.getD []), numM 1000000000 (p[4]?.getD []), numM 60 (p[1]?.getD [])⟩ = p := by
        show [wAr, dg _, dg _, dg _, dg _] = p
        simp only [dg]
        rw [← c1, ← c2, ← c3, ← c4]
        exact hp.symm
      rw [pW_app, pW_app, tW_app, ea, List.append_assoc]
theorem mR_words {L : List (List UInt8)} : ∀ (k : Nat) (M : Mach), k < L.length → mR L (k + 1) = some M → gd M → (L.take (k + 1)).map prt = pW M
  | k, M, hk, h, hg => by
    have h' : ((mR L k).bind fun m => lnA k m (prt (L[k]?.getD []))) = some M := h
    have hL : L[k]? = some L[k] := List.getElem?_eq_getElem hk
    rw [hL, Option.getD_some] at h'
    cases hm : mR L k with
    | none => rw [hm] at h'; cases h'
    | some m =>
      rw [hm, Option.bind_some] at h'
      rw [List.take_add_one, hL]
      match k, hk, hm, h' with
      | 0, hk, hm, h' =>
        cases hm
        rw [lnA_head h' hg]
        rfl
      | k + 1, hk, hm, h' =>
        obtain ⟨h1, h2⟩ := lnA_tail (by omega) h' hg
        have := mR_words k m (by omega) hm h1
        rw [h2, List.map_append, this]
        rfl
/-- What the document has read is what the text shows. -/
theorem pap_shows {t : List UInt8} {M : Mach} (hf : frm 10 t t.length = t.length) (hne : pcs 10 t t.length ≠ []) (hm : mR (pcs 10 t t.length) (pcs 10 t t.length).length = some M) (h0 : machE M = 0) : papM M = bs t := by
  have hj := join_pcs (c := 10) (t := t) t.length (Nat.le_refl _)
  rw [hf, List.take_length] at hj
  obtain ⟨L, hL⟩ : ∃ L, pcs 10 t t.length = L := ⟨_, rfl⟩
  rw [hL] at hj hne hm
  have hpos := List.length_pos_iff.2 hne
  have hw := mR_words (L := L) (L.length - 1) M (by omega) (by rw [show L.length - 1 + 1 = L.length by omega]; exact hm) (gd_of h0)
  rw [show L.length - 1 + 1 = L.length by omega, List.take_length] at hw
  refine bs_ext ?_
  rw [papM_bytes h0, bs_list, ← hw, List.map_map]
  have e : L.map (glue ∘ prt) = L := (List.map_congr_left fun u _ => glue_prt u.length u (Nat.le_refl _)).trans (List.map_id _)
  rw [e]
  exact hj
open Classical in
/-- How the program's reading ends; the document's. -/
noncomputable def rdEp (t : List UInt8) : Int := if 20000 < t.length then 1 else if machE (rdM t) = 0 ∧ papM (rdM t) = bs t then 0 else 3
open Classical in
noncomputable def rrO (t : List UInt8) : Option Mach := if frm 10 t t.length = t.length ∧ pcs 10 t t.length ≠ [] then mR (pcs 10 t t.length) (pcs 10 t t.length).length else none
noncomputable def rrMp (t : List UInt8) : Mach := (rrO t).getD ⟨0, []⟩
noncomputable def rrEp (t : List UInt8) : Int := if 20000 < t.length then 1 else if rrO t = none then 3 else if machE (rrMp t) = 0 then 0 else 3
theorem rd_rrp (t : List UInt8) : rdEp t = rrEp t ∧ (rrEp t = 0 → rdM t = rrMp t) := by
  unfold rdEp rrEp
  by_cases hbig : 20000 < t.length
  · rw [if_pos hbig, if_pos hbig]
    exact ⟨rfl, fun h => by cases h⟩
  · rw [if_neg hbig, if_neg hbig]
    by_cases hp : machE (rdM t) = 0 ∧ papM (rdM t) = bs t
    · obtain ⟨h0, hs⟩ := hp
      obtain ⟨q1, q2, q3⟩ := mR_of h0 hs
      have hO : rrO t = some (rdM t) := by
        unfold rrO
        rw [if_pos ⟨q1, by rw [q2]; simp [pW]⟩, q3]
      have hM : rrMp t = rdM t := by unfold rrMp; rw [hO]; rfl
      rw [if_pos ⟨h0, hs⟩, hO, hM, if_neg (by simp), if_pos h0]
      exact ⟨rfl, fun _ => rfl⟩
    · rw [if_neg hp]
      by_cases hO : rrO t = none
      · rw [if_pos hO]
        exact ⟨rfl, fun h => by cases h⟩
      · rw [if_neg hO]
        by_cases h0 : machE (rrMp t) = 0
        · exfalso
          have hm : rrO t = some (rrMp t) := by
            unfold rrMp
            cases h : rrO t with
            | none => exact absurd h hO
            | some m => rfl
          unfold rrO at hm
          split at hm
          · rename_i hh
            have hs := pap_shows hh.1 hh.2 hm h0
            have hd := rdM_of h0 hs
            exact hp ⟨by rw [hd]; exact h0, by rw [hd]; exact hs⟩
          · cases hm
        · rw [if_neg h0]
          exact ⟨rfl, fun h => by cases h⟩
end Go.Proofs.YtkikceoccmoanaaGreatDoor
namespace Go.Proofs.YtkikceoccmoanaaGreatDoor
open Go.Shelf Go.RowKit Go.Lib
def laysSpl_ren : Go.Shelf.Ren := ⟨fun | 146 => 16 | 221 => 32 | 268 => 46 | 138 => 47 | 143 => 48 | 195 => 65 | 197 => 66 | 218 => 67 | 219 => 68 | 260 => 83 | 217 => 45 | 225 => 84 | 224 => 85 | 267 => 86 | 266 => 64 | 314 => 98 | n => n, fun | 9 => 9 | 31 => 33 | 3 => 3 | 4 => 4 | 0 => 0 | 105 => 97 | 21 => 21 | 5 => 5 | 46 => 115 | 119 => 129 | 139 => 132 | 138 => 131 | 146 => 133 | 51 => 125 | n => n, fun | 1 => 0 | 3 => 4 | 4 => 5 | n => n⟩
theorem laysSpl : Go.Proofs.Lays.n146 Tryz.prog laysSpl_ren := {
  mixed := by kernel_rfl
  f138 := Tryz.func47.trans (congrArg some (by kernel_rfl))
  f143 := Tryz.func48.trans (congrArg some (by kernel_rfl))
  f146 := Tryz.func16.trans (congrArg some (by kernel_rfl))
  f195 := Tryz.func65.trans (congrArg some (by kernel_rfl))
  f197 := Tryz.func66.trans (congrArg some (by kernel_rfl))
  f217 := Tryz.func45.trans (congrArg some (by kernel_rfl))
  f218 := Tryz.func67.trans (congrArg some (by kernel_rfl))
  f219 := Tryz.func68.trans (congrArg some (by kernel_rfl))
  f221 := Tryz.func32.trans (congrArg some (by kernel_rfl))
  f224 := Tryz.func85.trans (congrArg some (by kernel_rfl))
  f225 := Tryz.func84.trans (congrArg some (by kernel_rfl))
  f260 := Tryz.func83.trans (congrArg some (by kernel_rfl))
  f266 := Tryz.func64.trans (congrArg some (by kernel_rfl))
  f267 := Tryz.func86.trans (congrArg some (by kernel_rfl))
  f268 := Tryz.func46.trans (congrArg some (by kernel_rfl))
  f314 := Tryz.func98.trans (congrArg some (by kernel_rfl))
  t0 := Tryz.underlying0
  a0 := Tryz.isAgg0
  z0 := Tryz.sizeOf0
  v0 := Tryz.zeroValue0
  t3 := Tryz.underlying3
  a3 := Tryz.isAgg3
  z3 := Tryz.sizeOf3
  v3 := Tryz.zeroValue3
  t4 := Tryz.underlying4
  a4 := Tryz.isAgg4
  z4 := Tryz.sizeOf4
  v4 := Tryz.zeroValue4
  t5 := Tryz.underlying5
  a5 := Tryz.isAgg5
  z5 := Tryz.sizeOf5
  v5 := Tryz.zeroValue5
  t9 := Tryz.underlying9
  a9 := Tryz.isAgg9
  z9 := Tryz.sizeOf9
  v9 := Tryz.zeroValue9
  t21 := Tryz.underlying21
  a21 := Tryz.isAgg21
  z21 := Tryz.sizeOf21
  v21 := Tryz.zeroValue21
  t31 := Tryz.underlying33
  a31 := Tryz.isAgg33
  z31 := Tryz.sizeOf33
  v31 := Tryz.zeroValue33
  t46 := Tryz.underlying115
  a46 := Tryz.isAgg115
  z46 := Tryz.sizeOf115
  v46 := Tryz.zeroValue115
  t51 := Tryz.underlying125
  a51 := Tryz.isAgg125
  z51 := Tryz.sizeOf125
  v51 := Tryz.zeroValue125
  t105 := Tryz.underlying97
  a105 := Tryz.isAgg97
  z105 := Tryz.sizeOf97
  v105 := Tryz.zeroValue97
  t119 := Tryz.underlying129
  a119 := Tryz.isAgg129
  z119 := Tryz.sizeOf129
  t138 := Tryz.underlying131
  a138 := Tryz.isAgg131
  z138 := Tryz.sizeOf131
  v138 := Tryz.zeroValue131
  t139 := Tryz.underlying132
  a139 := Tryz.isAgg132
  z139 := Tryz.sizeOf132
  v139 := Tryz.zeroValue132
  t146 := Tryz.underlying133
  a146 := Tryz.isAgg133
  z146 := Tryz.sizeOf133
  v146 := Tryz.zeroValue133
  g1 := by kernel_rfl
  g3 := by kernel_rfl
  g4 := by kernel_rfl }
theorem split_call (s sep : ByteArray) (m : Int) (w : World) (hs : s.size < 4294967281) (hm : w.cell? ⟨0, 0, none⟩ = some (.int .i64 m)) (h1 : 1 ≤ sep.size) :
    Calls Tryz.prog 16 #[.string s, .string sep] w fun e w' =>
      e = .returned (.slice (some ⟨w.heap.size, 0, none⟩) (Lib.countB s sep + 1) (Lib.countB s sep + 1)) ∧ w' = w.alloc (.cells ((Lib.splitB sep 0 (Lib.countB s sep) s).map Value.string).toArray 9) := Any.strings_Split laysSpl (by kernel_rfl) s sep m w hs hm h1
end Go.Proofs.YtkikceoccmoanaaGreatDoor
