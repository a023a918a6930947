/- Part 8 of what the law EmptiesRemoves rests on. -/
import Derived.Test.YthlcginebeapdaaPkEm1
import Derived.Test.YthlcginebeapdaaPkEm2
import Derived.Test.YthlcginebeapdaaPkEm3
import Derived.Test.YthlcginebeapdaaPkEm4
import Derived.Test.YthlcginebeapdaaPkEm5
import Derived.Test.YthlcginebeapdaaPkEm6
import Derived.Test.YthlcginebeapdaaPkEm7
namespace Go.Proofs.Ythlcginebeapdaa
open Go.RowKit
set_option linter.unusedSimpArgs false
set_option linter.unusedVariables false
set_option maxRecDepth 100000

theorem am_In (n lo hi : Int) : Fn Try.prog 32 [.i n, .i lo, .i hi] (fun v => v = .b (decide (lo ≤ n ∧ n ≤ hi))) := by
 refine Fn.intro (n := 15) ⟨Try.func32, rfl, rfl, rfl, rfl⟩ (by simp [V.pure, V.has, V.hasL]) (by simp) fun w0 out => ?_
 by_cases h1 : lo ≤ n
 ·by_cases h2 : n ≤ hi
  ·skip
   refine AW.seq ?_
   refine AW.region ?_
   refine AL.rp rfl rfl (rp_assign rfl rfl) ?_
   refine AL.nil ?_
   try simp only [thenS, S.put, enum, List.nil_append, List.cons_append, List.append_nil, Nat.zero_add, Nat.reduceAdd]
   refine AW.seq ?_
   refine AW.region ?_
   refine AL.rp rfl rfl (rp_move rfl rfl) ?_
   refine AL.rp rfl rfl (rp_move rfl rfl) ?_
   (refine AL.rp rfl rfl (rp_geqT rfl rfl rfl (by first | assumption | omega | (dsimp only; omega))) ?_)
   refine AL.rp rfl rfl (rp_move rfl rfl) ?_
   refine AL.rpy rfl rfl rfl (rp_move rfl rfl) ?_
   refine AL.rpy rfl rfl rfl (rp_move rfl rfl) ?_
   (refine AL.rpy rfl rfl rfl (rp_leqT rfl rfl rfl (by first | assumption | omega | (dsimp only; omega))) ?_)
   refine AL.rp rfl rfl (rp_pick rfl rfl rfl) ?_
   refine AL.rp rfl rfl (rp_assign rfl rfl) ?_
   refine AL.nil ?_
   try simp only [thenS, S.put]
   refine AW.ret ?_
   exact ⟨[_], ⟨rfl, trivial⟩, by simp [tupOf, h1, h2], by simp [tupOf, V.pure, V.has]⟩
  ·skip
   refine AW.seq ?_
   refine AW.region ?_
   refine AL.rp rfl rfl (rp_assign rfl rfl) ?_
   refine AL.nil ?_
   try simp only [thenS, S.put, enum, List.nil_append, List.cons_append, List.append_nil, Nat.zero_add, Nat.reduceAdd]
   refine AW.seq ?_
   refine AW.region ?_
   refine AL.rp rfl rfl (rp_move rfl rfl) ?_
   refine AL.rp rfl rfl (rp_move rfl rfl) ?_
   (refine AL.rp rfl rfl (rp_geqT rfl rfl rfl (by first | assumption | omega | (dsimp only; omega))) ?_)
   refine AL.rp rfl rfl (rp_move rfl rfl) ?_
   refine AL.rpy rfl rfl rfl (rp_move rfl rfl) ?_
   refine AL.rpy rfl rfl rfl (rp_move rfl rfl) ?_
   (refine AL.rpy rfl rfl rfl (rp_leqF rfl rfl rfl (by first | assumption | omega | (dsimp only; omega))) ?_)
   refine AL.rp rfl rfl (rp_pick rfl rfl rfl) ?_
   refine AL.rp rfl rfl (rp_assign rfl rfl) ?_
   refine AL.nil ?_
   try simp only [thenS, S.put]
   refine AW.ret ?_
   exact ⟨[_], ⟨rfl, trivial⟩, by simp [tupOf, h1, h2], by simp [tupOf, V.pure, V.has]⟩
 ·skip
  refine AW.seq ?_
  refine AW.region ?_
  refine AL.rp rfl rfl (rp_assign rfl rfl) ?_
  refine AL.nil ?_
  try simp only [thenS, S.put, enum, List.nil_append, List.cons_append, List.append_nil, Nat.zero_add, Nat.reduceAdd]
  refine AW.seq ?_
  refine AW.region ?_
  refine AL.rp rfl rfl (rp_move rfl rfl) ?_
  refine AL.rp rfl rfl (rp_move rfl rfl) ?_
  (refine AL.rp rfl rfl (rp_geqF rfl rfl rfl (by first | assumption | omega | (dsimp only; omega))) ?_)
  refine AL.rp rfl rfl (rp_move rfl rfl) ?_
  refine AL.no rfl rfl rfl rfl ?_
  refine AL.no rfl rfl rfl rfl ?_
  refine AL.no rfl rfl rfl rfl ?_
  refine AL.rp rfl rfl (rp_pick rfl rfl rfl) ?_
  refine AL.rp rfl rfl (rp_assign rfl rfl) ?_
  refine AL.nil ?_
  try simp only [thenS, S.put]
  refine AW.ret ?_
  exact ⟨[_], ⟨rfl, trivial⟩, by simp [tupOf, h1], by simp [tupOf, V.pure, V.has]⟩

theorem am_ArcCount (m : Mach) (h60 : m.states.length ≤ 60) : Fn Try.prog 31 [mV m] (fun v => v = .i (arcN m.states)) := by
 refine Fn.mach m 0 rfl fun _ hal => ?_
 obtain ⟨st, sts⟩ := m
 simp only at h60 hal ⊢
 obtain ⟨len, hl⟩ : ∃ n, sts.length = n := ⟨_, rfl⟩
 rw [hl] at h60
 refine Fn.intro (n := 22) ⟨Try.func31, rfl, rfl, rfl, rfl⟩ (by simp [V.pure, V.has, V.hasL]) (by simp) fun w0 out => ?_
 refine AW.seq ?_
 refine AW.region ?_
 refine AL.sm rfl (sm_box 1 rfl rfl rfl rfl rfl) ?_
 refine AL.rp rfl rfl (rp_assign rfl rfl) ?_
 refine AL.nil ?_
 try simp only [thenS, S.put, S.newObj, setL, V.cs, List.length_cons, List.length_nil, List.take_succ_cons, List.take_zero, List.drop_succ_cons, List.drop_zero, List.drop_nil, List.nil_append, List.cons_append, List.append_nil, Nat.zero_add, Nat.reduceAdd, List.map_cons, List.map_nil, List.set_cons_zero, List.set_cons_succ, enum]
 refine AW.seq ?_
 refine AW.region ?_
 refine AL.rp rfl rfl (rp_assign rfl rfl) ?_
 refine AL.nil ?_
 try simp only [thenS, S.put]
 refine AW.seq ?_
 refine AW.seq ?_
 refine AW.region ?_
 refine AL.rp rfl rfl (rp_assign rfl rfl) ?_
 refine AL.nil ?_
 try simp only [thenS, S.put]
 refine AW.block ?_
 refine AW.loop (fun s' => ∃ k : Nat, k ≤ len ∧ arcN (sts.take k) ≤ k * 4398046511104 ∧ s' = ⟨22, [(1, .ref 1 0), (3, .i (arcN (sts.take k))), (4, .i k)], [(1, ⟨24, [.i st, .d (stsD sts)], false, 0⟩)], []⟩) (fun s' => len - s'.nat 4) ⟨_, ?_, 0, by omega, by simp [arcN], rfl⟩ ?_
 ·exact (Less.of rfl (by repeat (first | exact trivial | refine ⟨⟨_, rfl, Wk.refl _⟩, ?_⟩ | refine ⟨⟨_, rfl, Wk.nil _ _⟩, ?_⟩ | refine ⟨⟨_, rfl, Wk.junk _⟩, ?_⟩)) (by repeat (first | exact trivial | refine ⟨rfl, ?_⟩)) rfl)
 rintro s' ⟨k, hk, hs, rfl⟩
 by_cases hlt : k < len
 ·obtain ⟨x, hx⟩ := get_lt hl hlt
  obtain ⟨la, hla⟩ : ∃ n, x.arcs.length = n := ⟨_, rfl⟩
  have hla' := hal x (List.mem_of_getElem? hx)
  have hsn : arcN (sts.take (k + 1)) = arcN (sts.take k) + la := by rw [take_snoc hx, arcN_snoc, hla]
  refine AW.seq ?_
  refine AW.seq ?_
  refine AW.region ?_
  refine AL.rp rfl rfl (rp_move rfl rfl) ?_
  refine AL.rp rfl rfl (rp_field_ref Try.underlying24 rfl rfl rfl inf22 (by decide) rfl) ?_
  refine AL.rd rfl rfl (rd_load_ref Try.underlying22 rfl rfl rfl rfl rfl rfl) ?_
  refine AL.rp rfl rfl (rp_len_map Try.underlying22 rfl rfl (by assumption)) ?_
  (refine AL.rp rfl rfl (rp_lssT rfl rfl rfl (by first | assumption | omega | (dsimp only; omega))) ?_)
  refine AL.nil ?_
  try simp only [thenS, S.put]
  refine AW.condT rfl ?_
  refine AW.skip ?_
  try simp only [thenS]
  refine AW.seq ?_
  refine AW.block ?_
  refine AW.region ?_
  refine AL.rp rfl rfl (rp_move rfl rfl) ?_
  refine AL.rp rfl rfl (rp_field_ref Try.underlying24 rfl rfl rfl inf22 (by decide) rfl) ?_
  refine AL.rd rfl rfl (rd_load_ref Try.underlying22 rfl rfl rfl rfl rfl rfl) ?_
  refine AL.rp rfl rfl (rp_move rfl rfl) ?_
  refine AL.rp rfl rfl (rp_index_map Try.underlying22 inf50 rfl rfl rfl rfl (by assumption)) ?_
  refine AL.rp rfl rfl (rp_field_ad Try.underlying50 rfl rfl rfl inf48 (by decide) rfl) ?_
  refine AL.rd rfl rfl (rd_load_ad Try.underlying48 rfl rfl rfl rfl) ?_
  refine AL.rp rfl rfl (rp_len_map Try.underlying48 rfl rfl (by assumption)) ?_
  refine AL.rp rfl rfl (rp_add rfl rfl rfl (by first | omega | (dsimp only; omega))) ?_
  refine AL.rp rfl rfl (rp_assign rfl rfl) ?_
  refine AL.nil ?_
  try simp only [thenS, S.put]
  refine AW.region ?_
  refine AL.rp rfl rfl (rp_move rfl rfl) ?_
  refine AL.rp rfl rfl (rp_add rfl rfl rfl (by first | omega | (dsimp only; omega))) ?_
  refine AL.rp rfl rfl (rp_assign rfl rfl) ?_
  refine AL.nil ?_
  try simp only [thenS, S.put]
  refine ⟨_, ?_, ⟨k + 1, by omega, by omega, rfl⟩, ?_⟩
  ·rw [hsn]; exact (Less.of rfl (by repeat (first | exact trivial | refine ⟨⟨_, rfl, Wk.refl _⟩, ?_⟩ | refine ⟨⟨_, rfl, Wk.nil _ _⟩, ?_⟩ | refine ⟨⟨_, rfl, Wk.junk _⟩, ?_⟩)) (by repeat (first | exact trivial | refine ⟨rfl, ?_⟩)) rfl)
  ·simp [S.nat, fnd]; omega
 ·skip
  refine AW.seq ?_
  refine AW.seq ?_
  refine AW.region ?_
  refine AL.rp rfl rfl (rp_move rfl rfl) ?_
  refine AL.rp rfl rfl (rp_field_ref Try.underlying24 rfl rfl rfl inf22 (by decide) rfl) ?_
  refine AL.rd rfl rfl (rd_load_ref Try.underlying22 rfl rfl rfl rfl rfl rfl) ?_
  refine AL.rp rfl rfl (rp_len_map Try.underlying22 rfl rfl (by assumption)) ?_
  (refine AL.rp rfl rfl (rp_lssF rfl rfl rfl (by first | assumption | omega | (dsimp only; omega))) ?_)
  refine AL.nil ?_
  try simp only [thenS, S.put]
  refine AW.condF rfl ?_
  refine AW.exit ?_
  try simp only [thenS, inBlockS, ↓reduceIte, Nat.reduceEqDiff]
  refine AW.seq ?_
  refine AW.region ?_
  refine AL.rp rfl rfl (rp_move rfl rfl) ?_
  refine AL.rp rfl rfl (rp_assign rfl rfl) ?_
  refine AL.nil ?_
  try simp only [thenS, S.put]
  refine AW.ret ?_
  exact ⟨[_], ⟨rfl, trivial⟩, by rw [arcN_full hl hlt]; rfl, by simp [tupOf, V.pure, V.has]⟩

theorem am_IsWeight (x : Int) : Fn Try.prog 33 [.i x] (fun v => v = .b (decide (0 ≤ x ∧ x ≤ 1000000001))) := by
 refine Fn.intro (n := 9) ⟨Try.func33, rfl, rfl, rfl, rfl⟩ (by simp [V.pure, V.has, V.hasL]) (by simp) fun w0 out => ?_
 by_cases h1 : x = 1000000001
 ·skip
  refine AW.seq ?_
  refine AW.region ?_
  refine AL.rp rfl rfl (rp_assign rfl rfl) ?_
  refine AL.nil ?_
  try simp only [thenS, S.put, enum, List.nil_append, List.cons_append, List.append_nil, Nat.zero_add, Nat.reduceAdd]
  refine AW.seq ?_
  refine AW.region ?_
  refine AL.rp rfl rfl (rp_move rfl rfl) ?_
  (refine AL.rp rfl rfl (rp_eqlT rfl rfl rfl (by first | assumption | omega | (dsimp only; omega))) ?_)
  refine AL.rp rfl rfl (rp_move rfl rfl) ?_
  refine AL.no rfl rfl rfl rfl ?_
  refine AL.no rfl rfl rfl rfl ?_
  refine AL.rp rfl rfl (rp_pick rfl rfl rfl) ?_
  refine AL.rp rfl rfl (rp_assign rfl rfl) ?_
  refine AL.nil ?_
  try simp only [thenS, S.put, S.newObj, setL, V.cs, List.length_cons, List.length_nil, List.take_succ_cons, List.take_zero, List.drop_succ_cons, List.drop_zero, List.drop_nil, List.nil_append, List.cons_append, List.append_nil, Nat.zero_add, Nat.reduceAdd, List.map_cons, List.map_nil, List.set_cons_zero, List.set_cons_succ]
  refine AW.ret ?_
  exact ⟨[_], ⟨rfl, trivial⟩, by simp [tupOf, h1], by simp [tupOf, V.pure, V.has]⟩
 ·skip
  refine AW.seq ?_
  refine AW.region ?_
  refine AL.rp rfl rfl (rp_assign rfl rfl) ?_
  refine AL.nil ?_
  try simp only [thenS, S.put, enum, List.nil_append, List.cons_append, List.append_nil, Nat.zero_add, Nat.reduceAdd]
  refine AW.seq ?_
  refine AW.region ?_
  refine AL.rp rfl rfl (rp_move rfl rfl) ?_
  (refine AL.rp rfl rfl (rp_eqlF rfl rfl rfl (by first | assumption | omega | (dsimp only; omega))) ?_)
  refine AL.rp rfl rfl (rp_move rfl rfl) ?_
  refine AL.rpy rfl rfl rfl (rp_move rfl rfl) ?_
  (refine AL.cally (post := ?pc1) rfl rfl (sm_call (args := [_, _, _]) ?hc1 ⟨Try.func32, rfl, rfl, rfl, rfl⟩ rfl rfl rfl rfl) ?_; (case hc1 => (exact am_In _ _ _)); rintro _ rfl -; try dsimp only)
  refine AL.rp rfl rfl (rp_pick rfl rfl rfl) ?_
  refine AL.rp rfl rfl (rp_assign rfl rfl) ?_
  refine AL.nil ?_
  try simp only [thenS, S.put, S.newObj, setL, V.cs, List.length_cons, List.length_nil, List.take_succ_cons, List.take_zero, List.drop_succ_cons, List.drop_zero, List.drop_nil, List.nil_append, List.cons_append, List.append_nil, Nat.zero_add, Nat.reduceAdd, List.map_cons, List.map_nil, List.set_cons_zero, List.set_cons_succ]
  refine AW.ret ?_
  refine ⟨[_], ⟨rfl, trivial⟩, ?_, by simp [tupOf, V.pure, V.has]⟩
  simp only [tupOf, V.b, V.d.injEq, D.p.injEq, Value.bool.injEq, decide_eq_decide]
  omega

theorem am_Fault (m : Mach) : Fn Try.prog 11 [mV m] (fun v => v = .i (machE m)) := by
 refine Fn.mach m 0 rfl fun hsl hal => ?_
 obtain ⟨st, sts⟩ := m
 simp only at hsl hal ⊢
 obtain ⟨len, hl⟩ : ∃ n, sts.length = n := ⟨_, rfl⟩
 rw [hl] at hsl
 refine Fn.intro (n := 77) ⟨Try.func11, rfl, rfl, rfl, rfl⟩ (by simp [V.pure, V.has, V.hasL]) (by simp) fun w0 out => ?_
 by_cases h60 : 60 < len
 ·skip
  refine AW.seq ?_
  refine AW.region ?_
  refine AL.sm rfl (sm_box 1 rfl rfl rfl rfl rfl) ?_
  refine AL.rp rfl rfl (rp_assign rfl rfl) ?_
  refine AL.nil ?_
  try simp only [thenS, S.put, S.newObj, setL, V.cs, List.length_cons, List.length_nil, List.take_succ_cons, List.take_zero, List.drop_succ_cons, List.drop_zero, List.drop_nil, List.nil_append, List.cons_append, List.append_nil, Nat.zero_add, Nat.reduceAdd, List.map_cons, List.map_nil, List.set_cons_zero, List.set_cons_succ, enum]
  refine AW.seq ?_
  refine AW.region ?_
  refine AL.rp rfl rfl (rp_field_ref Try.underlying24 rfl rfl rfl inf22 (by decide) rfl) ?_
  refine AL.rd rfl rfl (rd_load_ref Try.underlying22 rfl rfl rfl rfl rfl rfl) ?_
  refine AL.rp rfl rfl (rp_len_map Try.underlying22 rfl rfl (by assumption)) ?_
  refine AL.rp rfl rfl (rp_assign rfl rfl) ?_
  refine AL.nil ?_
  try simp only [thenS, S.put]
  refine AW.seq ?_
  refine AW.seq ?_
  refine AW.region ?_
  refine AL.rp rfl rfl (rp_move rfl rfl) ?_
  (refine AL.rp rfl rfl (rp_gtrT rfl rfl rfl (by first | assumption | omega | (dsimp only; omega))) ?_)
  refine AL.rp rfl rfl (rp_move rfl rfl) ?_
  refine AL.no rfl rfl rfl rfl ?_
  refine AL.no rfl rfl rfl rfl ?_
  refine AL.no rfl rfl rfl rfl ?_
  refine AL.rp rfl rfl (rp_pick rfl rfl rfl) ?_
  refine AL.nil ?_
  try simp only [thenS, S.put, S.newObj, setL, V.cs, List.length_cons, List.length_nil, List.take_succ_cons, List.take_zero, List.drop_succ_cons, List.drop_zero, List.drop_nil, List.nil_append, List.cons_append, List.append_nil, Nat.zero_add, Nat.reduceAdd, List.map_cons, List.map_nil, List.set_cons_zero, List.set_cons_succ]
  refine AW.condT rfl ?_
  refine AW.seq ?_
  refine AW.region ?_
  refine AL.rp rfl rfl (rp_assign rfl rfl) ?_
  refine AL.nil ?_
  try simp only [thenS, S.put]
  refine AW.ret ?_
  exact ⟨[_], ⟨rfl, trivial⟩, by rw [machE_size (.inl (by rw [hl]; exact h60))]; rfl, by simp [tupOf, V.pure, V.has]⟩
 ·by_cases h400 : 400 < arcN sts
  ·skip
   refine AW.seq ?_
   refine AW.region ?_
   refine AL.sm rfl (sm_box 1 rfl rfl rfl rfl rfl) ?_
   refine AL.rp rfl rfl (rp_assign rfl rfl) ?_
   refine AL.nil ?_
   try simp only [thenS, S.put, S.newObj, setL, V.cs, List.length_cons, List.length_nil, List.take_succ_cons, List.take_zero, List.drop_succ_cons, List.drop_zero, List.drop_nil, List.nil_append, List.cons_append, List.append_nil, Nat.zero_add, Nat.reduceAdd, List.map_cons, List.map_nil, List.set_cons_zero, List.set_cons_succ, enum]
   refine AW.seq ?_
   refine AW.region ?_
   refine AL.rp rfl rfl (rp_field_ref Try.underlying24 rfl rfl rfl inf22 (by decide) rfl) ?_
   refine AL.rd rfl rfl (rd_load_ref Try.underlying22 rfl rfl rfl rfl rfl rfl) ?_
   refine AL.rp rfl rfl (rp_len_map Try.underlying22 rfl rfl (by assumption)) ?_
   refine AL.rp rfl rfl (rp_assign rfl rfl) ?_
   refine AL.nil ?_
   try simp only [thenS, S.put]
   refine AW.seq ?_
   refine AW.seq ?_
   refine AW.region ?_
   refine AL.rp rfl rfl (rp_move rfl rfl) ?_
   (refine AL.rp rfl rfl (rp_gtrF rfl rfl rfl (by first | assumption | omega | (dsimp only; omega))) ?_)
   refine AL.rp rfl rfl (rp_move rfl rfl) ?_
   refine AL.rdy rfl rfl rfl (rd_loads_ref Try.underlying24 rfl inf24 rfl rfl rfl rfl rfl rfl) ?_
   (refine AL.cally (post := ?pc3) rfl rfl (sm_call (args := [_]) ?hc3 ⟨Try.func31, rfl, rfl, rfl, rfl⟩ rfl rfl rfl rfl) ?_; (case hc3 => (exact am_ArcCount ⟨st, sts⟩ (by simp only; omega))); rintro _ rfl -; try dsimp only)
   (refine AL.rpy rfl rfl rfl (rp_gtrT rfl rfl rfl (by first | assumption | omega | (dsimp only; omega))) ?_)
   refine AL.rp rfl rfl (rp_pick rfl rfl rfl) ?_
   refine AL.nil ?_
   try simp only [thenS, S.put, S.newObj, setL, V.cs, List.length_cons, List.length_nil, List.take_succ_cons, List.take_zero, List.drop_succ_cons, List.drop_zero, List.drop_nil, List.nil_append, List.cons_append, List.append_nil, Nat.zero_add, Nat.reduceAdd, List.map_cons, List.map_nil, List.set_cons_zero, List.set_cons_succ]
   refine AW.condT rfl ?_
   refine AW.seq ?_
   refine AW.region ?_
   refine AL.rp rfl rfl (rp_assign rfl rfl) ?_
   refine AL.nil ?_
   try simp only [thenS, S.put]
   refine AW.ret ?_
   exact ⟨[_], ⟨rfl, trivial⟩, by rw [machE_size (.inr h400)]; rfl, by simp [tupOf, V.pure, V.has]⟩
  ·by_cases hst : -1 ≤ st ∧ st ≤ (len : Int) - 1
   ·skip
    refine AW.seq ?_
    refine AW.region ?_
    refine AL.sm rfl (sm_box 1 rfl rfl rfl rfl rfl) ?_
    refine AL.rp rfl rfl (rp_assign rfl rfl) ?_
    refine AL.nil ?_
    try simp only [thenS, S.put, S.newObj, setL, V.cs, List.length_cons, List.length_nil, List.take_succ_cons, List.take_zero, List.drop_succ_cons, List.drop_zero, List.drop_nil, List.nil_append, List.cons_append, List.append_nil, Nat.zero_add, Nat.reduceAdd, List.map_cons, List.map_nil, List.set_cons_zero, List.set_cons_succ, enum]
    refine AW.seq ?_
    refine AW.region ?_
    refine AL.rp rfl rfl (rp_field_ref Try.underlying24 rfl rfl rfl inf22 (by decide) rfl) ?_
    refine AL.rd rfl rfl (rd_load_ref Try.underlying22 rfl rfl rfl rfl rfl rfl) ?_
    refine AL.rp rfl rfl (rp_len_map Try.underlying22 rfl rfl (by assumption)) ?_
    refine AL.rp rfl rfl (rp_assign rfl rfl) ?_
    refine AL.nil ?_
    try simp only [thenS, S.put]
    refine AW.seq ?_
    refine AW.seq ?_
    refine AW.region ?_
    refine AL.rp rfl rfl (rp_move rfl rfl) ?_
    (refine AL.rp rfl rfl (rp_gtrF rfl rfl rfl (by first | assumption | omega | (dsimp only; omega))) ?_)
    refine AL.rp rfl rfl (rp_move rfl rfl) ?_
    refine AL.rdy rfl rfl rfl (rd_loads_ref Try.underlying24 rfl inf24 rfl rfl rfl rfl rfl rfl) ?_
    (refine AL.cally (post := ?pc4) rfl rfl (sm_call (args := [_]) ?hc4 ⟨Try.func31, rfl, rfl, rfl, rfl⟩ rfl rfl rfl rfl) ?_; (case hc4 => (exact am_ArcCount ⟨st, sts⟩ (by simp only; omega))); rintro _ rfl -; try dsimp only)
    (refine AL.rpy rfl rfl rfl (rp_gtrF rfl rfl rfl (by first | assumption | omega | (dsimp only; omega))) ?_)
    refine AL.rp rfl rfl (rp_pick rfl rfl rfl) ?_
    refine AL.nil ?_
    try simp only [thenS, S.put, S.newObj, setL, V.cs, List.length_cons, List.length_nil, List.take_succ_cons, List.take_zero, List.drop_succ_cons, List.drop_zero, List.drop_nil, List.nil_append, List.cons_append, List.append_nil, Nat.zero_add, Nat.reduceAdd, List.map_cons, List.map_nil, List.set_cons_zero, List.set_cons_succ]
    refine AW.condF rfl ?_
    refine AW.skip ?_
    try simp only [thenS]
    refine AW.seq ?_
    refine AW.seq ?_
    refine AW.region ?_
    refine AL.rp rfl rfl (rp_field_ref Try.underlying24 rfl rfl rfl inf3 (by decide) rfl) ?_
    refine AL.rd rfl rfl (rd_load_ref Try.underlying3 rfl rfl rfl rfl rfl rfl) ?_
    refine AL.rp rfl rfl (rp_move rfl rfl) ?_
    refine AL.rp rfl rfl (rp_sub rfl rfl rfl (by first | omega | (dsimp only; omega))) ?_
    refine AL.call (post := ?pc5) rfl (sm_call (args := [_, _, _]) ?hc5 ⟨Try.func32, rfl, rfl, rfl, rfl⟩ rfl rfl rfl rfl) ?_
    case hc5 => first | (refine Fn.decT (am_In _ _ _) ?_; omega) | (refine Fn.decF (am_In _ _ _) ?_; omega) | exact am_In _ _ _
    rintro _ rfl -
    try dsimp only
    refine AL.rp rfl rfl (rp_not rfl rfl) ?_
    refine AL.nil ?_
    try simp only [thenS, S.put, S.newObj, setL, V.cs, List.length_cons, List.length_nil, List.take_succ_cons, List.take_zero, List.drop_succ_cons, List.drop_zero, List.drop_nil, List.nil_append, List.cons_append, List.append_nil, Nat.zero_add, Nat.reduceAdd, List.map_cons, List.map_nil, List.set_cons_zero, List.set_cons_succ]
    refine AW.condF rfl ?_
    refine AW.skip ?_
    try simp only [thenS]
    refine AW.seq ?_
    refine AW.seq ?_
    refine AW.region ?_
    refine AL.rp rfl rfl (rp_assign rfl rfl) ?_
    refine AL.nil ?_
    try simp only [thenS, S.put]
    refine AW.block ?_
    refine AW.loop (fun s' => ∃ k : Nat, k ≤ len ∧ (sts.take k).all (stOk len) = true ∧ s' = ⟨77, [(1, .ref 1 0), (3, .i len), (4, .i k)], [(1, ⟨24, [.i st, .d (stsD sts)], false, 0⟩)], []⟩) (fun s' => len - s'.nat 4) ⟨_, ?_, 0, by omega, by simp, rfl⟩ ?_
    ·exact (Less.of rfl (by repeat (first | exact trivial | refine ⟨⟨_, rfl, Wk.refl _⟩, ?_⟩ | refine ⟨⟨_, rfl, Wk.nil _ _⟩, ?_⟩ | refine ⟨⟨_, rfl, Wk.junk _⟩, ?_⟩)) (by repeat (first | exact trivial | refine ⟨rfl, ?_⟩)) rfl)
    rintro s' ⟨k, hk, hall, rfl⟩
    by_cases hlt : k < len
    ·obtain ⟨x, hx⟩ := get_lt hl hlt
     obtain ⟨la, hla⟩ : ∃ n, x.arcs.length = n := ⟨_, rfl⟩
     have hla' := hal x (List.mem_of_getElem? hx)
     by_cases hf : 0 ≤ x.fin ∧ x.fin ≤ 1000000001
     ·skip
      refine AW.seq ?_
      refine AW.seq ?_
      refine AW.region ?_
      refine AL.rp rfl rfl (rp_move rfl rfl) ?_
      refine AL.rp rfl rfl (rp_move rfl rfl) ?_
      (refine AL.rp rfl rfl (rp_lssT rfl rfl rfl (by first | assumption | omega | (dsimp only; omega))) ?_)
      refine AL.nil ?_
      try simp only [thenS, S.put]
      refine AW.condT rfl ?_
      refine AW.skip ?_
      try simp only [thenS]
      refine AW.seq ?_
      refine AW.block ?_
      refine AW.seq ?_
      refine AW.seq ?_
      refine AW.region ?_
      refine AL.rp rfl rfl (rp_field_ref Try.underlying24 rfl rfl rfl inf22 (by decide) rfl) ?_
      refine AL.rd rfl rfl (rd_load_ref Try.underlying22 rfl rfl rfl rfl rfl rfl) ?_
      refine AL.rp rfl rfl (rp_move rfl rfl) ?_
      refine AL.rp rfl rfl (rp_index_map Try.underlying22 inf50 rfl rfl rfl rfl (by assumption)) ?_
      refine AL.rp rfl rfl (rp_field_ad Try.underlying50 rfl rfl rfl inf3 (by decide) rfl) ?_
      refine AL.rd rfl rfl (rd_load_ad Try.underlying3 rfl rfl rfl rfl) ?_
      refine AL.call (post := ?pc6) rfl (sm_call (args := [_]) ?hc6 ⟨Try.func33, rfl, rfl, rfl, rfl⟩ rfl rfl rfl rfl) ?_
      case hc6 => first | (refine Fn.decT (am_IsWeight _) ?_; omega) | (refine Fn.decF (am_IsWeight _) ?_; omega) | exact am_IsWeight _
      rintro _ rfl -
      try dsimp only
      refine AL.rp rfl rfl (rp_not rfl rfl) ?_
      refine AL.nil ?_
      try simp only [thenS, S.put, S.newObj, setL, V.cs, List.length_cons, List.length_nil, List.take_succ_cons, List.take_zero, List.drop_succ_cons, List.drop_zero, List.drop_nil, List.nil_append, List.cons_append, List.append_nil, Nat.zero_add, Nat.reduceAdd, List.map_cons, List.map_nil, List.set_cons_zero, List.set_cons_succ]
      refine AW.condF rfl ?_
      refine AW.skip ?_
      try simp only [thenS]
      refine AW.seq ?_
      refine AW.region ?_
      refine AL.rp rfl rfl (rp_field_ref Try.underlying24 rfl rfl rfl inf22 (by decide) rfl) ?_
      refine AL.rd rfl rfl (rd_load_ref Try.underlying22 rfl rfl rfl rfl rfl rfl) ?_
      refine AL.rp rfl rfl (rp_move rfl rfl) ?_
      refine AL.rp rfl rfl (rp_index_map Try.underlying22 inf50 rfl rfl rfl rfl (by assumption)) ?_
      refine AL.rp rfl rfl (rp_field_ad Try.underlying50 rfl rfl rfl inf48 (by decide) rfl) ?_
      refine AL.rd rfl rfl (rd_load_ad Try.underlying48 rfl rfl rfl rfl) ?_
      refine AL.rp rfl rfl (rp_assign rfl rfl) ?_
      refine AL.nil ?_
      try simp only [thenS, S.put]
      refine AW.seq ?_
      refine AW.region ?_
      refine AL.rp rfl rfl (rp_assign rfl rfl) ?_
      refine AL.nil ?_
      try simp only [thenS, S.put]
      refine AW.block ?_
      refine AW.loop (fun s' => ∃ j : Nat, j ≤ la ∧ (x.arcs.take j).all (arOk len) = true ∧ s' = ⟨77, [(1, .ref 1 0), (3, .i len), (4, .i k), (5, .d (arsD x.arcs)), (6, .i j)], [(1, ⟨24, [.i st, .d (stsD sts)], false, 0⟩)], []⟩) (fun s' => la - s'.nat 6) ⟨_, ?_, 0, by omega, by simp, rfl⟩ ?_
      ·exact (Less.of rfl (by repeat (first | exact trivial | refine ⟨⟨_, rfl, Wk.refl _⟩, ?_⟩ | refine ⟨⟨_, rfl, Wk.nil _ _⟩, ?_⟩ | refine ⟨⟨_, rfl, Wk.junk _⟩, ?_⟩)) (by repeat (first | exact trivial | refine ⟨rfl, ?_⟩)) rfl)
      rintro s' ⟨j, hj, hall2, rfl⟩
      by_cases hlj : j < la
      ·obtain ⟨y, hy⟩ := get_lt hla hlj
       by_cases hok : (0 ≤ y.i ∧ y.i ≤ 1000) ∧ (0 ≤ y.o ∧ y.o ≤ 1000) ∧ (0 ≤ y.w ∧ y.w ≤ 1000000000) ∧ 0 ≤ y.t ∧ y.t ≤ (len : Int) - 1
       ·obtain ⟨h1, h2, h3, h4⟩ := hok
        refine AW.seq ?_
        refine AW.seq ?_
        refine AW.region ?_
        refine AL.rp rfl rfl (rp_move rfl rfl) ?_
        refine AL.rp rfl rfl (rp_move rfl rfl) ?_
        refine AL.rp rfl rfl (rp_len_map Try.underlying48 rfl rfl (by assumption)) ?_
        (refine AL.rp rfl rfl (rp_lssT rfl rfl rfl (by first | assumption | omega | (dsimp only; omega))) ?_)
        refine AL.nil ?_
        try simp only [thenS, S.put]
        refine AW.condT rfl ?_
        refine AW.skip ?_
        try simp only [thenS]
        refine AW.seq ?_
        refine AW.block ?_
        refine AW.seq ?_
        refine AW.region ?_
        refine AL.rp rfl rfl (rp_move rfl rfl) ?_
        refine AL.rp rfl rfl (rp_move rfl rfl) ?_
        refine AL.rp rfl rfl (rp_index_map Try.underlying48 inf54 rfl rfl rfl rfl (by assumption)) ?_
        refine AL.rd rfl rfl (rd_loads_ad Try.underlying54 rfl inf54 rfl rfl rfl rfl) ?_
        refine AL.sm rfl (sm_alloc (l := [.d (.p (.int .i64 0)), .d (.p (.int .i64 0)), .d (.p (.int .i64 0)), .d (.p (.int .i64 0))]) 7 inf54 rfl rfl rfl rfl) ?_
        refine AL.st rfl (st_store_any inf54 rfl rfl rfl rfl rfl rfl rfl rfl (by first | decide | (simp; done) | (simp; omega)) rfl) ?_
        refine AL.nil ?_
        try simp only [thenS, S.put, S.newObj, setL, V.cs, List.length_cons, List.length_nil, List.take_succ_cons, List.take_zero, List.drop_succ_cons, List.drop_zero, List.drop_nil, List.nil_append, List.cons_append, List.append_nil, Nat.zero_add, Nat.reduceAdd, List.map_cons, List.map_nil, List.set_cons_zero, List.set_cons_succ]
        refine AW.seq ?_
        refine AW.region ?_
        refine AL.rp rfl rfl (rp_field_ref Try.underlying54 rfl rfl rfl inf3 (by decide) rfl) ?_
        refine AL.rd rfl rfl (rd_load_ref Try.underlying3 rfl rfl rfl rfl rfl rfl) ?_
        refine AL.call (post := ?pc7) rfl (sm_call (args := [_, _, _]) ?hc7 ⟨Try.func32, rfl, rfl, rfl, rfl⟩ rfl rfl rfl rfl) ?_
        case hc7 => first | (refine Fn.decT (am_In _ _ _) ?_; omega) | (refine Fn.decF (am_In _ _ _) ?_; omega) | exact am_In _ _ _
        rintro _ rfl -
        try dsimp only
        refine AL.rp rfl rfl (rp_not rfl rfl) ?_
        refine AL.rp rfl rfl (rp_move rfl rfl) ?_
        refine AL.rpy rfl rfl rfl (rp_field_ref Try.underlying54 rfl rfl rfl inf3 (by decide) rfl) ?_
        refine AL.rdy rfl rfl rfl (rd_load_ref Try.underlying3 rfl rfl rfl rfl rfl rfl) ?_
        (refine AL.cally (post := ?pc8) rfl rfl (sm_call (args := [_, _, _]) ?hc8 ⟨Try.func32, rfl, rfl, rfl, rfl⟩ rfl rfl rfl rfl) ?_; (case hc8 => (refine Fn.decT (am_In _ _ _) ?_; omega)); rintro _ rfl -; try dsimp only)
        refine AL.rpy rfl rfl rfl (rp_not rfl rfl) ?_
        refine AL.rp rfl rfl (rp_pick rfl rfl rfl) ?_
        refine AL.rp rfl rfl (rp_move rfl rfl) ?_
        refine AL.rpy rfl rfl rfl (rp_field_ref Try.underlying54 rfl rfl rfl inf3 (by decide) rfl) ?_
        refine AL.rdy rfl rfl rfl (rd_load_ref Try.underlying3 rfl rfl rfl rfl rfl rfl) ?_
        (refine AL.cally (post := ?pc9) rfl rfl (sm_call (args := [_, _, _]) ?hc9 ⟨Try.func32, rfl, rfl, rfl, rfl⟩ rfl rfl rfl rfl) ?_; (case hc9 => (refine Fn.decT (am_In _ _ _) ?_; omega)); rintro _ rfl -; try dsimp only)
        refine AL.rpy rfl rfl rfl (rp_not rfl rfl) ?_
        refine AL.rp rfl rfl (rp_pick rfl rfl rfl) ?_
        refine AL.rp rfl rfl (rp_move rfl rfl) ?_
        refine AL.rpy rfl rfl rfl (rp_field_ref Try.underlying54 rfl rfl rfl inf3 (by decide) rfl) ?_
        refine AL.rdy rfl rfl rfl (rd_load_ref Try.underlying3 rfl rfl rfl rfl rfl rfl) ?_
        refine AL.rpy rfl rfl rfl (rp_move rfl rfl) ?_
        (refine AL.rpy rfl rfl rfl (rp_sub rfl rfl rfl (by first | omega | (dsimp only; omega))) ?_)
        (refine AL.cally (post := ?pc10) rfl rfl (sm_call (args := [_, _, _]) ?hc10 ⟨Try.func32, rfl, rfl, rfl, rfl⟩ rfl rfl rfl rfl) ?_; (case hc10 => (refine Fn.decT (am_In _ _ _) ?_; omega)); rintro _ rfl -; try dsimp only)
        refine AL.rpy rfl rfl rfl (rp_not rfl rfl) ?_
        refine AL.rp rfl rfl (rp_pick rfl rfl rfl) ?_
        refine AL.nil ?_
        try simp only [thenS, S.put, S.newObj, setL, V.cs, List.length_cons, List.length_nil, List.take_succ_cons, List.take_zero, List.drop_succ_cons, List.drop_zero, List.drop_nil, List.nil_append, List.cons_append, List.append_nil, Nat.zero_add, Nat.reduceAdd, List.map_cons, List.map_nil, List.set_cons_zero, List.set_cons_succ]
        refine AW.condF rfl ?_
        refine AW.skip ?_
        try simp only [thenS]
        refine AW.region ?_
        refine AL.rp rfl rfl (rp_move rfl rfl) ?_
        refine AL.rp rfl rfl (rp_add rfl rfl rfl (by first | omega | (dsimp only; omega))) ?_
        refine AL.rp rfl rfl (rp_assign rfl rfl) ?_
        refine AL.nil ?_
        try simp only [thenS, S.put]
        refine ⟨_, ?_, ⟨j + 1, by omega, all_snoc' hy hall2 (arOk_yes (by omega)), rfl⟩, ?_⟩
        ·exact (Less.of rfl (by repeat (first | exact trivial | refine ⟨⟨_, rfl, Wk.refl _⟩, ?_⟩ | refine ⟨⟨_, rfl, Wk.nil _ _⟩, ?_⟩ | refine ⟨⟨_, rfl, Wk.junk _⟩, ?_⟩)) (by repeat (first | exact trivial | refine ⟨rfl, ?_⟩)) rfl)
        ·simp [S.nat, fnd]; omega
       ·have hE : machE ⟨st, sts⟩ = 2 := machE_state hl h60 h400 hx (stOk_arc hy (arOk_no (by omega)))
        rw [hE]
        by_cases h1 : 0 ≤ y.i ∧ y.i ≤ 1000
        ·by_cases h2 : 0 ≤ y.o ∧ y.o ≤ 1000
         ·by_cases h3 : 0 ≤ y.w ∧ y.w ≤ 1000000000
          ·have h4 : ¬ (0 ≤ y.t ∧ y.t ≤ (len : Int) - 1) := fun h4 => hok ⟨h1, h2, h3, h4⟩
           clear hok
           refine AW.seq ?_
           refine AW.seq ?_
           refine AW.region ?_
           refine AL.rp rfl rfl (rp_move rfl rfl) ?_
           refine AL.rp rfl rfl (rp_move rfl rfl) ?_
           refine AL.rp rfl rfl (rp_len_map Try.underlying48 rfl rfl (by assumption)) ?_
           (refine AL.rp rfl rfl (rp_lssT rfl rfl rfl (by first | assumption | omega | (dsimp only; omega))) ?_)
           refine AL.nil ?_
           try simp only [thenS, S.put]
           refine AW.condT rfl ?_
           refine AW.skip ?_
           try simp only [thenS]
           refine AW.seq ?_
           refine AW.block ?_
           refine AW.seq ?_
           refine AW.region ?_
           refine AL.rp rfl rfl (rp_move rfl rfl) ?_
           refine AL.rp rfl rfl (rp_move rfl rfl) ?_
           refine AL.rp rfl rfl (rp_index_map Try.underlying48 inf54 rfl rfl rfl rfl (by assumption)) ?_
           refine AL.rd rfl rfl (rd_loads_ad Try.underlying54 rfl inf54 rfl rfl rfl rfl) ?_
           refine AL.sm rfl (sm_alloc (l := [.d (.p (.int .i64 0)), .d (.p (.int .i64 0)), .d (.p (.int .i64 0)), .d (.p (.int .i64 0))]) 7 inf54 rfl rfl rfl rfl) ?_
           refine AL.st rfl (st_store_any inf54 rfl rfl rfl rfl rfl rfl rfl rfl (by first | decide | (simp; done) | (simp; omega)) rfl) ?_
           refine AL.nil ?_
           try simp only [thenS, S.put, S.newObj, setL, V.cs, List.length_cons, List.length_nil, List.take_succ_cons, List.take_zero, List.drop_succ_cons, List.drop_zero, List.drop_nil, List.nil_append, List.cons_append, List.append_nil, Nat.zero_add, Nat.reduceAdd, List.map_cons, List.map_nil, List.set_cons_zero, List.set_cons_succ]
           refine AW.seq ?_
           refine AW.region ?_
           refine AL.rp rfl rfl (rp_field_ref Try.underlying54 rfl rfl rfl inf3 (by decide) rfl) ?_
           refine AL.rd rfl rfl (rd_load_ref Try.underlying3 rfl rfl rfl rfl rfl rfl) ?_
           refine AL.call (post := ?pc11) rfl (sm_call (args := [_, _, _]) ?hc11 ⟨Try.func32, rfl, rfl, rfl, rfl⟩ rfl rfl rfl rfl) ?_
           case hc11 => first | (refine Fn.decT (am_In _ _ _) ?_; omega) | (refine Fn.decF (am_In _ _ _) ?_; omega) | exact am_In _ _ _
           rintro _ rfl -
           try dsimp only
           refine AL.rp rfl rfl (rp_not rfl rfl) ?_
           refine AL.rp rfl rfl (rp_move rfl rfl) ?_
           refine AL.rpy rfl rfl rfl (rp_field_ref Try.underlying54 rfl rfl rfl inf3 (by decide) rfl) ?_
           refine AL.rdy rfl rfl rfl (rd_load_ref Try.underlying3 rfl rfl rfl rfl rfl rfl) ?_
           (refine AL.cally (post := ?pc12) rfl rfl (sm_call (args := [_, _, _]) ?hc12 ⟨Try.func32, rfl, rfl, rfl, rfl⟩ rfl rfl rfl rfl) ?_; (case hc12 => (refine Fn.decT (am_In _ _ _) ?_; omega)); rintro _ rfl -; try dsimp only)
           refine AL.rpy rfl rfl rfl (rp_not rfl rfl) ?_
           refine AL.rp rfl rfl (rp_pick rfl rfl rfl) ?_
           refine AL.rp rfl rfl (rp_move rfl rfl) ?_
           refine AL.rpy rfl rfl rfl (rp_field_ref Try.underlying54 rfl rfl rfl inf3 (by decide) rfl) ?_
           refine AL.rdy rfl rfl rfl (rd_load_ref Try.underlying3 rfl rfl rfl rfl rfl rfl) ?_
           (refine AL.cally (post := ?pc13) rfl rfl (sm_call (args := [_, _, _]) ?hc13 ⟨Try.func32, rfl, rfl, rfl, rfl⟩ rfl rfl rfl rfl) ?_; (case hc13 => (refine Fn.decT (am_In _ _ _) ?_; omega)); rintro _ rfl -; try dsimp only)
           refine AL.rpy rfl rfl rfl (rp_not rfl rfl) ?_
           refine AL.rp rfl rfl (rp_pick rfl rfl rfl) ?_
           refine AL.rp rfl rfl (rp_move rfl rfl) ?_
           refine AL.rpy rfl rfl rfl (rp_field_ref Try.underlying54 rfl rfl rfl inf3 (by decide) rfl) ?_
           refine AL.rdy rfl rfl rfl (rd_load_ref Try.underlying3 rfl rfl rfl rfl rfl rfl) ?_
           refine AL.rpy rfl rfl rfl (rp_move rfl rfl) ?_
           (refine AL.rpy rfl rfl rfl (rp_sub rfl rfl rfl (by first | omega | (dsimp only; omega))) ?_)
           (refine AL.cally (post := ?pc14) rfl rfl (sm_call (args := [_, _, _]) ?hc14 ⟨Try.func32, rfl, rfl, rfl, rfl⟩ rfl rfl rfl rfl) ?_; (case hc14 => (refine Fn.decF (am_In _ _ _) ?_; omega)); rintro _ rfl -; try dsimp only)
           refine AL.rpy rfl rfl rfl (rp_not rfl rfl) ?_
           refine AL.rp rfl rfl (rp_pick rfl rfl rfl) ?_
           refine AL.nil ?_
           try simp only [thenS, S.put, S.newObj, setL, V.cs, List.length_cons, List.length_nil, List.take_succ_cons, List.take_zero, List.drop_succ_cons, List.drop_zero, List.drop_nil, List.nil_append, List.cons_append, List.append_nil, Nat.zero_add, Nat.reduceAdd, List.map_cons, List.map_nil, List.set_cons_zero, List.set_cons_succ]
           refine AW.condT rfl ?_
           refine AW.seq ?_
           refine AW.region ?_
           refine AL.rp rfl rfl (rp_assign rfl rfl) ?_
           refine AL.nil ?_
           try simp only [thenS, S.put]
           refine AW.ret ?_
           exact ⟨[_], ⟨rfl, trivial⟩, rfl, by simp [tupOf, V.pure, V.has]⟩
          ·clear hok
           refine AW.seq ?_
           refine AW.seq ?_
           refine AW.region ?_
           refine AL.rp rfl rfl (rp_move rfl rfl) ?_
           refine AL.rp rfl rfl (rp_move rfl rfl) ?_
           refine AL.rp rfl rfl (rp_len_map Try.underlying48 rfl rfl (by assumption)) ?_
           (refine AL.rp rfl rfl (rp_lssT rfl rfl rfl (by first | assumption | omega | (dsimp only; omega))) ?_)
           refine AL.nil ?_
           try simp only [thenS, S.put]
           refine AW.condT rfl ?_
           refine AW.skip ?_
           try simp only [thenS]
           refine AW.seq ?_
           refine AW.block ?_
           refine AW.seq ?_
           refine AW.region ?_
           refine AL.rp rfl rfl (rp_move rfl rfl) ?_
           refine AL.rp rfl rfl (rp_move rfl rfl) ?_
           refine AL.rp rfl rfl (rp_index_map Try.underlying48 inf54 rfl rfl rfl rfl (by assumption)) ?_
           refine AL.rd rfl rfl (rd_loads_ad Try.underlying54 rfl inf54 rfl rfl rfl rfl) ?_
           refine AL.sm rfl (sm_alloc (l := [.d (.p (.int .i64 0)), .d (.p (.int .i64 0)), .d (.p (.int .i64 0)), .d (.p (.int .i64 0))]) 7 inf54 rfl rfl rfl rfl) ?_
           refine AL.st rfl (st_store_any inf54 rfl rfl rfl rfl rfl rfl rfl rfl (by first | decide | (simp; done) | (simp; omega)) rfl) ?_
           refine AL.nil ?_
           try simp only [thenS, S.put, S.newObj, setL, V.cs, List.length_cons, List.length_nil, List.take_succ_cons, List.take_zero, List.drop_succ_cons, List.drop_zero, List.drop_nil, List.nil_append, List.cons_append, List.append_nil, Nat.zero_add, Nat.reduceAdd, List.map_cons, List.map_nil, List.set_cons_zero, List.set_cons_succ]
           refine AW.seq ?_
           refine AW.region ?_
           refine AL.rp rfl rfl (rp_field_ref Try.underlying54 rfl rfl rfl inf3 (by decide) rfl) ?_
           refine AL.rd rfl rfl (rd_load_ref Try.underlying3 rfl rfl rfl rfl rfl rfl) ?_
           refine AL.call (post := ?pc15) rfl (sm_call (args := [_, _, _]) ?hc15 ⟨Try.func32, rfl, rfl, rfl, rfl⟩ rfl rfl rfl rfl) ?_
           case hc15 => first | (refine Fn.decT (am_In _ _ _) ?_; omega) | (refine Fn.decF (am_In _ _ _) ?_; omega) | exact am_In _ _ _
           rintro _ rfl -
           try dsimp only
           refine AL.rp rfl rfl (rp_not rfl rfl) ?_
           refine AL.rp rfl rfl (rp_move rfl rfl) ?_
           refine AL.rpy rfl rfl rfl (rp_field_ref Try.underlying54 rfl rfl rfl inf3 (by decide) rfl) ?_
           refine AL.rdy rfl rfl rfl (rd_load_ref Try.underlying3 rfl rfl rfl rfl rfl rfl) ?_
           (refine AL.cally (post := ?pc16) rfl rfl (sm_call (args := [_, _, _]) ?hc16 ⟨Try.func32, rfl, rfl, rfl, rfl⟩ rfl rfl rfl rfl) ?_; (case hc16 => (refine Fn.decT (am_In _ _ _) ?_; omega)); rintro _ rfl -; try dsimp only)
           refine AL.rpy rfl rfl rfl (rp_not rfl rfl) ?_
           refine AL.rp rfl rfl (rp_pick rfl rfl rfl) ?_
           refine AL.rp rfl rfl (rp_move rfl rfl) ?_
           refine AL.rpy rfl rfl rfl (rp_field_ref Try.underlying54 rfl rfl rfl inf3 (by decide) rfl) ?_
           refine AL.rdy rfl rfl rfl (rd_load_ref Try.underlying3 rfl rfl rfl rfl rfl rfl) ?_
           (refine AL.cally (post := ?pc17) rfl rfl (sm_call (args := [_, _, _]) ?hc17 ⟨Try.func32, rfl, rfl, rfl, rfl⟩ rfl rfl rfl rfl) ?_; (case hc17 => (refine Fn.decF (am_In _ _ _) ?_; omega)); rintro _ rfl -; try dsimp only)
           refine AL.rpy rfl rfl rfl (rp_not rfl rfl) ?_
           refine AL.rp rfl rfl (rp_pick rfl rfl rfl) ?_
           refine AL.rp rfl rfl (rp_move rfl rfl) ?_
           refine AL.no rfl rfl rfl rfl ?_
           refine AL.no rfl rfl rfl rfl ?_
           refine AL.no rfl rfl rfl rfl ?_
           refine AL.no rfl rfl rfl rfl ?_
           refine AL.no rfl rfl rfl rfl ?_
           refine AL.no rfl rfl rfl rfl ?_
           refine AL.rp rfl rfl (rp_pick rfl rfl rfl) ?_
           refine AL.nil ?_
           try simp only [thenS, S.put, S.newObj, setL, V.cs, List.length_cons, List.length_nil, List.take_succ_cons, List.take_zero, List.drop_succ_cons, List.drop_zero, List.drop_nil, List.nil_append, List.cons_append, List.append_nil, Nat.zero_add, Nat.reduceAdd, List.map_cons, List.map_nil, List.set_cons_zero, List.set_cons_succ]
           refine AW.condT rfl ?_
           refine AW.seq ?_
           refine AW.region ?_
           refine AL.rp rfl rfl (rp_assign rfl rfl) ?_
           refine AL.nil ?_
           try simp only [thenS, S.put]
           refine AW.ret ?_
           exact ⟨[_], ⟨rfl, trivial⟩, rfl, by simp [tupOf, V.pure, V.has]⟩
         ·clear hok
          refine AW.seq ?_
          refine AW.seq ?_
          refine AW.region ?_
          refine AL.rp rfl rfl (rp_move rfl rfl) ?_
          refine AL.rp rfl rfl (rp_move rfl rfl) ?_
          refine AL.rp rfl rfl (rp_len_map Try.underlying48 rfl rfl (by assumption)) ?_
          (refine AL.rp rfl rfl (rp_lssT rfl rfl rfl (by first | assumption | omega | (dsimp only; omega))) ?_)
          refine AL.nil ?_
          try simp only [thenS, S.put]
          refine AW.condT rfl ?_
          refine AW.skip ?_
          try simp only [thenS]
          refine AW.seq ?_
          refine AW.block ?_
          refine AW.seq ?_
          refine AW.region ?_
          refine AL.rp rfl rfl (rp_move rfl rfl) ?_
          refine AL.rp rfl rfl (rp_move rfl rfl) ?_
          refine AL.rp rfl rfl (rp_index_map Try.underlying48 inf54 rfl rfl rfl rfl (by assumption)) ?_
          refine AL.rd rfl rfl (rd_loads_ad Try.underlying54 rfl inf54 rfl rfl rfl rfl) ?_
          refine AL.sm rfl (sm_alloc (l := [.d (.p (.int .i64 0)), .d (.p (.int .i64 0)), .d (.p (.int .i64 0)), .d (.p (.int .i64 0))]) 7 inf54 rfl rfl rfl rfl) ?_
          refine AL.st rfl (st_store_any inf54 rfl rfl rfl rfl rfl rfl rfl rfl (by first | decide | (simp; done) | (simp; omega)) rfl) ?_
          refine AL.nil ?_
          try simp only [thenS, S.put, S.newObj, setL, V.cs, List.length_cons, List.length_nil, List.take_succ_cons, List.take_zero, List.drop_succ_cons, List.drop_zero, List.drop_nil, List.nil_append, List.cons_append, List.append_nil, Nat.zero_add, Nat.reduceAdd, List.map_cons, List.map_nil, List.set_cons_zero, List.set_cons_succ]
          refine AW.seq ?_
          refine AW.region ?_
          refine AL.rp rfl rfl (rp_field_ref Try.underlying54 rfl rfl rfl inf3 (by decide) rfl) ?_
          refine AL.rd rfl rfl (rd_load_ref Try.underlying3 rfl rfl rfl rfl rfl rfl) ?_
          refine AL.call (post := ?pc19) rfl (sm_call (args := [_, _, _]) ?hc19 ⟨Try.func32, rfl, rfl, rfl, rfl⟩ rfl rfl rfl rfl) ?_
          case hc19 => first | (refine Fn.decT (am_In _ _ _) ?_; omega) | (refine Fn.decF (am_In _ _ _) ?_; omega) | exact am_In _ _ _
          rintro _ rfl -
          try dsimp only
          refine AL.rp rfl rfl (rp_not rfl rfl) ?_
          refine AL.rp rfl rfl (rp_move rfl rfl) ?_
          refine AL.rpy rfl rfl rfl (rp_field_ref Try.underlying54 rfl rfl rfl inf3 (by decide) rfl) ?_
          refine AL.rdy rfl rfl rfl (rd_load_ref Try.underlying3 rfl rfl rfl rfl rfl rfl) ?_
          (refine AL.cally (post := ?pc20) rfl rfl (sm_call (args := [_, _, _]) ?hc20 ⟨Try.func32, rfl, rfl, rfl, rfl⟩ rfl rfl rfl rfl) ?_; (case hc20 => (refine Fn.decF (am_In _ _ _) ?_; omega)); rintro _ rfl -; try dsimp only)
          refine AL.rpy rfl rfl rfl (rp_not rfl rfl) ?_
          refine AL.rp rfl rfl (rp_pick rfl rfl rfl) ?_
          refine AL.rp rfl rfl (rp_move rfl rfl) ?_
          refine AL.no rfl rfl rfl rfl ?_
          refine AL.no rfl rfl rfl rfl ?_
          refine AL.no rfl rfl rfl rfl ?_
          refine AL.no rfl rfl rfl rfl ?_
          refine AL.rp rfl rfl (rp_pick rfl rfl rfl) ?_
          refine AL.rp rfl rfl (rp_move rfl rfl) ?_
          refine AL.no rfl rfl rfl rfl ?_
          refine AL.no rfl rfl rfl rfl ?_
          refine AL.no rfl rfl rfl rfl ?_
          refine AL.no rfl rfl rfl rfl ?_
          refine AL.no rfl rfl rfl rfl ?_
          refine AL.no rfl rfl rfl rfl ?_
          refine AL.rp rfl rfl (rp_pick rfl rfl rfl) ?_
          refine AL.nil ?_
          try simp only [thenS, S.put, S.newObj, setL, V.cs, List.length_cons, List.length_nil, List.take_succ_cons, List.take_zero, List.drop_succ_cons, List.drop_zero, List.drop_nil, List.nil_append, List.cons_append, List.append_nil, Nat.zero_add, Nat.reduceAdd, List.map_cons, List.map_nil, List.set_cons_zero, List.set_cons_succ]
          refine AW.condT rfl ?_
          refine AW.seq ?_
          refine AW.region ?_
          refine AL.rp rfl rfl (rp_assign rfl rfl) ?_
          refine AL.nil ?_
          try simp only [thenS, S.put]
          refine AW.ret ?_
          exact ⟨[_], ⟨rfl, trivial⟩, rfl, by simp [tupOf, V.pure, V.has]⟩
        ·clear hok
         refine AW.seq ?_
         refine AW.seq ?_
         refine AW.region ?_
         refine AL.rp rfl rfl (rp_move rfl rfl) ?_
         refine AL.rp rfl rfl (rp_move rfl rfl) ?_
         refine AL.rp rfl rfl (rp_len_map Try.underlying48 rfl rfl (by assumption)) ?_
         (refine AL.rp rfl rfl (rp_lssT rfl rfl rfl (by first | assumption | omega | (dsimp only; omega))) ?_)
         refine AL.nil ?_
         try simp only [thenS, S.put]
         refine AW.condT rfl ?_
         refine AW.skip ?_
         try simp only [thenS]
         refine AW.seq ?_
         refine AW.block ?_
         refine AW.seq ?_
         refine AW.region ?_
         refine AL.rp rfl rfl (rp_move rfl rfl) ?_
         refine AL.rp rfl rfl (rp_move rfl rfl) ?_
         refine AL.rp rfl rfl (rp_index_map Try.underlying48 inf54 rfl rfl rfl rfl (by assumption)) ?_
         refine AL.rd rfl rfl (rd_loads_ad Try.underlying54 rfl inf54 rfl rfl rfl rfl) ?_
         refine AL.sm rfl (sm_alloc (l := [.d (.p (.int .i64 0)), .d (.p (.int .i64 0)), .d (.p (.int .i64 0)), .d (.p (.int .i64 0))]) 7 inf54 rfl rfl rfl rfl) ?_
         refine AL.st rfl (st_store_any inf54 rfl rfl rfl rfl rfl rfl rfl rfl (by first | decide | (simp; done) | (simp; omega)) rfl) ?_
         refine AL.nil ?_
         try simp only [thenS, S.put, S.newObj, setL, V.cs, List.length_cons, List.length_nil, List.take_succ_cons, List.take_zero, List.drop_succ_cons, List.drop_zero, List.drop_nil, List.nil_append, List.cons_append, List.append_nil, Nat.zero_add, Nat.reduceAdd, List.map_cons, List.map_nil, List.set_cons_zero, List.set_cons_succ]
         refine AW.seq ?_
         refine AW.region ?_
         refine AL.rp rfl rfl (rp_field_ref Try.underlying54 rfl rfl rfl inf3 (by decide) rfl) ?_
         refine AL.rd rfl rfl (rd_load_ref Try.underlying3 rfl rfl rfl rfl rfl rfl) ?_
         refine AL.call (post := ?pc23) rfl (sm_call (args := [_, _, _]) ?hc23 ⟨Try.func32, rfl, rfl, rfl, rfl⟩ rfl rfl rfl rfl) ?_
         case hc23 => first | (refine Fn.decT (am_In _ _ _) ?_; omega) | (refine Fn.decF (am_In _ _ _) ?_; omega) | exact am_In _ _ _
         rintro _ rfl -
         try dsimp only
         refine AL.rp rfl rfl (rp_not rfl rfl) ?_
         refine AL.rp rfl rfl (rp_move rfl rfl) ?_
         refine AL.no rfl rfl rfl rfl ?_
         refine AL.no rfl rfl rfl rfl ?_
         refine AL.no rfl rfl rfl rfl ?_
         refine AL.no rfl rfl rfl rfl ?_
         refine AL.rp rfl rfl (rp_pick rfl rfl rfl) ?_
         refine AL.rp rfl rfl (rp_move rfl rfl) ?_
         refine AL.no rfl rfl rfl rfl ?_
         refine AL.no rfl rfl rfl rfl ?_
         refine AL.no rfl rfl rfl rfl ?_
         refine AL.no rfl rfl rfl rfl ?_
         refine AL.rp rfl rfl (rp_pick rfl rfl rfl) ?_
         refine AL.rp rfl rfl (rp_move rfl rfl) ?_
         refine AL.no rfl rfl rfl rfl ?_
         refine AL.no rfl rfl rfl rfl ?_
         refine AL.no rfl rfl rfl rfl ?_
         refine AL.no rfl rfl rfl rfl ?_
         refine AL.no rfl rfl rfl rfl ?_
         refine AL.no rfl rfl rfl rfl ?_
         refine AL.rp rfl rfl (rp_pick rfl rfl rfl) ?_
         refine AL.nil ?_
         try simp only [thenS, S.put, S.newObj, setL, V.cs, List.length_cons, List.length_nil, List.take_succ_cons, List.take_zero, List.drop_succ_cons, List.drop_zero, List.drop_nil, List.nil_append, List.cons_append, List.append_nil, Nat.zero_add, Nat.reduceAdd, List.map_cons, List.map_nil, List.set_cons_zero, List.set_cons_succ]
         refine AW.condT rfl ?_
         refine AW.seq ?_
         refine AW.region ?_
         refine AL.rp rfl rfl (rp_assign rfl rfl) ?_
         refine AL.nil ?_
         try simp only [thenS, S.put]
         refine AW.ret ?_
         exact ⟨[_], ⟨rfl, trivial⟩, rfl, by simp [tupOf, V.pure, V.has]⟩
      ·skip
       refine AW.seq ?_
       refine AW.seq ?_
       refine AW.region ?_
       refine AL.rp rfl rfl (rp_move rfl rfl) ?_
       refine AL.rp rfl rfl (rp_move rfl rfl) ?_
       refine AL.rp rfl rfl (rp_len_map Try.underlying48 rfl rfl (by assumption)) ?_
       (refine AL.rp rfl rfl (rp_lssF rfl rfl rfl (by first | assumption | omega | (dsimp only; omega))) ?_)
       refine AL.nil ?_
       try simp only [thenS, S.put]
       refine AW.condF rfl ?_
       refine AW.exit ?_
       try simp only [thenS, inBlockS, ↓reduceIte, Nat.reduceEqDiff]
       refine AW.region ?_
       refine AL.rp rfl rfl (rp_move rfl rfl) ?_
       refine AL.rp rfl rfl (rp_add rfl rfl rfl (by first | omega | (dsimp only; omega))) ?_
       refine AL.rp rfl rfl (rp_assign rfl rfl) ?_
       refine AL.nil ?_
       try simp only [thenS, S.put]
       have hA : x.arcs.all (arOk len) = true := by rwa [List.take_of_length_le (by omega)] at hall2
       refine ⟨_, ?_, ⟨k + 1, by omega, all_snoc' hx hall (stOk_yes (by simp [finOk]; omega) hA), rfl⟩, ?_⟩
       ·exact (Less.of rfl (by repeat (first | exact trivial | refine ⟨⟨_, rfl, Wk.refl _⟩, ?_⟩ | refine ⟨⟨_, rfl, Wk.nil _ _⟩, ?_⟩ | refine ⟨⟨_, rfl, Wk.junk _⟩, ?_⟩)) (by repeat (first | exact trivial | refine ⟨rfl, ?_⟩)) rfl)
       ·simp [S.nat, fnd]; omega
     ·have hE : machE ⟨st, sts⟩ = 2 := machE_state hl h60 h400 hx (stOk_fin (by simp [finOk]; omega))
      rw [hE]
      refine AW.seq ?_
      refine AW.seq ?_
      refine AW.region ?_
      refine AL.rp rfl rfl (rp_move rfl rfl) ?_
      refine AL.rp rfl rfl (rp_move rfl rfl) ?_
      (refine AL.rp rfl rfl (rp_lssT rfl rfl rfl (by first | assumption | omega | (dsimp only; omega))) ?_)
      refine AL.nil ?_
      try simp only [thenS, S.put]
      refine AW.condT rfl ?_
      refine AW.skip ?_
      try simp only [thenS]
      refine AW.seq ?_
      refine AW.block ?_
      refine AW.seq ?_
      refine AW.seq ?_
      refine AW.region ?_
      refine AL.rp rfl rfl (rp_field_ref Try.underlying24 rfl rfl rfl inf22 (by decide) rfl) ?_
      refine AL.rd rfl rfl (rd_load_ref Try.underlying22 rfl rfl rfl rfl rfl rfl) ?_
      refine AL.rp rfl rfl (rp_move rfl rfl) ?_
      refine AL.rp rfl rfl (rp_index_map Try.underlying22 inf50 rfl rfl rfl rfl (by assumption)) ?_
      refine AL.rp rfl rfl (rp_field_ad Try.underlying50 rfl rfl rfl inf3 (by decide) rfl) ?_
      refine AL.rd rfl rfl (rd_load_ad Try.underlying3 rfl rfl rfl rfl) ?_
      refine AL.call (post := ?pc27) rfl (sm_call (args := [_]) ?hc27 ⟨Try.func33, rfl, rfl, rfl, rfl⟩ rfl rfl rfl rfl) ?_
      case hc27 => first | (refine Fn.decT (am_IsWeight _) ?_; omega) | (refine Fn.decF (am_IsWeight _) ?_; omega) | exact am_IsWeight _
      rintro _ rfl -
      try dsimp only
      refine AL.rp rfl rfl (rp_not rfl rfl) ?_
      refine AL.nil ?_
      try simp only [thenS, S.put, S.newObj, setL, V.cs, List.length_cons, List.length_nil, List.take_succ_cons, List.take_zero, List.drop_succ_cons, List.drop_zero, List.drop_nil, List.nil_append, List.cons_append, List.append_nil, Nat.zero_add, Nat.reduceAdd, List.map_cons, List.map_nil, List.set_cons_zero, List.set_cons_succ]
      refine AW.condT rfl ?_
      refine AW.seq ?_
      refine AW.region ?_
      refine AL.rp rfl rfl (rp_assign rfl rfl) ?_
      refine AL.nil ?_
      try simp only [thenS, S.put]
      refine AW.ret ?_
      exact ⟨[_], ⟨rfl, trivial⟩, rfl, by simp [tupOf, V.pure, V.has]⟩
    ·skip
     refine AW.seq ?_
     refine AW.seq ?_
     refine AW.region ?_
     refine AL.rp rfl rfl (rp_move rfl rfl) ?_
     refine AL.rp rfl rfl (rp_move rfl rfl) ?_
     (refine AL.rp rfl rfl (rp_lssF rfl rfl rfl (by first | assumption | omega | (dsimp only; omega))) ?_)
     refine AL.nil ?_
     try simp only [thenS, S.put]
     refine AW.condF rfl ?_
     refine AW.exit ?_
     try simp only [thenS, inBlockS, ↓reduceIte, Nat.reduceEqDiff]
     refine AW.seq ?_
     refine AW.region ?_
     refine AL.rp rfl rfl (rp_assign rfl rfl) ?_
     refine AL.nil ?_
     try simp only [thenS, S.put]
     refine AW.ret ?_
     exact ⟨[_], ⟨rfl, trivial⟩, by rw [machE_good hl h60 h400 (by omega) hlt hall]; rfl, by simp [tupOf, V.pure, V.has]⟩
   ·skip
    refine AW.seq ?_
    refine AW.region ?_
    refine AL.sm rfl (sm_box 1 rfl rfl rfl rfl rfl) ?_
    refine AL.rp rfl rfl (rp_assign rfl rfl) ?_
    refine AL.nil ?_
    try simp only [thenS, S.put, S.newObj, setL, V.cs, List.length_cons, List.length_nil, List.take_succ_cons, List.take_zero, List.drop_succ_cons, List.drop_zero, List.drop_nil, List.nil_append, List.cons_append, List.append_nil, Nat.zero_add, Nat.reduceAdd, List.map_cons, List.map_nil, List.set_cons_zero, List.set_cons_succ, enum]
    refine AW.seq ?_
    refine AW.region ?_
    refine AL.rp rfl rfl (rp_field_ref Try.underlying24 rfl rfl rfl inf22 (by decide) rfl) ?_
    refine AL.rd rfl rfl (rd_load_ref Try.underlying22 rfl rfl rfl rfl rfl rfl) ?_
    refine AL.rp rfl rfl (rp_len_map Try.underlying22 rfl rfl (by assumption)) ?_
    refine AL.rp rfl rfl (rp_assign rfl rfl) ?_
    refine AL.nil ?_
    try simp only [thenS, S.put]
    refine AW.seq ?_
    refine AW.seq ?_
    refine AW.region ?_
    refine AL.rp rfl rfl (rp_move rfl rfl) ?_
    (refine AL.rp rfl rfl (rp_gtrF rfl rfl rfl (by first | assumption | omega | (dsimp only; omega))) ?_)
    refine AL.rp rfl rfl (rp_move rfl rfl) ?_
    refine AL.rdy rfl rfl rfl (rd_loads_ref Try.underlying24 rfl inf24 rfl rfl rfl rfl rfl rfl) ?_
    (refine AL.cally (post := ?pc28) rfl rfl (sm_call (args := [_]) ?hc28 ⟨Try.func31, rfl, rfl, rfl, rfl⟩ rfl rfl rfl rfl) ?_; (case hc28 => (exact am_ArcCount ⟨st, sts⟩ (by simp only; omega))); rintro _ rfl -; try dsimp only)
    (refine AL.rpy rfl rfl rfl (rp_gtrF rfl rfl rfl (by first | assumption | omega | (dsimp only; omega))) ?_)
    refine AL.rp rfl rfl (rp_pick rfl rfl rfl) ?_
    refine AL.nil ?_
    try simp only [thenS, S.put, S.newObj, setL, V.cs, List.length_cons, List.length_nil, List.take_succ_cons, List.take_zero, List.drop_succ_cons, List.drop_zero, List.drop_nil, List.nil_append, List.cons_append, List.append_nil, Nat.zero_add, Nat.reduceAdd, List.map_cons, List.map_nil, List.set_cons_zero, List.set_cons_succ]
    refine AW.condF rfl ?_
    refine AW.skip ?_
    try simp only [thenS]
    refine AW.seq ?_
    refine AW.seq ?_
    refine AW.region ?_
    refine AL.rp rfl rfl (rp_field_ref Try.underlying24 rfl rfl rfl inf3 (by decide) rfl) ?_
    refine AL.rd rfl rfl (rd_load_ref Try.underlying3 rfl rfl rfl rfl rfl rfl) ?_
    refine AL.rp rfl rfl (rp_move rfl rfl) ?_
    refine AL.rp rfl rfl (rp_sub rfl rfl rfl (by first | omega | (dsimp only; omega))) ?_
    refine AL.call (post := ?pc29) rfl (sm_call (args := [_, _, _]) ?hc29 ⟨Try.func32, rfl, rfl, rfl, rfl⟩ rfl rfl rfl rfl) ?_
    case hc29 => first | (refine Fn.decT (am_In _ _ _) ?_; omega) | (refine Fn.decF (am_In _ _ _) ?_; omega) | exact am_In _ _ _
    rintro _ rfl -
    try dsimp only
    refine AL.rp rfl rfl (rp_not rfl rfl) ?_
    refine AL.nil ?_
    try simp only [thenS, S.put, S.newObj, setL, V.cs, List.length_cons, List.length_nil, List.take_succ_cons, List.take_zero, List.drop_succ_cons, List.drop_zero, List.drop_nil, List.nil_append, List.cons_append, List.append_nil, Nat.zero_add, Nat.reduceAdd, List.map_cons, List.map_nil, List.set_cons_zero, List.set_cons_succ]
    refine AW.condT rfl ?_
    refine AW.seq ?_
    refine AW.region ?_
    refine AL.rp rfl rfl (rp_assign rfl rfl) ?_
    refine AL.nil ?_
    try simp only [thenS, S.put]
    refine AW.ret ?_
    exact ⟨[_], ⟨rfl, trivial⟩, by rw [machE_start hl h60 h400 (by omega)]; rfl, by simp [tupOf, V.pure, V.has]⟩
end Go.Proofs.Ythlcginebeapdaa
namespace Go.Proofs.Ythlcginebeapdaa
open Go.RowKit
set_option linter.unusedSimpArgs false
set_option linter.unusedVariables false

section
variable {c : Cx} {s : S} {Q : Exit → S → Prop} {L : List Oper} {n : Nat} {l l' : Array Bool} {i j k : Nat} {o : Oper}
def AN (c : Cx) (ops : Array Oper) (Q : Exit → S → Prop) (n : Nat) (l : Array Bool) (s : S) : Prop := closedL .any ops l → ∀ g a w, Sim c g s a w → anyN c.P .any ops (QQ c Q) (fun _ => True) (fun _ => true) n l a w
theorem AN.rp {v : V} (hi : L[i]? = some o) (hg : o.guard = none) (hd : dok s o = true) (hp : noP Q) (hok : (Region.noSelect L.toArray && (Region.ready .any L.toArray l).contains i && Region.free .any L.toArray l i) = true) (hl : l.setIfInBounds i true = l') (h : RP c o s v) (hN : AN c L.toArray Q n l' (s.put o.dst v)) : AN c L.toArray Q (n + 1) l s := by
  intro hcl g a w hs
  simp only [Bool.and_eq_true] at hok
  obtain ⟨⟨h1, h2⟩, h3⟩ := hok
  obtain ⟨x, h4, h5⟩ := h g a w hs
  have hr : i ∈ Region.ready .any L.toArray l := by simpa using h2
  have hi' : L.toArray[i]? = some o := by simpa using hi
  subst hl
  exact anyN_early (N := 0) (oi := o) (fun j hj hlt => .inl rfl) hi' (Region.noSelect_spec h1) (QQ_noP hp _ _) n l a w hcl (Region.free_spec hi' h3) hr (.inl ⟨by simp [Region.wanted, hg], fun w' _ => h5 w'⟩) trivial (hN (closed_set hcl hr) g _ w (hs.put o.dst (dok_spec hd) h4))
theorem AN.rpy {v : V} {j : Nat} {b : Bool} (hi : L[i]? = some o) (hg : o.guard = some (j, b)) (hy : yld L.toArray s j = some b) (hd : dok s o = true) (hp : noP Q) (hok : (Region.noSelect L.toArray && (Region.ready .any L.toArray l).contains i && Region.free .any L.toArray l i) = true) (hl : l.setIfInBounds i true = l') (h : RP c o s v) (hN : AN c L.toArray Q n l' (s.put o.dst v)) : AN c L.toArray Q (n + 1) l s := by
  intro hcl g a w hs
  simp only [Bool.and_eq_true] at hok
  obtain ⟨⟨h1, h2⟩, h3⟩ := hok
  obtain ⟨x, h4, h5⟩ := h g a w hs
  have hr : i ∈ Region.ready .any L.toArray l := by simpa using h2
  have hi' : L.toArray[i]? = some o := by simpa using hi
  subst hl
  exact anyN_early (N := 0) (oi := o) (fun j hj hlt => .inl rfl) hi' (Region.noSelect_spec h1) (QQ_noP hp _ _) n l a w hcl (Region.free_spec hi' h3) hr (.inl ⟨by simp [Region.wanted, hg, yld_spec hy hs], fun w' _ => h5 w'⟩) trivial (hN (closed_set hcl hr) g _ w (hs.put o.dst (dok_spec hd) h4))
theorem AN.skip {j : Nat} {b : Bool} (hi : L[i]? = some o) (hg : o.guard = some (j, b)) (hy : (∃ b', yld L.toArray s j = some b' ∧ (b' == b) = false) ∨ und L.toArray s j) (hd : dok s o = true) (hp : noP Q) (hok : (Region.noSelect L.toArray && (Region.ready .any L.toArray l).contains i && Region.free .any L.toArray l i) = true) (hl : l.setIfInBounds i true = l') (hN : AN c L.toArray Q n l' (s.put o.dst (.d (.p undef)))) : AN c L.toArray Q (n + 1) l s := by
  intro hcl g a w hs
  simp only [Bool.and_eq_true] at hok
  obtain ⟨⟨h1, h2⟩, h3⟩ := hok
  have hr : i ∈ Region.ready .any L.toArray l := by simpa using h2
  have hi' : L.toArray[i]? = some o := by simpa using hi
  subst hl
  refine anyN_early (N := 0) (oi := o) (v := undef) (fun j hj hlt => .inl rfl) hi' (Region.noSelect_spec h1) (QQ_noP hp _ _) n l a w hcl (Region.free_spec hi' h3) hr (.inr ⟨?_, rfl⟩) trivial (hN (closed_set hcl hr) g _ w (hs.put o.dst (dok_spec hd) (.d _ _ (.p _))))
  rcases hy with ⟨b', h, hb⟩ | h
  · simp only [Region.wanted, hg, yld_spec h hs]; simpa using hb
  · simp only [Region.wanted, hg, und_spec h hs]; simp
def BR (c : Cx) (L : List Oper) (Q : Exit → S → Prop) (n : Nat) (l : Array Bool) (s : S) (i : Nat) : Prop := closedL .any L.toArray l → i ∈ Region.ready .any L.toArray l → ∀ g a w, Sim c g s a w → wpOp c.P L.toArray (QQ c Q) i (fun a' w' => ((fun _ => true) i = true → (fun _ => True) w') ∧ anyN c.P .any L.toArray (QQ c Q) (fun _ => True) (fun _ => true) n (l.setIfInBounds i true) a' w') a w
theorem BR.mk (hi : L[i]? = some o) (hg : o.guard = none) (hl : l.setIfInBounds i true = l') (h : Step c o s (AN c L.toArray Q n l')) : BR c L Q n l s i := fun hcl hr g a w hs =>
  wpOp_of (by simpa using hi) hg (h g a w hs _ _ fun g' s' a' w' hn hs' => ⟨fun _ => trivial, by rw [hl]; exact hn (hl ▸ closed_set hcl hr) g' a' w' hs'⟩)
theorem BR.mky {j : Nat} {b : Bool} (hi : L[i]? = some o) (hg : o.guard = some (j, b)) (hy : yld L.toArray s j = some b) (hl : l.setIfInBounds i true = l') (h : Step c o s (AN c L.toArray Q n l')) : BR c L Q n l s i := fun hcl hr g a w hs =>
  wpOp_ofy (by simpa using hi) (by simp [Region.wanted, hg, yld_spec hy hs]) (h g a w hs _ _ fun g' s' a' w' hn hs' => ⟨fun _ => trivial, by rw [hl]; exact hn (hl ▸ closed_set hcl hr) g' a' w' hs'⟩)
theorem AN.br {rs : List Nat} (hr : Region.ready .any L.toArray l = rs) (hne : rs ≠ []) (h : ∀ i ∈ rs, BR c L Q n l s i) : AN c L.toArray Q (n + 1) l s := by
  intro hcl g a w hs
  exact ⟨fun h0 => absurd (hr.symm.trans h0) hne, fun j hj => h j (hr ▸ hj) hcl hj g a w hs⟩
theorem AN.br1 (hr : Region.ready .any L.toArray l = [i]) (h : BR c L Q n l s i) : AN c L.toArray Q (n + 1) l s := AN.br hr (by simp) fun x hx => by
  obtain rfl := List.mem_singleton.1 hx
  exact h
theorem AN.br2 (hr : Region.ready .any L.toArray l = [i, j]) (h : BR c L Q n l s i) (h2 : BR c L Q n l s j) : AN c L.toArray Q (n + 1) l s := AN.br hr (by simp) fun x hx => by
  simp only [List.mem_cons, List.not_mem_nil, or_false] at hx
  rcases hx with rfl | rfl
  · exact h
  · exact h2
theorem AN.nil (hr : Region.ready .any L.toArray l = []) (h : Q .normal s) : AN c L.toArray Q 0 l s := fun hcl g a w hs => ⟨hr, g, s, h, hs⟩
theorem AN.less {s' : S} (h : AN c L.toArray Q n l s') (hl : Less s' s) : AN c L.toArray Q n l s := fun hcl g a w hs => h hcl g a w (hs.less hl)
theorem ST.rd {N : S → Prop} {v : V} (hd : dok s o = true) (h : RD c o s v) (hN : N (s.put o.dst v)) : Step c o s N := by
  intro g a w hs K Q hK
  obtain ⟨x, h1, h2⟩ := h g a w hs
  unfold Oper.wp
  rw [h2 w (Below.refl _ _)]
  exact hK g _ _ _ hN (hs.put o.dst (dok_spec hd) h1)
theorem ST.rp {N : S → Prop} {v : V} (hd : dok s o = true) (h : RP c o s v) (hN : N (s.put o.dst v)) : Step c o s N := ST.rd hd h.rd hN
theorem ST.st {N : S → Prop} {X : S} (h : Step c o s (fun s' => s' = X)) (hN : N X) : Step c o s N := fun g a w hs K Q hK => h g a w hs K Q fun g' s' a' w' h1 h2 => hK g' s' a' w' (by rw [h1]; exact hN) h2
theorem ST.sm {N : S → Prop} {X : S} (h : StepM c o s (fun s' => s' = X)) (hN : N X) : Step c o s N := ST.st h.step hN
theorem ST.call {N : S → Prop} {post : V → Prop} (h : StepM c o s (fun s' => ∃ v, post v ∧ v.pure ∧ s' = s.put o.dst v)) (hN : ∀ v, post v → v.pure → N (s.put o.dst v)) : Step c o s N := fun g a w hs K Q hK => h.step g a w hs K Q fun g' s' a' w' ⟨v, h1, h2, h3⟩ h4 => hK g' s' a' w' (by rw [h3]; exact hN v h1 h2) h4
theorem AW.drawT {id : Nat} {N : S} (n : Nat) (hm : c.P.follows .mixedOrders = true) (hlen : L.length = n) (hl : Array.replicate n false = l) (h : AN c L.toArray (QJ N) n l s) (hN : Q .normal N) : AW c (.region id L.toArray true) Q s := by
  intro g a w hs
  refine wp_mono (Q := QQ c (QJ N)) ?_ (fun e a w hq => by
    obtain ⟨g', s', h3, h4⟩ := hq
    cases e <;> first | exact ⟨g', N, hN, h4.less h3⟩ | exact h3.elim)
  refine wp_region_any hm ?_
  have hs' : Sim c g s a w.drew := hs.move (Below.drew (Below.refl _ _))
  subst hl hlen
  have h1 := any_of_anyN _ _ _ _ (h (by
    intro j oj _ hl
    rw [Array.getD_eq_getD_getElem?, Array.getElem?_replicate] at hl
    split at hl <;> simp at hl) g a _ hs')
  simpa using h1
end
end Go.Proofs.Ythlcginebeapdaa
