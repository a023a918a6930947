-- %hmode
/- packed.Encode. -/
import Derived.Test.YtjbldphpkkmdpaaAmPut
import Derived.Test.YtjbldphpkkmdpaaAmRem
import Derived.Test.YtjbldphpkkmdpaaAmTree
import Derived.Test.YtjbldphpkkmdpaaReach
namespace Go.Proofs.Ytjbldphpkkmdpaa
open Go.RowKit
set_option linter.unusedSimpArgs false
set_option linter.unusedVariables false
set_option maxRecDepth 100000

def arcB (a : Ar) : List Nat := splitB a.i.toNat 2 ++ splitB a.o.toNat 2 ++ splitB a.w.toNat 4 ++ splitB a.t.toNat 1
def stB (s : St) : List Nat := splitB s.fin.toNat 4 ++ splitB s.arcs.length 2 ++ s.arcs.flatMap arcB
def packB (m : Mach) : List Nat := [84, m.states.length % 256, (m.start + 1).toNat % 256] ++ m.states.flatMap stB
def packL (m : Mach) : List Nat := if machE m = 0 then packB m ++ splitB (crc (packB m)) 2 else []
theorem arcsB_len (l : List Ar) : (l.flatMap arcB).length = 9 * l.length := by
 induction l with
 | nil => rfl
 | cons a l ih => rw [List.flatMap_cons, List.length_append, ih]; simp only [arcB, List.length_append, splitB_len, List.length_cons]; omega
theorem stsB_len (l : List St) : (l.flatMap stB).length = 6 * l.length + 9 * arcN l := by
 induction l with
 | nil => rfl
 | cons a l ih =>
  rw [List.flatMap_cons, List.length_append, ih]
  simp only [stB, List.length_append, splitB_len, arcsB_len, List.length_cons, arcN, List.map_cons, List.sum_cons]
  omega
theorem arcN_take (l : List St) (k : Nat) : arcN (l.take k) ≤ arcN l := by
 have happ : ∀ a b : List St, arcN (a ++ b) = arcN a + arcN b := fun a b => by simp [arcN]
 have h := happ (l.take k) (l.drop k)
 rw [List.take_append_drop] at h
 omega
theorem arcB_lt (a : Ar) : ∀ c ∈ arcB a, c < 256 := by
 intro c hc
 simp only [arcB, List.mem_append] at hc
 rcases hc with ((h | h) | h) | h <;> exact splitB_lt c h
theorem stB_lt (x : St) : ∀ c ∈ stB x, c < 256 := by
 intro c hc
 simp only [stB, List.mem_append, List.mem_flatMap] at hc
 rcases hc with (h | h) | ⟨a, _, h⟩
 ·exact splitB_lt c h
 ·exact splitB_lt c h
 ·exact arcB_lt a c h
theorem packB_lt (m : Mach) : ∀ c ∈ packB m, c < 256 := by
 intro c hc
 simp only [packB, List.mem_append, List.mem_cons, List.not_mem_nil, or_false, List.mem_flatMap] at hc
 rcases hc with (h | h | h) | ⟨x, _, h⟩
 ·omega
 ·omega
 ·omega
 ·exact stB_lt x c h
theorem packL_lt (m : Mach) : ∀ c ∈ packL m, c < 256 := by
 intro c hc
 unfold packL at hc
 split at hc
 ·rcases List.mem_append.1 hc with h | h
  ·exact packB_lt m c h
  ·exact splitB_lt c h
 ·cases hc
theorem rowsB {l : List Nat} : ∀ (i j : Nat) (l' : List D) (u : D), (l.map encB)[i]? = some l' → l'[j]? = some u → (l.map vB)[i * 1 + j]? = some (.d u) := fun i j l' u h1 h2 => rows1 (f := fun x : Nat => D.p (.int .u8 (x : Int))) (l := l) rfl i j l' u h1 h2
/-- What the numbers of a good machine are. -/
theorem ok_fin {x : St} (h : finOk x.fin = true) : ∃ f : Nat, x.fin = f ∧ f ≤ 1000000001 := by
 simp only [finOk, decide_eq_true_eq] at h
 exact ⟨x.fin.toNat, by omega, by omega⟩

theorem am_Encode (m : Mach) : Fn Try.prog 29 [mV m] (fun v => v = .tup [.d (bytesD (packL m)), .i (machE m)]) := by
 by_cases h0 : machE m = 0
 ·obtain ⟨hz1, hz2, hz3, hz⟩ := machE_zero h0
  have hP : packL m = packB m ++ splitB (crc (packB m)) 2 := by unfold packL; rw [if_pos h0]
  have hPlt := packB_lt m
  have hPB : packB m = [84, m.states.length % 256, (m.start + 1).toNat % 256] ++ m.states.flatMap stB := rfl
  rw [hP]
  refine Fn.mach m 0 rfl fun hb hal => ?_
  have hchk := Fn.eqi (am_Check m) h0
  obtain ⟨PB, hPd⟩ : ∃ P, packB m = P := ⟨_, rfl⟩
  rw [hPd] at hPlt hPB ⊢
  rw [h0]
  obtain ⟨st, sts⟩ := m
  simp only at hz1 hz2 hz3 hz hb hal hPB
  obtain ⟨n, hn⟩ : ∃ n, sts.length = n := ⟨_, rfl⟩
  rw [hn] at hz1 hz3 hz hb hPB
  obtain ⟨s1, hs1⟩ : ∃ s1 : Nat, st + 1 = s1 := ⟨(st + 1).toNat, by omega⟩
  have hs1n : (st + 1).toNat = s1 := by omega
  rw [hs1n] at hPB
  have hcl := (crc_take hPlt PB.length (Nat.le_refl _)).2
  rw [List.take_length] at hcl
  have hcr : crc PB < 65536 := hcl
  clear hcl
  refine Fn.intro (n := 66) ⟨Try.func29, rfl, rfl, rfl, rfl⟩ (by simp [V.pure, V.has, V.hasL]) (by simp) fun w0 out => ?_
  refine AW.seq ?_
  refine AW.region ?_
  refine AL.sm rfl (sm_box 1 rfl rfl rfl (by first | rfl | simp [S.clean, S.put, S.newObj, S.forget, V.has, V.hasL, junkIf, setL, V.cs, hasL_i, hasL_b, hasL_s, hasL_n, hasL_rep, hasL_flat, hasL_append, -List.map_set]) rfl) ?_
  refine AL.rp rfl rfl (rp_assign rfl rfl) ?_
  refine AL.rp rfl rfl (rp_assign rfl rfl) ?_
  refine AL.nil ?_
  try simp only [thenS, S.put, S.newObj, setL, V.cs, List.length_cons, List.length_nil, List.take_succ_cons, List.take_zero, List.drop_succ_cons, List.drop_zero, List.drop_nil, List.nil_append, List.cons_append, List.append_nil, Nat.zero_add, Nat.reduceAdd, List.map_cons, List.map_nil, List.set_cons_zero, List.set_cons_succ, enum]
  refine AW.seq ?_
  refine AW.seq ?_
  refine AW.region ?_
  (first | (refine AL.rd rfl rfl (rd_loads_ref Try.underlying24 rfl inf24 rfl rfl rfl rfl rfl rfl) ?_) | (refine AL.rd rfl rfl (rd_loads_ad Try.underlying24 rfl inf24 rfl rfl rfl rfl) ?_))
  refine AL.call (post := ?pc0) rfl (sm_call (args := [_]) ?hc0 ⟨Try.func48, rfl, rfl, rfl, rfl⟩ rfl rfl rfl rfl) ?_
  case hc0 => exact hchk
  rintro _ rfl -
  try dsimp only
  refine AL.rp rfl rfl (rp_assign rfl rfl) ?_
  refine AL.nil ?_
  try simp only [thenS, S.put, S.newObj, setL, V.cs, List.length_cons, List.length_nil, List.take_succ_cons, List.take_zero, List.drop_succ_cons, List.drop_zero, List.drop_nil, List.nil_append, List.cons_append, List.append_nil, Nat.zero_add, Nat.reduceAdd, List.map_cons, List.map_nil, List.set_cons_zero, List.set_cons_succ]
  refine AW.seq ?_
  refine AW.region ?_
  refine AL.rp rfl rfl (rp_move rfl rfl) ?_
  (first | (refine AL.rp rfl rfl (rp_neqT rfl rfl rfl (by first | assumption | omega | (dsimp only; omega))) ?_) | (refine AL.rp rfl rfl (rp_neqF rfl rfl rfl (by first | assumption | omega | (dsimp only; omega))) ?_) | (refine AL.rp rfl rfl (rp_neq rfl rfl rfl) ?_))
  refine AL.nil ?_
  try simp only [thenS, S.put]
  refine AW.condF rfl ?_
  refine AW.skip ?_
  try simp only [thenS]
  refine AW.seq ?_
  refine AW.region ?_
  (first | (refine AL.rp rfl rfl (rp_field_ref Try.underlying24 rfl rfl rfl inf22 (by decide) rfl) ?_) | (refine AL.rp rfl rfl (rp_field_ad Try.underlying24 rfl rfl rfl inf22 (by decide) rfl) ?_))
  (first | (refine AL.rd rfl rfl (rd_load_ref Try.underlying22 rfl rfl rfl rfl rfl rfl) ?_) | (refine AL.rd rfl rfl (rd_load_ad Try.underlying22 rfl rfl rfl rfl) ?_) | (refine AL.rd rfl rfl (rd_load_map Try.underlying22 rfl rfl rfl rfl rfl rfl (by assumption)) ?_) | (refine AL.rd rfl rfl (rd_load_flat Try.underlying22 rfl rfl rfl rfl rfl rfl (fun _ => rfl) (by assumption) rfl) ?_))
  (first | (refine AL.rp rfl rfl (rp_len_map Try.underlying22 rfl rfl (by assumption)) ?_) | (refine AL.rp rfl rfl (rp_len_own Try.underlying22 rfl rfl) ?_) | (refine AL.rp rfl rfl (rp_len_sl Try.underlying22 rfl rfl) ?_) | (refine AL.rp rfl rfl (rp_len_nil Try.underlying22 rfl rfl) ?_) | (refine AL.rp rfl rfl (rp_len_str Try.underlying22 rfl rfl) ?_))
  refine AL.rp rfl rfl (rp_conv Try.underlying3 (by intro e h; cases h) (by intro h; cases h) Try.underlying5 rfl rfl (r := ((n % 256 : Nat) : Int)) (by first | (rw [wrap8]; omega) | (rw [wrap16]; omega) | (rw [wrap64 (by omega)] <;> omega) | (rw [wrapU64 (by omega)] <;> omega))) ?_
  (first | (refine AL.rp rfl rfl (rp_field_ref Try.underlying24 rfl rfl rfl inf3 (by decide) rfl) ?_) | (refine AL.rp rfl rfl (rp_field_ad Try.underlying24 rfl rfl rfl inf3 (by decide) rfl) ?_))
  (first | (refine AL.rd rfl rfl (rd_load_ref Try.underlying3 rfl rfl rfl rfl rfl rfl) ?_) | (refine AL.rd rfl rfl (rd_load_ad Try.underlying3 rfl rfl rfl rfl) ?_) | (refine AL.rd rfl rfl (rd_load_map Try.underlying3 rfl rfl rfl rfl rfl rfl (by assumption)) ?_) | (refine AL.rd rfl rfl (rd_load_flat Try.underlying3 rfl rfl rfl rfl rfl rfl (fun _ => rfl) (by assumption) rfl) ?_))
  refine AL.rp rfl rfl (rp_add rfl rfl rfl (by first | omega | (dsimp only; omega))) ?_
  refine AL.rp rfl rfl (rp_conv Try.underlying3 (by intro e h; cases h) (by intro h; cases h) Try.underlying5 rfl rfl (r := ((s1 % 256 : Nat) : Int)) (by first | (rw [wrap8]; omega) | (rw [wrap16]; omega) | (rw [wrap64 (by omega)] <;> omega) | (rw [wrapU64 (by omega)] <;> omega))) ?_
  refine AL.sm rfl (sm_slice (vs := [(0, _), (1, _), (2, _)]) (zs := [.d (.p (.int .u8 0)), .d (.p (.int .u8 0)), .d (.p (.int .u8 0))]) 901 Try.underlying46 inf5 rfl rfl (by decide) (by decide) (by decide) rfl rfl rfl rfl (by first | rfl | simp [S.clean, S.put, S.newObj, S.forget, V.has, V.hasL, junkIf, setL, V.cs, hasL_i, hasL_b, hasL_s, hasL_n, hasL_rep, hasL_flat, hasL_append, -List.map_set]) (by first | rfl | simp [S.clean, S.put, S.newObj, S.forget, V.has, V.hasL, junkIf, setL, V.cs, hasL_i, hasL_b, hasL_s, hasL_n, hasL_rep, hasL_flat, hasL_append, -List.map_set]) rfl) ?_
  refine AL.rp rfl rfl (rp_assign rfl rfl) ?_
  refine AL.nil ?_
  try simp only [thenS, S.put, S.newObj, setL, V.cs, List.length_cons, List.length_nil, List.take_succ_cons, List.take_zero, List.drop_succ_cons, List.drop_zero, List.drop_nil, List.nil_append, List.cons_append, List.append_nil, Nat.zero_add, Nat.reduceAdd, List.map_cons, List.map_nil, List.set_cons_zero, List.set_cons_succ]
  refine AW.seq ?_
  refine AW.seq ?_
  refine AW.region ?_
  (first | (refine AL.rp rfl rfl (rp_field_ref Try.underlying24 rfl rfl rfl inf22 (by decide) rfl) ?_) | (refine AL.rp rfl rfl (rp_field_ad Try.underlying24 rfl rfl rfl inf22 (by decide) rfl) ?_))
  (first | (refine AL.rd rfl rfl (rd_load_ref Try.underlying22 rfl rfl rfl rfl rfl rfl) ?_) | (refine AL.rd rfl rfl (rd_load_ad Try.underlying22 rfl rfl rfl rfl) ?_) | (refine AL.rd rfl rfl (rd_load_map Try.underlying22 rfl rfl rfl rfl rfl rfl (by assumption)) ?_) | (refine AL.rd rfl rfl (rd_load_flat Try.underlying22 rfl rfl rfl rfl rfl rfl (fun _ => rfl) (by assumption) rfl) ?_))
  (first | (refine AL.rp rfl rfl (rp_len_map Try.underlying22 rfl rfl (by assumption)) ?_) | (refine AL.rp rfl rfl (rp_len_own Try.underlying22 rfl rfl) ?_) | (refine AL.rp rfl rfl (rp_len_sl Try.underlying22 rfl rfl) ?_) | (refine AL.rp rfl rfl (rp_len_nil Try.underlying22 rfl rfl) ?_) | (refine AL.rp rfl rfl (rp_len_str Try.underlying22 rfl rfl) ?_))
  refine AL.rp rfl rfl (rp_move rfl rfl) ?_
  refine AL.nil ?_
  try simp only [thenS, S.put]
  refine AW.block ?_
  refine AW.loop (fun s' => ∃ (k b : Nat) (B : List Nat), k ≤ n ∧ B = [84, n % 256, s1 % 256] ++ (sts.take k).flatMap stB ∧ B.length = b ∧ s' = ⟨66, [(1, .ref 1 0), (5, .own 901 1 b false), (25, .d (stsD sts)), (26, .i n), (27, .i k)], [(901, ⟨5, B.map vB, false, 1⟩), (1, ⟨24, [.i st, .d (stsD sts)], false, 0⟩)], []⟩) (fun s => n - s.nat 27) ?_ ?_
  ·refine ⟨_, ?_, 0, 3, [84, n % 256, s1 % 256], Nat.zero_le _, by simp, rfl, rfl⟩
   exact (Less.of rfl (by repeat (first | exact trivial | refine ⟨⟨_, rfl, Wk.refl _⟩, ?_⟩ | refine ⟨⟨_, rfl, Wk.nil _ _⟩, ?_⟩ | refine ⟨⟨_, rfl, Wk.junk _⟩, ?_⟩)) (by repeat (first | exact trivial | refine ⟨rfl, ?_⟩)) rfl)
  rintro s' ⟨k, b, B, hk, hB, hBl, rfl⟩
  by_cases hlt : k < n
  ·obtain ⟨x, hx⟩ := get_lt hn hlt
   have hsn := take_snoc hx
   obtain ⟨hfo, hao⟩ := hz x (List.mem_of_getElem? hx)
   obtain ⟨f, hf, hf2⟩ := ok_fin hfo
   obtain ⟨la, hla⟩ : ∃ n, x.arcs.length = n := ⟨_, rfl⟩
   have hla4 : la ≤ 400 := by rw [← hla]; exact Nat.le_trans (arcN_mem sts x (List.mem_of_getElem? hx)) hz2
   have hsb : stB x = splitB f 4 ++ splitB la 2 ++ x.arcs.flatMap arcB := by unfold stB; rw [hf, hla]; rfl
   have hb4 : b ≤ 5000 := by
    rw [← hBl, hB]
    have := arcN_take sts k
    simp only [List.length_append, List.length_cons, List.length_nil, stsB_len, List.length_take]
    omega
   obtain ⟨xf, xa⟩ := x
   simp only at hf hla hao hsb
   subst hf
   refine AW.seq ?_
   refine AW.region ?_
   (first | (refine AL.rp rfl rfl (rp_lssT rfl rfl rfl (by first | assumption | omega | (dsimp only; omega))) ?_) | (refine AL.rp rfl rfl (rp_lssF rfl rfl rfl (by first | assumption | omega | (dsimp only; omega))) ?_) | (refine AL.rp rfl rfl (rp_lss rfl rfl rfl) ?_))
   refine AL.nil ?_
   try simp only [thenS, S.put]
   refine AW.seq ?_
   refine AW.condT rfl ?_
   refine AW.skip ?_
   try simp only [thenS]
   refine AW.seq ?_
   refine AW.block ?_
   refine AW.seq ?_
   refine AW.region ?_
   (first | (refine AL.rp rfl rfl (rp_index_map Try.underlying22 inf52 rfl rfl rfl rfl (by assumption)) ?_) | (refine AL.rp rfl rfl (rp_index_own Try.underlying22 inf52 rfl rfl rfl rfl (by first | assumption | omega)) ?_) | (refine AL.rp rfl rfl (rd_index_sl Try.underlying22 inf52 rfl rfl rfl rfl (by assumption)) ?_) | (refine AL.rp rfl rfl (rp_index_own Try.underlying22 inf52 rfl rfl rfl (by omega) (by omega)) ?_))
   (first | (refine AL.rd rfl rfl (rd_loads_ref Try.underlying52 rfl inf52 rfl rfl rfl rfl rfl rfl) ?_) | (refine AL.rd rfl rfl (rd_loads_ad Try.underlying52 rfl inf52 rfl rfl rfl rfl) ?_))
   refine AL.sm rfl (sm_alloc (l := [.d (.p (.int .i64 0)), .d (.p (.slice none 0 0))]) 7 inf52 rfl (by first | rfl | simp [S.clean, S.put, S.newObj, S.forget, V.has, V.hasL, junkIf, setL, V.cs, hasL_i, hasL_b, hasL_s, hasL_n, hasL_rep, hasL_flat, hasL_append, -List.map_set]) rfl rfl) ?_
   refine AL.st rfl (st_store_any inf52 rfl rfl rfl rfl rfl rfl rfl rfl (by first | decide | (simp; done) | (simp; omega)) rfl) ?_
   refine AL.nil ?_
   try simp only [thenS, S.put, S.newObj, setL, V.cs, List.length_cons, List.length_nil, List.take_succ_cons, List.take_zero, List.drop_succ_cons, List.drop_zero, List.drop_nil, List.nil_append, List.cons_append, List.append_nil, Nat.zero_add, Nat.reduceAdd, List.map_cons, List.map_nil, List.set_cons_zero, List.set_cons_succ]
   refine AW.seq ?_
   refine AW.less (s' := ⟨66, [(1, .ref 1 0), (5, .own 901 1 B.length false), (7, .ref 7 0), (25, .d (stsD sts)), (26, .i n), (27, .i k)], [(901, ⟨5, B.map vB, false, 1⟩), (7, ⟨52, [.i (f : Int), .d (arsD xa)], false, 0⟩), (1, ⟨24, [.i st, .d (stsD sts)], false, 0⟩)], []⟩) (by rw [hBl]; exact (Less.of rfl (by repeat (first | exact trivial | refine ⟨⟨_, rfl, Wk.refl _⟩, ?_⟩ | refine ⟨⟨_, rfl, Wk.nil _ _⟩, ?_⟩ | refine ⟨⟨_, rfl, Wk.junk _⟩, ?_⟩)) (by repeat (first | exact trivial | refine ⟨rfl, ?_⟩)) rfl)) ?_
   obtain ⟨B1, hB1⟩ : ∃ B1, B ++ splitB f 4 = B1 := ⟨_, rfl⟩
   have hB1l : B1.length ≤ 6000 := by rw [← hB1, List.length_append, splitB_len, hBl]; omega
   obtain ⟨B2, hB2⟩ : ∃ B2, B1 ++ splitB la 2 = B2 := ⟨_, rfl⟩
   have hp1 := fun K hl => (am_put B f 4 (by omega) (by omega) (by omega) [(7, ⟨52, [.i (f : Int), .d (arsD xa)], false, 0⟩), (1, ⟨24, [.i st, .d (stsD sts)], false, 0⟩)] K hl).pc
   have hp2 := fun K hl => (am_put B1 la 2 (by omega) (by omega) (by omega) [(7, ⟨52, [.i (f : Int), .d (arsD xa)], false, 0⟩), (1, ⟨24, [.i st, .d (stsD sts)], false, 0⟩)] K hl).pc
   rw [hB1] at hp1
   rw [hB2] at hp2
   have hB2l : B2.length ≤ 7000 := by rw [← hB2, List.length_append, splitB_len]; omega
   refine AW.drawT (N := ?N2) (l := #[false, false, false, false, false, false, false, false, false]) 9 (by kernel_rfl) rfl rfl ?_ ?_
   rotate_left
   refine AN.rp (i := 0) (l' := #[true, false, false, false, false, false, false, false, false]) rfl rfl rfl (fun _ _ h => h) (by kernel_rfl) rfl (rp_move rfl rfl) ?_
   (first | (refine AN.rp (i := 1) (l' := #[true, true, false, false, false, false, false, false, false]) rfl rfl rfl (fun _ _ h => h) (by kernel_rfl) rfl (rp_field_ref Try.underlying52 rfl rfl rfl inf3 (by decide) rfl) ?_) | (refine AN.rp (i := 1) (l' := #[true, true, false, false, false, false, false, false, false]) rfl rfl rfl (fun _ _ h => h) (by kernel_rfl) rfl (rp_field_ad Try.underlying52 rfl rfl rfl inf3 (by decide) rfl) ?_))
   (first | (refine AN.rp (i := 4) (l' := #[true, true, false, false, true, false, false, false, false]) rfl rfl rfl (fun _ _ h => h) (by kernel_rfl) rfl (rp_field_ref Try.underlying52 rfl rfl rfl inf50 (by decide) rfl) ?_) | (refine AN.rp (i := 4) (l' := #[true, true, false, false, true, false, false, false, false]) rfl rfl rfl (fun _ _ h => h) (by kernel_rfl) rfl (rp_field_ad Try.underlying52 rfl rfl rfl inf50 (by decide) rfl) ?_))
   refine AN.br2 (i := 2) (j := 5) (by kernel_rfl) ?_ ?_
   ·refine BR.mk (l' := #[true, true, true, false, true, false, false, false, false]) rfl rfl rfl ?_
    (first | (refine ST.rd rfl (rd_load_ref Try.underlying3 rfl rfl rfl rfl rfl rfl) ?_) | (refine ST.rd rfl (rd_load_ad Try.underlying3 rfl rfl rfl rfl) ?_) | (refine ST.rd rfl (rd_load_map Try.underlying3 rfl rfl rfl rfl rfl rfl (by assumption)) ?_) | (refine ST.rd rfl (rd_load_flat Try.underlying3 rfl rfl rfl rfl rfl rfl (fun _ => rfl) (by assumption) rfl) ?_))
    refine AN.br2 (i := 3) (j := 5) (by kernel_rfl) ?_ ?_
    ·refine BR.mk (l' := #[true, true, true, true, true, false, false, false, false]) rfl rfl rfl ?_
     try simp only [S.put, S.newObj, setL, V.cs, List.length_cons, List.length_nil, List.take_succ_cons, List.take_zero, List.drop_succ_cons, List.drop_zero, List.drop_nil, List.nil_append, List.cons_append, List.append_nil, Nat.zero_add, Nat.reduceAdd]
     refine ST.pc [1, 7, 25, 26, 27, 35] (ts := [_, _, _, _, _, _]) (args := [_, _, _]) (post := ?pc2) ?hc2 rfl rfl rfl rfl rfl rfl rfl rfl rfl ?_
     case hc2 => (refine hp1 _ ⟨?_, ?_⟩ <;> first | rfl | (simp [V.lowL, V.low]; done))
     rintro _ _ _ ⟨rfl, rfl, rfl⟩
     simp only [back, S.put, List.cons_append, List.nil_append, List.zip_cons_cons, List.zip_nil_left, List.drop_succ_cons, List.drop_zero, List.length_cons, List.length_nil, Nat.zero_add, Nat.reduceAdd]
     refine AN.br1 (i := 5) (by kernel_rfl) ?_
     refine BR.mk (l' := #[true, true, true, true, true, true, false, false, false]) rfl rfl rfl ?_
     (first | (refine ST.rd rfl (rd_load_ref Try.underlying50 rfl rfl rfl rfl rfl rfl) ?_) | (refine ST.rd rfl (rd_load_ad Try.underlying50 rfl rfl rfl rfl) ?_) | (refine ST.rd rfl (rd_load_map Try.underlying50 rfl rfl rfl rfl rfl rfl (by assumption)) ?_) | (refine ST.rd rfl (rd_load_flat Try.underlying50 rfl rfl rfl rfl rfl rfl (fun _ => rfl) (by assumption) rfl) ?_))
     (first | (refine AN.rp (i := 6) (l' := #[true, true, true, true, true, true, true, false, false]) rfl rfl rfl (fun _ _ h => h) (by kernel_rfl) rfl (rp_len_map Try.underlying50 rfl rfl (by assumption)) ?_) | (refine AN.rp (i := 6) (l' := #[true, true, true, true, true, true, true, false, false]) rfl rfl rfl (fun _ _ h => h) (by kernel_rfl) rfl (rp_len_own Try.underlying50 rfl rfl) ?_) | (refine AN.rp (i := 6) (l' := #[true, true, true, true, true, true, true, false, false]) rfl rfl rfl (fun _ _ h => h) (by kernel_rfl) rfl (rp_len_sl Try.underlying50 rfl rfl) ?_) | (refine AN.rp (i := 6) (l' := #[true, true, true, true, true, true, true, false, false]) rfl rfl rfl (fun _ _ h => h) (by kernel_rfl) rfl (rp_len_nil Try.underlying50 rfl rfl) ?_) | (refine AN.rp (i := 6) (l' := #[true, true, true, true, true, true, true, false, false]) rfl rfl rfl (fun _ _ h => h) (by kernel_rfl) rfl (rp_len_str Try.underlying50 rfl rfl) ?_))
     refine AN.br1 (i := 7) (by kernel_rfl) ?_
     refine BR.mk (l' := #[true, true, true, true, true, true, true, true, false]) rfl rfl rfl ?_
     try simp only [S.put, S.newObj, setL, V.cs, List.length_cons, List.length_nil, List.take_succ_cons, List.take_zero, List.drop_succ_cons, List.drop_zero, List.drop_nil, List.nil_append, List.cons_append, List.append_nil, Nat.zero_add, Nat.reduceAdd]
     refine ST.pc [1, 7, 25, 26, 27] (ts := [_, _, _, _, _]) (args := [_, _, _]) (post := ?pc3) ?hc3 rfl rfl rfl rfl rfl rfl rfl rfl rfl ?_
     case hc3 => (refine hp2 _ ⟨?_, ?_⟩ <;> first | rfl | (simp [V.lowL, V.low]; done))
     rintro _ _ _ ⟨rfl, rfl, rfl⟩
     simp only [back, S.put, List.cons_append, List.nil_append, List.zip_cons_cons, List.zip_nil_left, List.drop_succ_cons, List.drop_zero, List.length_cons, List.length_nil, Nat.zero_add, Nat.reduceAdd]
     refine AN.rp (i := 8) (l' := #[true, true, true, true, true, true, true, true, true]) rfl rfl rfl (fun _ _ h => h) (by kernel_rfl) rfl (rp_assign rfl rfl) ?_
     refine AN.nil (by kernel_rfl) ?_
     show Less _ _
     exact Less.dd _
    ·refine BR.mk (l' := #[true, true, true, false, true, true, false, false, false]) rfl rfl rfl ?_
     (first | (refine ST.rd rfl (rd_load_ref Try.underlying50 rfl rfl rfl rfl rfl rfl) ?_) | (refine ST.rd rfl (rd_load_ad Try.underlying50 rfl rfl rfl rfl) ?_) | (refine ST.rd rfl (rd_load_map Try.underlying50 rfl rfl rfl rfl rfl rfl (by assumption)) ?_) | (refine ST.rd rfl (rd_load_flat Try.underlying50 rfl rfl rfl rfl rfl rfl (fun _ => rfl) (by assumption) rfl) ?_))
     (first | (refine AN.rp (i := 6) (l' := #[true, true, true, false, true, true, true, false, false]) rfl rfl rfl (fun _ _ h => h) (by kernel_rfl) rfl (rp_len_map Try.underlying50 rfl rfl (by assumption)) ?_) | (refine AN.rp (i := 6) (l' := #[true, true, true, false, true, true, true, false, false]) rfl rfl rfl (fun _ _ h => h) (by kernel_rfl) rfl (rp_len_own Try.underlying50 rfl rfl) ?_) | (refine AN.rp (i := 6) (l' := #[true, true, true, false, true, true, true, false, false]) rfl rfl rfl (fun _ _ h => h) (by kernel_rfl) rfl (rp_len_sl Try.underlying50 rfl rfl) ?_) | (refine AN.rp (i := 6) (l' := #[true, true, true, false, true, true, true, false, false]) rfl rfl rfl (fun _ _ h => h) (by kernel_rfl) rfl (rp_len_nil Try.underlying50 rfl rfl) ?_) | (refine AN.rp (i := 6) (l' := #[true, true, true, false, true, true, true, false, false]) rfl rfl rfl (fun _ _ h => h) (by kernel_rfl) rfl (rp_len_str Try.underlying50 rfl rfl) ?_))
     refine AN.br1 (i := 3) (by kernel_rfl) ?_
     refine BR.mk (l' := #[true, true, true, true, true, true, true, false, false]) rfl rfl rfl ?_
     try simp only [S.put, S.newObj, setL, V.cs, List.length_cons, List.length_nil, List.take_succ_cons, List.take_zero, List.drop_succ_cons, List.drop_zero, List.drop_nil, List.nil_append, List.cons_append, List.append_nil, Nat.zero_add, Nat.reduceAdd]
     refine ST.pc [1, 7, 25, 26, 27, 35, 36, 37] (ts := [_, _, _, _, _, _, _, _]) (args := [_, _, _]) (post := ?pc4) ?hc4 rfl rfl rfl rfl rfl rfl rfl rfl rfl ?_
     case hc4 => (refine hp1 _ ⟨?_, ?_⟩ <;> first | rfl | (simp [V.lowL, V.low]; done))
     rintro _ _ _ ⟨rfl, rfl, rfl⟩
     simp only [back, S.put, List.cons_append, List.nil_append, List.zip_cons_cons, List.zip_nil_left, List.drop_succ_cons, List.drop_zero, List.length_cons, List.length_nil, Nat.zero_add, Nat.reduceAdd]
     refine AN.br1 (i := 7) (by kernel_rfl) ?_
     refine BR.mk (l' := #[true, true, true, true, true, true, true, true, false]) rfl rfl rfl ?_
     try simp only [S.put, S.newObj, setL, V.cs, List.length_cons, List.length_nil, List.take_succ_cons, List.take_zero, List.drop_succ_cons, List.drop_zero, List.drop_nil, List.nil_append, List.cons_append, List.append_nil, Nat.zero_add, Nat.reduceAdd]
     refine ST.pc [1, 7, 25, 26, 27] (ts := [_, _, _, _, _]) (args := [_, _, _]) (post := ?pc5) ?hc5 rfl rfl rfl rfl rfl rfl rfl rfl rfl ?_
     case hc5 => (refine hp2 _ ⟨?_, ?_⟩ <;> first | rfl | (simp [V.lowL, V.low]; done))
     rintro _ _ _ ⟨rfl, rfl, rfl⟩
     simp only [back, S.put, List.cons_append, List.nil_append, List.zip_cons_cons, List.zip_nil_left, List.drop_succ_cons, List.drop_zero, List.length_cons, List.length_nil, Nat.zero_add, Nat.reduceAdd]
     refine AN.rp (i := 8) (l' := #[true, true, true, true, true, true, true, true, true]) rfl rfl rfl (fun _ _ h => h) (by kernel_rfl) rfl (rp_assign rfl rfl) ?_
     refine AN.nil (by kernel_rfl) ?_
     show Less _ _
     (try simp only [S.put, S.newObj, setL, V.cs, List.length_cons, List.length_nil, List.take_succ_cons, List.take_zero, List.drop_succ_cons, List.drop_zero, List.drop_nil, List.nil_append, List.cons_append, List.append_nil, Nat.zero_add, Nat.reduceAdd, List.map_cons, List.map_nil, List.set_cons_zero, List.set_cons_succ])
     try simp only [S.dd, ddL, List.contains_cons, List.contains_nil, Nat.reduceBEq, beq_self_eq_true, Bool.or_false, Bool.or_true, Bool.false_or, Bool.true_or, Bool.or_self, if_true, if_false, Bool.false_eq_true, ↓reduceIte]
     exact (Less.of rfl (by repeat (first | exact trivial | refine ⟨⟨_, rfl, Wk.refl _⟩, ?_⟩)) (by repeat (first | exact trivial | refine ⟨rfl, ?_⟩)) rfl)
   ·refine BR.mk (l' := #[true, true, false, false, true, true, false, false, false]) rfl rfl rfl ?_
    (first | (refine ST.rd rfl (rd_load_ref Try.underlying50 rfl rfl rfl rfl rfl rfl) ?_) | (refine ST.rd rfl (rd_load_ad Try.underlying50 rfl rfl rfl rfl) ?_) | (refine ST.rd rfl (rd_load_map Try.underlying50 rfl rfl rfl rfl rfl rfl (by assumption)) ?_) | (refine ST.rd rfl (rd_load_flat Try.underlying50 rfl rfl rfl rfl rfl rfl (fun _ => rfl) (by assumption) rfl) ?_))
    (first | (refine AN.rp (i := 6) (l' := #[true, true, false, false, true, true, true, false, false]) rfl rfl rfl (fun _ _ h => h) (by kernel_rfl) rfl (rp_len_map Try.underlying50 rfl rfl (by assumption)) ?_) | (refine AN.rp (i := 6) (l' := #[true, true, false, false, true, true, true, false, false]) rfl rfl rfl (fun _ _ h => h) (by kernel_rfl) rfl (rp_len_own Try.underlying50 rfl rfl) ?_) | (refine AN.rp (i := 6) (l' := #[true, true, false, false, true, true, true, false, false]) rfl rfl rfl (fun _ _ h => h) (by kernel_rfl) rfl (rp_len_sl Try.underlying50 rfl rfl) ?_) | (refine AN.rp (i := 6) (l' := #[true, true, false, false, true, true, true, false, false]) rfl rfl rfl (fun _ _ h => h) (by kernel_rfl) rfl (rp_len_nil Try.underlying50 rfl rfl) ?_) | (refine AN.rp (i := 6) (l' := #[true, true, false, false, true, true, true, false, false]) rfl rfl rfl (fun _ _ h => h) (by kernel_rfl) rfl (rp_len_str Try.underlying50 rfl rfl) ?_))
    refine AN.br1 (i := 2) (by kernel_rfl) ?_
    refine BR.mk (l' := #[true, true, true, false, true, true, true, false, false]) rfl rfl rfl ?_
    (first | (refine ST.rd rfl (rd_load_ref Try.underlying3 rfl rfl rfl rfl rfl rfl) ?_) | (refine ST.rd rfl (rd_load_ad Try.underlying3 rfl rfl rfl rfl) ?_) | (refine ST.rd rfl (rd_load_map Try.underlying3 rfl rfl rfl rfl rfl rfl (by assumption)) ?_) | (refine ST.rd rfl (rd_load_flat Try.underlying3 rfl rfl rfl rfl rfl rfl (fun _ => rfl) (by assumption) rfl) ?_))
    refine AN.br1 (i := 3) (by kernel_rfl) ?_
    refine BR.mk (l' := #[true, true, true, true, true, true, true, false, false]) rfl rfl rfl ?_
    try simp only [S.put, S.newObj, setL, V.cs, List.length_cons, List.length_nil, List.take_succ_cons, List.take_zero, List.drop_succ_cons, List.drop_zero, List.drop_nil, List.nil_append, List.cons_append, List.append_nil, Nat.zero_add, Nat.reduceAdd]
    refine ST.pc [1, 7, 25, 26, 27, 35, 36, 37] (ts := [_, _, _, _, _, _, _, _]) (args := [_, _, _]) (post := ?pc6) ?hc6 rfl rfl rfl rfl rfl rfl rfl rfl rfl ?_
    case hc6 => (refine hp1 _ ⟨?_, ?_⟩ <;> first | rfl | (simp [V.lowL, V.low]; done))
    rintro _ _ _ ⟨rfl, rfl, rfl⟩
    simp only [back, S.put, List.cons_append, List.nil_append, List.zip_cons_cons, List.zip_nil_left, List.drop_succ_cons, List.drop_zero, List.length_cons, List.length_nil, Nat.zero_add, Nat.reduceAdd]
    refine AN.br1 (i := 7) (by kernel_rfl) ?_
    refine BR.mk (l' := #[true, true, true, true, true, true, true, true, false]) rfl rfl rfl ?_
    try simp only [S.put, S.newObj, setL, V.cs, List.length_cons, List.length_nil, List.take_succ_cons, List.take_zero, List.drop_succ_cons, List.drop_zero, List.drop_nil, List.nil_append, List.cons_append, List.append_nil, Nat.zero_add, Nat.reduceAdd]
    refine ST.pc [1, 7, 25, 26, 27] (ts := [_, _, _, _, _]) (args := [_, _, _]) (post := ?pc7) ?hc7 rfl rfl rfl rfl rfl rfl rfl rfl rfl ?_
    case hc7 => (refine hp2 _ ⟨?_, ?_⟩ <;> first | rfl | (simp [V.lowL, V.low]; done))
    rintro _ _ _ ⟨rfl, rfl, rfl⟩
    simp only [back, S.put, List.cons_append, List.nil_append, List.zip_cons_cons, List.zip_nil_left, List.drop_succ_cons, List.drop_zero, List.length_cons, List.length_nil, Nat.zero_add, Nat.reduceAdd]
    refine AN.rp (i := 8) (l' := #[true, true, true, true, true, true, true, true, true]) rfl rfl rfl (fun _ _ h => h) (by kernel_rfl) rfl (rp_assign rfl rfl) ?_
    refine AN.nil (by kernel_rfl) ?_
    show Less _ _
    (try simp only [S.put, S.newObj, setL, V.cs, List.length_cons, List.length_nil, List.take_succ_cons, List.take_zero, List.drop_succ_cons, List.drop_zero, List.drop_nil, List.nil_append, List.cons_append, List.append_nil, Nat.zero_add, Nat.reduceAdd, List.map_cons, List.map_nil, List.set_cons_zero, List.set_cons_succ])
    try simp only [S.dd, ddL, List.contains_cons, List.contains_nil, Nat.reduceBEq, beq_self_eq_true, Bool.or_false, Bool.or_true, Bool.false_or, Bool.true_or, Bool.or_self, if_true, if_false, Bool.false_eq_true, ↓reduceIte]
    exact (Less.of rfl (by repeat (first | exact trivial | refine ⟨⟨_, rfl, Wk.refl _⟩, ?_⟩)) (by repeat (first | exact trivial | refine ⟨rfl, ?_⟩)) rfl)
   (try simp only [S.put, S.newObj, setL, V.cs, List.length_cons, List.length_nil, List.take_succ_cons, List.take_zero, List.drop_succ_cons, List.drop_zero, List.drop_nil, List.nil_append, List.cons_append, List.append_nil, Nat.zero_add, Nat.reduceAdd, List.map_cons, List.map_nil, List.set_cons_zero, List.set_cons_succ])
   try simp only [S.dd, ddL, List.contains_cons, List.contains_nil, Nat.reduceBEq, beq_self_eq_true, Bool.or_false, Bool.or_true, Bool.false_or, Bool.true_or, Bool.or_self, if_true, if_false, Bool.false_eq_true, ↓reduceIte]
   try simp only [thenS, S.put]
   refine AW.seq ?_
   refine AW.region ?_
   (first | (refine AL.rp rfl rfl (rp_field_ref Try.underlying52 rfl rfl rfl inf50 (by decide) rfl) ?_) | (refine AL.rp rfl rfl (rp_field_ad Try.underlying52 rfl rfl rfl inf50 (by decide) rfl) ?_))
   (first | (refine AL.rd rfl rfl (rd_load_ref Try.underlying50 rfl rfl rfl rfl rfl rfl) ?_) | (refine AL.rd rfl rfl (rd_load_ad Try.underlying50 rfl rfl rfl rfl) ?_) | (refine AL.rd rfl rfl (rd_load_map Try.underlying50 rfl rfl rfl rfl rfl rfl (by assumption)) ?_) | (refine AL.rd rfl rfl (rd_load_flat Try.underlying50 rfl rfl rfl rfl rfl rfl (fun _ => rfl) (by assumption) rfl) ?_))
   (first | (refine AL.rp rfl rfl (rp_len_map Try.underlying50 rfl rfl (by assumption)) ?_) | (refine AL.rp rfl rfl (rp_len_own Try.underlying50 rfl rfl) ?_) | (refine AL.rp rfl rfl (rp_len_sl Try.underlying50 rfl rfl) ?_) | (refine AL.rp rfl rfl (rp_len_nil Try.underlying50 rfl rfl) ?_) | (refine AL.rp rfl rfl (rp_len_str Try.underlying50 rfl rfl) ?_))
   refine AL.rp rfl rfl (rp_move rfl rfl) ?_
   refine AL.nil ?_
   try simp only [thenS, S.put]
   refine AW.block ?_
   refine AW.loop (fun s' => ∃ (i b : Nat) (B : List Nat), i ≤ la ∧ B = B2 ++ (xa.take i).flatMap arcB ∧ B.length = b ∧ s' = ⟨66, [(1, .ref 1 0), (5, .own 901 1 b false), (25, .d (stsD sts)), (26, .i n), (27, .i k), (40, .d (arsD xa)), (41, .i la), (42, .i i)], [(901, ⟨5, B.map vB, false, 1⟩), (1, ⟨24, [.i st, .d (stsD sts)], false, 0⟩)], []⟩) (fun s => la - s.nat 42) ?_ ?_
   ·refine ⟨_, ?_, 0, B2.length, B2, Nat.zero_le _, by simp, rfl, rfl⟩
    exact (Less.of rfl (by repeat (first | exact trivial | refine ⟨⟨_, rfl, Wk.refl _⟩, ?_⟩ | refine ⟨⟨_, rfl, Wk.nil _ _⟩, ?_⟩ | refine ⟨⟨_, rfl, Wk.junk _⟩, ?_⟩)) (by repeat (first | exact trivial | refine ⟨rfl, ?_⟩)) rfl)
   rintro s' ⟨i, c, C, hi, hC, hCl, rfl⟩
   by_cases hil : i < la
   ·obtain ⟨y, hy⟩ := get_lt hla hil
    have hyt := hao y (List.mem_of_getElem? hy)
    have hsn2 := take_snoc hy
    obtain ⟨yi, yo, yw, yt⟩ := y
    simp only [arOk, decide_eq_true_eq] at hyt
    obtain ⟨ni, rfl⟩ : ∃ p : Nat, yi = p := ⟨yi.toNat, by omega⟩
    obtain ⟨no, rfl⟩ : ∃ p : Nat, yo = p := ⟨yo.toNat, by omega⟩
    obtain ⟨nw, rfl⟩ : ∃ p : Nat, yw = p := ⟨yw.toNat, by omega⟩
    obtain ⟨nt, rfl⟩ : ∃ p : Nat, yt = p := ⟨yt.toNat, by omega⟩
    have hab : arcB ⟨ni, no, nw, nt⟩ = splitB ni 2 ++ splitB no 2 ++ splitB nw 4 ++ splitB nt 1 := rfl
    have hc4 : c ≤ 11000 := by
     rw [← hCl, hC, List.length_append, arcsB_len, List.length_take]
     omega
    refine AW.seq ?_
    refine AW.region ?_
    (first | (refine AL.rp rfl rfl (rp_lssT rfl rfl rfl (by first | assumption | omega | (dsimp only; omega))) ?_) | (refine AL.rp rfl rfl (rp_lssF rfl rfl rfl (by first | assumption | omega | (dsimp only; omega))) ?_) | (refine AL.rp rfl rfl (rp_lss rfl rfl rfl) ?_))
    refine AL.nil ?_
    try simp only [thenS, S.put]
    refine AW.seq ?_
    refine AW.condT rfl ?_
    refine AW.skip ?_
    try simp only [thenS]
    refine AW.seq ?_
    refine AW.block ?_
    refine AW.seq ?_
    refine AW.region ?_
    (first | (refine AL.rp rfl rfl (rp_index_map Try.underlying50 inf56 rfl rfl rfl rfl (by assumption)) ?_) | (refine AL.rp rfl rfl (rp_index_own Try.underlying50 inf56 rfl rfl rfl rfl (by first | assumption | omega)) ?_) | (refine AL.rp rfl rfl (rd_index_sl Try.underlying50 inf56 rfl rfl rfl rfl (by assumption)) ?_) | (refine AL.rp rfl rfl (rp_index_own Try.underlying50 inf56 rfl rfl rfl (by omega) (by omega)) ?_))
    (first | (refine AL.rd rfl rfl (rd_loads_ref Try.underlying56 rfl inf56 rfl rfl rfl rfl rfl rfl) ?_) | (refine AL.rd rfl rfl (rd_loads_ad Try.underlying56 rfl inf56 rfl rfl rfl rfl) ?_))
    refine AL.sm rfl (sm_alloc (l := [.d (.p (.int .i64 0)), .d (.p (.int .i64 0)), .d (.p (.int .i64 0)), .d (.p (.int .i64 0))]) 9 inf56 rfl (by first | rfl | simp [S.clean, S.put, S.newObj, S.forget, V.has, V.hasL, junkIf, setL, V.cs, hasL_i, hasL_b, hasL_s, hasL_n, hasL_rep, hasL_flat, hasL_append, -List.map_set]) rfl rfl) ?_
    refine AL.st rfl (st_store_any inf56 rfl rfl rfl rfl rfl rfl rfl rfl (by first | decide | (simp; done) | (simp; omega)) rfl) ?_
    refine AL.nil ?_
    try simp only [thenS, S.put, S.newObj, setL, V.cs, List.length_cons, List.length_nil, List.take_succ_cons, List.take_zero, List.drop_succ_cons, List.drop_zero, List.drop_nil, List.nil_append, List.cons_append, List.append_nil, Nat.zero_add, Nat.reduceAdd, List.map_cons, List.map_nil, List.set_cons_zero, List.set_cons_succ]
    refine AW.less (s' := ⟨66, [(1, .ref 1 0), (5, .own 901 1 C.length false), (9, .ref 9 0), (25, .d (stsD sts)), (26, .i n), (27, .i k), (40, .d (arsD xa)), (41, .i la), (42, .i i)], [(901, ⟨5, C.map vB, false, 1⟩), (9, ⟨56, [.i (ni : Int), .i (no : Int), .i (nw : Int), .i (nt : Int)], false, 0⟩), (1, ⟨24, [.i st, .d (stsD sts)], false, 0⟩)], []⟩) (by rw [hCl]; exact (Less.of rfl (by repeat (first | exact trivial | refine ⟨⟨_, rfl, Wk.refl _⟩, ?_⟩ | refine ⟨⟨_, rfl, Wk.nil _ _⟩, ?_⟩ | refine ⟨⟨_, rfl, Wk.junk _⟩, ?_⟩)) (by repeat (first | exact trivial | refine ⟨rfl, ?_⟩)) rfl)) ?_
    obtain ⟨C1, hC1⟩ : ∃ C1, C ++ splitB ni 2 = C1 := ⟨_, rfl⟩
    have hC1l : C1.length ≤ 12000 := by rw [← hC1, List.length_append, splitB_len, hCl]; omega
    obtain ⟨C2, hC2⟩ : ∃ C2, C1 ++ splitB no 2 = C2 := ⟨_, rfl⟩
    have hC2l : C2.length ≤ 13000 := by rw [← hC2, List.length_append, splitB_len]; omega
    obtain ⟨C3, hC3⟩ : ∃ C3, C2 ++ splitB nw 4 = C3 := ⟨_, rfl⟩
    have hC3l : C3.length ≤ 14000 := by rw [← hC3, List.length_append, splitB_len]; omega
    obtain ⟨C4, hC4⟩ : ∃ C4, C3 ++ splitB nt 1 = C4 := ⟨_, rfl⟩
    have q1 := fun K hl => am_put C ni 2 (by omega) (by omega) (by omega) [(9, ⟨56, [.i (ni : Int), .i (no : Int), .i (nw : Int), .i (nt : Int)], false, 0⟩), (1, ⟨24, [.i st, .d (stsD sts)], false, 0⟩)] K hl
    have q2 := fun K hl => am_put C1 no 2 (by omega) (by omega) (by omega) [(9, ⟨56, [.i (ni : Int), .i (no : Int), .i (nw : Int), .i (nt : Int)], false, 0⟩), (1, ⟨24, [.i st, .d (stsD sts)], false, 0⟩)] K hl
    have q3 := fun K hl => am_put C2 nw 4 (by omega) (by omega) (by omega) [(9, ⟨56, [.i (ni : Int), .i (no : Int), .i (nw : Int), .i (nt : Int)], false, 0⟩), (1, ⟨24, [.i st, .d (stsD sts)], false, 0⟩)] K hl
    have q4 := fun K hl => am_put C3 nt 1 (by omega) (by omega) (by omega) [(9, ⟨56, [.i (ni : Int), .i (no : Int), .i (nw : Int), .i (nt : Int)], false, 0⟩), (1, ⟨24, [.i st, .d (stsD sts)], false, 0⟩)] K hl
    rw [hC1] at q1
    rw [hC2] at q2
    rw [hC3] at q3
    rw [hC4] at q4
    refine AW.drawX9 9 ([.int .i64 (ni : Int), .int .i64 (no : Int), .int .i64 (nw : Int), .int .i64 (nt : Int)]) (l := #[false, false, false, false, false, false, false, false, false, false, false, false, false, false]) 14 (by kernel_rfl) rfl rfl ?_
    refine AX.rp (i := 0) (l' := #[true, false, false, false, false, false, false, false, false, false, false, false, false, false]) rfl rfl rfl (fun _ _ h => h) (by kernel_rfl) rfl rfl rfl rfl (rp_move rfl rfl) ?_
    (first | (refine AX.rp (i := 1) (l' := #[true, true, false, false, false, false, false, false, false, false, false, false, false, false]) rfl rfl rfl (fun _ _ h => h) (by kernel_rfl) rfl rfl rfl rfl (rp_field_ref Try.underlying56 rfl rfl rfl inf3 (by decide) rfl) ?_) | (refine AX.rp (i := 1) (l' := #[true, true, false, false, false, false, false, false, false, false, false, false, false, false]) rfl rfl rfl (fun _ _ h => h) (by kernel_rfl) rfl rfl rfl rfl (rp_field_ad Try.underlying56 rfl rfl rfl inf3 (by decide) rfl) ?_))
    refine AX.rd (i := 2) (l' := #[true, true, true, false, false, false, false, false, false, false, false, false, false, false]) rfl rfl rfl (fun _ _ h => h) (by kernel_rfl) rfl rfl rfl rfl Try.underlying3 rfl rfl rfl rfl ?_
    (first | (refine AX.rp (i := 4) (l' := #[true, true, true, false, true, false, false, false, false, false, false, false, false, false]) rfl rfl rfl (fun _ _ h => h) (by kernel_rfl) rfl rfl rfl rfl (rp_field_ref Try.underlying56 rfl rfl rfl inf3 (by decide) rfl) ?_) | (refine AX.rp (i := 4) (l' := #[true, true, true, false, true, false, false, false, false, false, false, false, false, false]) rfl rfl rfl (fun _ _ h => h) (by kernel_rfl) rfl rfl rfl rfl (rp_field_ad Try.underlying56 rfl rfl rfl inf3 (by decide) rfl) ?_))
    refine AX.rd (i := 5) (l' := #[true, true, true, false, true, true, false, false, false, false, false, false, false, false]) rfl rfl rfl (fun _ _ h => h) (by kernel_rfl) rfl rfl rfl rfl Try.underlying3 rfl rfl rfl rfl ?_
    (first | (refine AX.rp (i := 7) (l' := #[true, true, true, false, true, true, false, true, false, false, false, false, false, false]) rfl rfl rfl (fun _ _ h => h) (by kernel_rfl) rfl rfl rfl rfl (rp_field_ref Try.underlying56 rfl rfl rfl inf3 (by decide) rfl) ?_) | (refine AX.rp (i := 7) (l' := #[true, true, true, false, true, true, false, true, false, false, false, false, false, false]) rfl rfl rfl (fun _ _ h => h) (by kernel_rfl) rfl rfl rfl rfl (rp_field_ad Try.underlying56 rfl rfl rfl inf3 (by decide) rfl) ?_))
    refine AX.rd (i := 8) (l' := #[true, true, true, false, true, true, false, true, true, false, false, false, false, false]) rfl rfl rfl (fun _ _ h => h) (by kernel_rfl) rfl rfl rfl rfl Try.underlying3 rfl rfl rfl rfl ?_
    (first | (refine AX.rp (i := 10) (l' := #[true, true, true, false, true, true, false, true, true, false, true, false, false, false]) rfl rfl rfl (fun _ _ h => h) (by kernel_rfl) rfl rfl rfl rfl (rp_field_ref Try.underlying56 rfl rfl rfl inf3 (by decide) rfl) ?_) | (refine AX.rp (i := 10) (l' := #[true, true, true, false, true, true, false, true, true, false, true, false, false, false]) rfl rfl rfl (fun _ _ h => h) (by kernel_rfl) rfl rfl rfl rfl (rp_field_ad Try.underlying56 rfl rfl rfl inf3 (by decide) rfl) ?_))
    refine AX.rd (i := 11) (l' := #[true, true, true, false, true, true, false, true, true, false, true, true, false, false]) rfl rfl rfl (fun _ _ h => h) (by kernel_rfl) rfl rfl rfl rfl Try.underlying3 rfl rfl rfl rfl ?_
    try simp only [S.put, S.newObj, List.nil_append, List.cons_append, List.append_nil]
    refine AX.pc (i := 3) (l' := #[true, true, true, true, true, true, false, true, true, false, true, true, false, false]) 9 (by kernel_rfl) rfl rfl rfl (by decide) [1, 9, 25, 26, 27, 40, 41, 42, 50, 51, 53, 54, 56, 57] (ts := [_, _, _, _, _, _, _, _, _, _, _, _, _, _]) (args := [_, _, _]) (post := ?pc8) ?hc8 rfl rfl rfl rfl rfl rfl rfl rfl rfl ?_
    case hc8 => (refine q1 _ ⟨?_, ?_⟩ <;> first | rfl | (simp [V.lowL, V.low]; done))
    rintro _ _ _ ⟨rfl, rfl, rfl⟩
    refine ⟨⟨rfl, _, rfl, rfl, rfl⟩, ?_⟩
    simp only [back, S.put, List.cons_append, List.nil_append, List.zip_cons_cons, List.zip_nil_left, List.drop_succ_cons, List.drop_zero, List.length_cons, List.length_nil, Nat.zero_add, Nat.reduceAdd]
    try simp only [S.put, S.newObj, List.nil_append, List.cons_append, List.append_nil]
    refine AX.pc (i := 6) (l' := #[true, true, true, true, true, true, true, true, true, false, true, true, false, false]) 9 (by kernel_rfl) rfl rfl rfl (by decide) [1, 9, 25, 26, 27, 40, 41, 42, 53, 54, 56, 57] (ts := [_, _, _, _, _, _, _, _, _, _, _, _]) (args := [_, _, _]) (post := ?pc9) ?hc9 rfl rfl rfl rfl rfl rfl rfl rfl rfl ?_
    case hc9 => (refine q2 _ ⟨?_, ?_⟩ <;> first | rfl | (simp [V.lowL, V.low]; done))
    rintro _ _ _ ⟨rfl, rfl, rfl⟩
    refine ⟨⟨rfl, _, rfl, rfl, rfl⟩, ?_⟩
    simp only [back, S.put, List.cons_append, List.nil_append, List.zip_cons_cons, List.zip_nil_left, List.drop_succ_cons, List.drop_zero, List.length_cons, List.length_nil, Nat.zero_add, Nat.reduceAdd]
    try simp only [S.put, S.newObj, List.nil_append, List.cons_append, List.append_nil]
    refine AX.pc (i := 9) (l' := #[true, true, true, true, true, true, true, true, true, true, true, true, false, false]) 9 (by kernel_rfl) rfl rfl rfl (by decide) [1, 9, 25, 26, 27, 40, 41, 42, 56, 57] (ts := [_, _, _, _, _, _, _, _, _, _]) (args := [_, _, _]) (post := ?pc10) ?hc10 rfl rfl rfl rfl rfl rfl rfl rfl rfl ?_
    case hc10 => (refine q3 _ ⟨?_, ?_⟩ <;> first | rfl | (simp [V.lowL, V.low]; done))
    rintro _ _ _ ⟨rfl, rfl, rfl⟩
    refine ⟨⟨rfl, _, rfl, rfl, rfl⟩, ?_⟩
    simp only [back, S.put, List.cons_append, List.nil_append, List.zip_cons_cons, List.zip_nil_left, List.drop_succ_cons, List.drop_zero, List.length_cons, List.length_nil, Nat.zero_add, Nat.reduceAdd]
    try simp only [S.put, S.newObj, List.nil_append, List.cons_append, List.append_nil]
    refine AX.pc (i := 12) (l' := #[true, true, true, true, true, true, true, true, true, true, true, true, true, false]) 9 (by kernel_rfl) rfl rfl rfl (by decide) [1, 9, 25, 26, 27, 40, 41, 42] (ts := [_, _, _, _, _, _, _, _]) (args := [_, _, _]) (post := ?pc11) ?hc11 rfl rfl rfl rfl rfl rfl rfl rfl rfl ?_
    case hc11 => (refine q4 _ ⟨?_, ?_⟩ <;> first | rfl | (simp [V.lowL, V.low]; done))
    rintro _ _ _ ⟨rfl, rfl, rfl⟩
    refine ⟨⟨rfl, _, rfl, rfl, rfl⟩, ?_⟩
    simp only [back, S.put, List.cons_append, List.nil_append, List.zip_cons_cons, List.zip_nil_left, List.drop_succ_cons, List.drop_zero, List.length_cons, List.length_nil, Nat.zero_add, Nat.reduceAdd]
    refine AX.rp (i := 13) (l' := #[true, true, true, true, true, true, true, true, true, true, true, true, true, true]) rfl rfl rfl (fun _ _ h => h) (by kernel_rfl) rfl rfl rfl rfl (rp_assign rfl rfl) ?_
    refine AX.nil (by kernel_rfl) ?_
    try simp only [thenS, S.put]
    refine AW.region ?_
    refine AL.rp rfl rfl (rp_add rfl rfl rfl (by first | omega | (dsimp only; omega))) ?_
    refine AL.rp rfl rfl (rp_move rfl rfl) ?_
    refine AL.nil ?_
    try simp only [thenS, S.put]
    refine ⟨_, ?_, ⟨i + 1, C4.length, C4, by omega, by rw [hsn2, List.flatMap_append, List.flatMap_cons, List.flatMap_nil, List.append_nil, hab, ← hC4, ← hC3, ← hC2, ← hC1, hC]; simp only [List.append_assoc], rfl, rfl⟩, ?_⟩
    ·exact (Less.of rfl (by repeat (first | exact trivial | refine ⟨⟨_, rfl, Wk.refl _⟩, ?_⟩ | refine ⟨⟨_, rfl, Wk.nil _ _⟩, ?_⟩ | refine ⟨⟨_, rfl, Wk.junk _⟩, ?_⟩)) (by repeat (first | exact trivial | refine ⟨rfl, ?_⟩)) rfl)
    ·simp [S.nat, fnd]; omega
   ·rw [List.take_of_length_le (by omega)] at hC
    refine AW.seq ?_
    refine AW.region ?_
    (first | (refine AL.rp rfl rfl (rp_lssT rfl rfl rfl (by first | assumption | omega | (dsimp only; omega))) ?_) | (refine AL.rp rfl rfl (rp_lssF rfl rfl rfl (by first | assumption | omega | (dsimp only; omega))) ?_) | (refine AL.rp rfl rfl (rp_lss rfl rfl rfl) ?_))
    refine AL.nil ?_
    try simp only [thenS, S.put]
    refine AW.seq ?_
    refine AW.condF rfl ?_
    refine AW.exit ?_
    try simp only [thenS, inBlockS, ↓reduceIte, Nat.reduceEqDiff]
    refine AW.region ?_
    refine AL.rp rfl rfl (rp_add rfl rfl rfl (by first | omega | (dsimp only; omega))) ?_
    refine AL.rp rfl rfl (rp_move rfl rfl) ?_
    refine AL.nil ?_
    try simp only [thenS, S.put]
    refine ⟨_, ?_, ⟨k + 1, c, C, by omega, by rw [hsn, List.flatMap_append, List.flatMap_cons, List.flatMap_nil, List.append_nil, hsb, hC, ← hB2, ← hB1, hB]; simp [List.append_assoc], hCl, rfl⟩, ?_⟩
    ·exact (Less.of rfl (by repeat (first | exact trivial | refine ⟨⟨_, rfl, Wk.refl _⟩, ?_⟩ | refine ⟨⟨_, rfl, Wk.nil _ _⟩, ?_⟩ | refine ⟨⟨_, rfl, Wk.junk _⟩, ?_⟩)) (by repeat (first | exact trivial | refine ⟨rfl, ?_⟩)) rfl)
    ·simp [S.nat, fnd]; omega
  ·rw [List.take_of_length_le (by omega), ← hPB] at hB
   subst hB
   have hB4 : B.length ≤ 5000 := by
    rw [hPB]
    simp only [List.length_append, List.length_cons, List.length_nil, stsB_len]
    omega
   rw [hBl] at hB4
   obtain ⟨cr, hcd⟩ : ∃ c, crc B = c := ⟨_, rfl⟩
   rw [hcd] at hcr ⊢
   have hsum := Fn.eqv (am_sum B hPlt) (y := .k .u16 (cr : Int)) (by rw [hcd])
   obtain ⟨R, hR⟩ : ∃ R, B ++ splitB cr 2 = R := ⟨_, rfl⟩
   have q1 := fun K hl => (am_put B cr 2 (by omega) (by omega) (by omega) [(1, ⟨24, [.i st, .d (stsD sts)], false, 0⟩)] K hl).pc
   rw [hR, hBl] at q1
   rw [hR]
   have hRl : R.length = b + 2 := by rw [← hR, List.length_append, splitB_len, hBl]
   refine AW.seq ?_
   refine AW.region ?_
   (first | (refine AL.rp rfl rfl (rp_lssT rfl rfl rfl (by first | assumption | omega | (dsimp only; omega))) ?_) | (refine AL.rp rfl rfl (rp_lssF rfl rfl rfl (by first | assumption | omega | (dsimp only; omega))) ?_) | (refine AL.rp rfl rfl (rp_lss rfl rfl rfl) ?_))
   refine AL.nil ?_
   try simp only [thenS, S.put]
   refine AW.seq ?_
   refine AW.condF rfl ?_
   refine AW.exit ?_
   try simp only [thenS, inBlockS, ↓reduceIte, Nat.reduceEqDiff]
   refine AW.seq ?_
   refine AW.region ?_
   refine AL.rp rfl rfl (rp_move rfl rfl) ?_
   refine AL.rp rfl rfl (rp_move rfl rfl) ?_
   refine AL.call (post := ?pc12) rfl (sm_callr (args := ?ac12) (us := [_]) ?hc12 ?qc12 ⟨Try.func71, rfl, rfl, rfl, rfl⟩ rfl rfl rfl ?rc12 rfl) ?_
   case hc12 => exact hsum
   case qc12 => (intro v hv; first | (subst hv; first | trivial | (simp [V.plain]; done)) | (obtain ⟨_, rfl, _⟩ := hv; first | trivial | (simp [V.plain]; done)))
   case rc12 => exact .cons (.own 901 1 b 1 false _ (B.map encB) rfl rfl (by rw [List.length_map, hBl]) (by omega) rowsB) .nil
   rintro _ rfl -
   try dsimp only
   refine AL.rp rfl rfl (rp_conv Try.underlying91 (by intro e h; cases h) (by intro h; cases h) Try.underlying3 rfl rfl (r := (cr : Int)) (by first | (rw [wrap8]; omega) | (rw [wrap16]; omega) | (rw [wrap64 (by omega)] <;> omega) | (rw [wrapU64 (by omega)] <;> omega))) ?_
   try simp only [S.put, S.newObj, setL, V.cs, List.length_cons, List.length_nil, List.take_succ_cons, List.take_zero, List.drop_succ_cons, List.drop_zero, List.drop_nil, List.nil_append, List.cons_append, List.append_nil, Nat.zero_add, Nat.reduceAdd]
   refine AL.pc [1] (ts := [_]) (args := [_, _, _]) (post := ?pc13) ?hc13 rfl rfl rfl rfl rfl rfl rfl rfl rfl ?_
   case hc13 => (refine q1 _ ⟨?_, ?_⟩ <;> first | rfl | (simp [V.lowL, V.low]; done))
   rintro _ _ _ ⟨rfl, rfl, rfl⟩
   simp only [back, S.put, List.cons_append, List.nil_append, List.zip_cons_cons, List.zip_nil_left, List.drop_succ_cons, List.drop_zero, List.length_cons, List.length_nil, Nat.zero_add, Nat.reduceAdd]
   refine AL.rp rfl rfl (rp_assign rfl rfl) ?_
   refine AL.rp rfl rfl (rp_assign rfl rfl) ?_
   refine AL.nil ?_
   try simp only [thenS, S.put, S.newObj, setL, V.cs, List.length_cons, List.length_nil, List.take_succ_cons, List.take_zero, List.drop_succ_cons, List.drop_zero, List.drop_nil, List.nil_append, List.cons_append, List.append_nil, Nat.zero_add, Nat.reduceAdd, List.map_cons, List.map_nil, List.set_cons_zero, List.set_cons_succ]
   refine AW.freeze 2 1 (R.map encB) rfl rfl rfl (by rw [List.length_map]) (by omega) rowsB ?_
   refine AW.ret ?_
   exact ⟨[_, _], ⟨rfl, rfl, trivial⟩, rfl, by simp [tupOf, V.pure, V.has, V.hasL]⟩
 ·have hP : packL m = [] := by unfold packL; rw [if_neg h0]
  rw [hP]
  refine Fn.wkS (post := fun v => v = .tup [.nil, .i (machE m)]) ?_ (fun v hv _ => ⟨_, rfl, by simp [V.pure, V.has, V.hasL], fun w q g x hx => by
   subst hv
   cases hx with
   | tup _ cs hl hh =>
    refine .tup _ cs hl fun j u c h1 h2 => ?_
    match j, h1 with
    | 0, h1 =>
     simp only [List.getElem?_cons_zero, Option.some.injEq] at h1
     subst h1
     exact (Wk.nil 1 1).rep (hh 0 .nil c rfl h2)
    | j + 1, h1 => exact hh (j + 1) u c h1 h2⟩)
  obtain ⟨e, he⟩ : ∃ e, machE m = e := ⟨_, rfl⟩
  rw [he]
  rw [he] at h0
  obtain ⟨⟨st, sts⟩, rfl⟩ : ∃ m', m' = m := ⟨m, rfl⟩
  refine Fn.intro (n := 66) ⟨Try.func29, rfl, rfl, rfl, rfl⟩ (by simp [V.pure, V.has, V.hasL]) (by simp) fun w0 out => ?_
  refine AW.seq ?_
  refine AW.region ?_
  refine AL.sm rfl (sm_box 1 rfl rfl rfl (by first | rfl | simp [S.clean, S.put, S.newObj, S.forget, V.has, V.hasL, junkIf, setL, V.cs, hasL_i, hasL_b, hasL_s, hasL_n, hasL_rep, hasL_flat, hasL_append, -List.map_set]) rfl) ?_
  refine AL.rp rfl rfl (rp_assign rfl rfl) ?_
  refine AL.rp rfl rfl (rp_assign rfl rfl) ?_
  refine AL.nil ?_
  try simp only [thenS, S.put, S.newObj, setL, V.cs, List.length_cons, List.length_nil, List.take_succ_cons, List.take_zero, List.drop_succ_cons, List.drop_zero, List.drop_nil, List.nil_append, List.cons_append, List.append_nil, Nat.zero_add, Nat.reduceAdd, List.map_cons, List.map_nil, List.set_cons_zero, List.set_cons_succ, enum]
  refine AW.seq ?_
  refine AW.seq ?_
  refine AW.region ?_
  (first | (refine AL.rd rfl rfl (rd_loads_ref Try.underlying24 rfl inf24 rfl rfl rfl rfl rfl rfl) ?_) | (refine AL.rd rfl rfl (rd_loads_ad Try.underlying24 rfl inf24 rfl rfl rfl rfl) ?_))
  refine AL.call (post := ?pc14) rfl (sm_call (args := [_]) ?hc14 ⟨Try.func48, rfl, rfl, rfl, rfl⟩ rfl rfl rfl rfl) ?_
  case hc14 => exact Fn.eqi (am_Check ⟨st, sts⟩) he
  rintro _ rfl -
  try dsimp only
  refine AL.rp rfl rfl (rp_assign rfl rfl) ?_
  refine AL.nil ?_
  try simp only [thenS, S.put, S.newObj, setL, V.cs, List.length_cons, List.length_nil, List.take_succ_cons, List.take_zero, List.drop_succ_cons, List.drop_zero, List.drop_nil, List.nil_append, List.cons_append, List.append_nil, Nat.zero_add, Nat.reduceAdd, List.map_cons, List.map_nil, List.set_cons_zero, List.set_cons_succ]
  refine AW.seq ?_
  refine AW.region ?_
  refine AL.rp rfl rfl (rp_move rfl rfl) ?_
  (first | (refine AL.rp rfl rfl (rp_neqT rfl rfl rfl (by first | assumption | omega | (dsimp only; omega))) ?_) | (refine AL.rp rfl rfl (rp_neqF rfl rfl rfl (by first | assumption | omega | (dsimp only; omega))) ?_) | (refine AL.rp rfl rfl (rp_neq rfl rfl rfl) ?_))
  refine AL.nil ?_
  try simp only [thenS, S.put]
  refine AW.condT rfl ?_
  refine AW.seq ?_
  refine AW.region ?_
  refine AL.rp rfl rfl (rp_move rfl rfl) ?_
  refine AL.rp rfl rfl (rp_assign rfl rfl) ?_
  refine AL.rp rfl rfl (rp_assign rfl rfl) ?_
  refine AL.nil ?_
  try simp only [thenS, S.put]
  refine AW.ret ?_
  exact ⟨[_, _], ⟨rfl, rfl, trivial⟩, rfl, by simp [tupOf, V.pure, V.has, V.hasL]⟩
end Go.Proofs.Ytjbldphpkkmdpaa
