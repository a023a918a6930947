/- rational.Concat: one behind the other. -/
import Derived.Test.YtnnmdcagbcdfpaaRatTop
namespace Go.Proofs.Ytnnmdcagbcdfpaa
open Go.RowKit
set_option linter.unusedSimpArgs false
set_option linter.unusedVariables false

theorem rational_both (v u : Value) (m n : Mach) (w : World) (h : MachAt w v m) (g : MachAt w u n) : Calls Try.prog 59 #[v, u] w fun e w' => e = .returned (.int .i64 (twoE m n)) ∧ Below w.heap.size w w' := by
  have HM := Lib.hid h
  have GM := Lib.hid g
  obtain ⟨a, len, cap, hv, -, -, -⟩ := MachAt.opens h
  obtain ⟨a2, len2, cap2, hu, -, -, -⟩ := MachAt.opens g
  subst hv hu
  clear h g
  obtain ⟨E, hE⟩ : ∃ E, machE m = E := ⟨_, rfl⟩
  by_cases hz : E = 0
  · subst hz
    have h1 : twoE m n = machE n := by unfold twoE; rw [if_pos hE]
    rw [h1]
    have HE := Lib.hid hE
    clear hE h1
    go_enter Try.func59, Try.ntmps59
    go_wp2_with fail
    refine (core_Check_as 0 _ m _ (HM.out.mono (by repeat' (first | (with_reducible exact Below.refl _ _) | (with_reducible assumption) | (with_reducible refine Below.dr ?_ _) | (with_reducible refine Below.d1 ?_) | (with_reducible refine Below.al ?_ _) | (with_reducible refine Below.tr ?_ (by assumption)) | (with_reducible refine Below.drewN ?_ _) | (with_reducible refine Below.drew ?_) | (with_reducible refine Below.alloc ?_ ?_ _) | (with_reducible refine Below.setCell ?_ ?_ _) | (with_reducible refine Below.trans ?_ (Below.mono (by assumption) ?_)) | omega | (simp; done) | (simp; omega) | (simp [*]; done)))) HE.out).mono ?_
    rintro e w1 ⟨rfl, b1⟩
    have P1 := Blk.to (Blk.new' (w.alloc _) _ _ (n := w.heap.size + 1) (by simp)) b1
    have p0 := P1.cell 0 rfl; have p1 := P1.cell 1 rfl; have pf0 := P1.free 0; have pf1 := P1.free 1; have pz := P1.lt
    go_wp2_with fail
    refine (core_Check_as (machE n) _ n _ (GM.out.mono (by repeat' (first | (with_reducible exact Below.refl _ _) | (with_reducible assumption) | (with_reducible refine Below.dr ?_ _) | (with_reducible refine Below.d1 ?_) | (with_reducible refine Below.al ?_ _) | (with_reducible refine Below.tr ?_ (by assumption)) | (with_reducible refine Below.drewN ?_ _) | (with_reducible refine Below.drew ?_) | (with_reducible refine Below.alloc ?_ ?_ _) | (with_reducible refine Below.setCell ?_ ?_ _) | (with_reducible refine Below.trans ?_ (Below.mono (by assumption) ?_)) | omega | (simp; done) | (simp; omega) | (simp [*]; done)))) rfl).mono ?_
    rintro e w2 ⟨rfl, b2⟩
    go_wp2_with fail
    go_ret
    exact ⟨rfl, (by repeat' (first | (with_reducible exact Below.refl _ _) | (with_reducible assumption) | (with_reducible refine Below.dr ?_ _) | (with_reducible refine Below.d1 ?_) | (with_reducible refine Below.al ?_ _) | (with_reducible refine Below.tr ?_ (by assumption)) | (with_reducible refine Below.drewN ?_ _) | (with_reducible refine Below.drew ?_) | (with_reducible refine Below.alloc ?_ ?_ _) | (with_reducible refine Below.setCell ?_ ?_ _) | (with_reducible refine Below.trans ?_ (Below.mono (by assumption) ?_)) | omega | (simp; done) | (simp; omega) | (simp [*]; done)))⟩
  · have h1 : twoE m n = E := by unfold twoE; rw [hE]; exact if_neg hz
    rw [h1]
    have HE := Lib.hid hE
    have hEb : (E != 0) = true := by simp [hz]
    clear hE h1 hz
    go_enter Try.func59, Try.ntmps59
    go_wp2_with fail
    refine (core_Check_as E _ m _ (HM.out.mono (by repeat' (first | (with_reducible exact Below.refl _ _) | (with_reducible assumption) | (with_reducible refine Below.dr ?_ _) | (with_reducible refine Below.d1 ?_) | (with_reducible refine Below.al ?_ _) | (with_reducible refine Below.tr ?_ (by assumption)) | (with_reducible refine Below.drewN ?_ _) | (with_reducible refine Below.drew ?_) | (with_reducible refine Below.alloc ?_ ?_ _) | (with_reducible refine Below.setCell ?_ ?_ _) | (with_reducible refine Below.trans ?_ (Below.mono (by assumption) ?_)) | omega | (simp; done) | (simp; omega) | (simp [*]; done)))) HE.out).mono ?_
    rintro e w1 ⟨rfl, b1⟩
    go_wp2_with fail
    go_ret
    exact ⟨rfl, (by repeat' (first | (with_reducible exact Below.refl _ _) | (with_reducible assumption) | (with_reducible refine Below.dr ?_ _) | (with_reducible refine Below.d1 ?_) | (with_reducible refine Below.al ?_ _) | (with_reducible refine Below.tr ?_ (by assumption)) | (with_reducible refine Below.drewN ?_ _) | (with_reducible refine Below.drew ?_) | (with_reducible refine Below.alloc ?_ ?_ _) | (with_reducible refine Below.setCell ?_ ?_ _) | (with_reducible refine Below.trans ?_ (Below.mono (by assumption) ?_)) | omega | (simp; done) | (simp; omega) | (simp [*]; done)))⟩
theorem rational_both_as (E : Int) (v u : Value) (m n : Mach) (w : World) (h : MachAt w v m) (g : MachAt w u n) (hE : twoE m n = E) : Calls Try.prog 59 #[v, u] w fun e w' => e = .returned (.int .i64 E) ∧ Below w.heap.size w w' := hE ▸ rational_both v u m n w h g

set_option maxRecDepth 100000 in
set_option maxHeartbeats 4000000 in
theorem rational_Concat (v u : Value) (m n : Mach) (w : World) (h : MachAt w v m) (g : MachAt w u n) : Calls Try.prog 38 #[v, u] w fun e w' => ∃ mv, e = .returned (.tuple #[mv, .int .i64 (concatE m n)]) ∧ MachNew w' w.heap.size mv (concatOut m n) ∧ Below w.heap.size w w' := by
  have HM := Lib.hid h
  have GM := Lib.hid g
  obtain ⟨a, len, cap, rfl, hl, H, Hl⟩ := MachAt.opens h
  obtain ⟨a2, len2, cap2, rfl, hl2, G, Gl⟩ := MachAt.opens g
  clear h g
  obtain ⟨E, hE⟩ : ∃ E, twoE m n = E := ⟨_, rfl⟩
  obtain ⟨st, sts⟩ := m
  obtain ⟨st2, sts2⟩ := n
  simp only at H Hl HM G Gl GM hE ⊢
  by_cases hz : E = 0
  · subst hz
    obtain ⟨hEa, hEb⟩ := twoE_zero hE
    have hO : concatOut ⟨st, sts⟩ ⟨st2, sts2⟩ = builtM (chainedM ⟨st, sts⟩ ⟨st2, sts2⟩) := by unfold concatOut; rw [if_pos hE, (chained_fits hEa hEb).1]
    have hO2 : concatE ⟨st, sts⟩ ⟨st2, sts2⟩ = builtE (chainedM ⟨st, sts⟩ ⟨st2, sts2⟩) := by unfold concatE; rw [if_pos hE, (chained_fits hEa hEb).2]
    rw [hO, hO2]
    obtain ⟨bm, hbm⟩ : ∃ bm, builtM (chainedM ⟨st, sts⟩ ⟨st2, sts2⟩) = bm := ⟨_, rfl⟩
    obtain ⟨be, hbe⟩ : ∃ be, builtE (chainedM ⟨st, sts⟩ ⟨st2, sts2⟩) = be := ⟨_, rfl⟩
    rw [hbm, hbe]
    have HBM := Lib.hid hbm
    have HBE := Lib.hid hbe
    clear hbm hbe
    have HG := Lib.hid (good_arcs hEa)
    have HG2 := Lib.hid (good_arcs hEb)
    have HE := Lib.hid hE
    have h60 : len ≤ 60 := by have := HG.out.1; rw [Hl.out] at this; exact this
    have h62 : len2 ≤ 60 := by have := HG2.out.1; rw [Gl.out] at this; exact this
    have hst1 : -1 ≤ st2 := HG2.out.2.2.2.2.1
    have hst2 : st2 < len2 := by have := HG2.out.2.2.2.2.2; rw [Gl.out] at this; exact this
    clear hO hO2 hE hEa hEb
    go_enter Try.func38, Try.ntmps38
    go_wp2_with fail
    refine (rational_both_as 0 _ _ ⟨st, sts⟩ ⟨st2, sts2⟩ _ (HM.out.mono (by repeat' (first | (with_reducible exact Below.refl _ _) | (with_reducible assumption) | (with_reducible refine Below.dr ?_ _) | (with_reducible refine Below.d1 ?_) | (with_reducible refine Below.al ?_ _) | (with_reducible refine Below.tr ?_ (by assumption)) | (with_reducible refine Below.drewN ?_ _) | (with_reducible refine Below.drew ?_) | (with_reducible refine Below.alloc ?_ ?_ _) | (with_reducible refine Below.setCell ?_ ?_ _) | (with_reducible refine Below.trans ?_ (Below.mono (by assumption) ?_)) | omega | (simp; done) | (simp; omega) | (simp [*]; done)))) (GM.out.mono (by repeat' (first | (with_reducible exact Below.refl _ _) | (with_reducible assumption) | (with_reducible refine Below.dr ?_ _) | (with_reducible refine Below.d1 ?_) | (with_reducible refine Below.al ?_ _) | (with_reducible refine Below.tr ?_ (by assumption)) | (with_reducible refine Below.drewN ?_ _) | (with_reducible refine Below.drew ?_) | (with_reducible refine Below.alloc ?_ ?_ _) | (with_reducible refine Below.setCell ?_ ?_ _) | (with_reducible refine Below.trans ?_ (Below.mono (by assumption) ?_)) | omega | (simp; done) | (simp; omega) | (simp [*]; done)))) HE.out).mono ?_
    rintro e w1 ⟨rfl, b1⟩
    have hb1 : Below w.heap.size w w1 := (by repeat' (first | (with_reducible exact Below.refl _ _) | (with_reducible assumption) | (with_reducible refine Below.dr ?_ _) | (with_reducible refine Below.d1 ?_) | (with_reducible refine Below.al ?_ _) | (with_reducible refine Below.tr ?_ (by assumption)) | (with_reducible refine Below.drewN ?_ _) | (with_reducible refine Below.drew ?_) | (with_reducible refine Below.alloc ?_ ?_ _) | (with_reducible refine Below.setCell ?_ ?_ _) | (with_reducible refine Below.trans ?_ (Below.mono (by assumption) ?_)) | omega | (simp; done) | (simp; omega) | (simp [*]; done)))
    have M1 := Lib.hid (Blk.to (((Blk.new w _ _).al _).al _) b1)
    have N1 := Lib.hid (Blk.to ((Blk.new' (w.alloc _) _ _ (n := w.heap.size + 1) (by simp)).al _) b1)
    have R1 := Lib.hid (Blk.to (Blk.new' _ _ _ (n := w.heap.size + 1 + 1) (by simp)) b1)
    have hs1 : w.heap.size + 1 + 1 < w1.heap.size := R1.out.lt
    have B1 := Lib.hid hb1
    have p0 := M1.out.cell 0 rfl; have p1 := M1.out.cell 1 rfl; have pf0 := M1.out.free 0; have pf1 := M1.out.free 1; have pz := M1.out.lt
    have q0 := N1.out.cell 0 rfl; have q1 := N1.out.cell 1 rfl; have qf0 := N1.out.free 0; have qf1 := N1.out.free 1; have qz := N1.out.lt
    clear b1 hb1
    go_wp2_with fail
    refine (rational_add w1.heap.size 0 (.slice none 0 0) [] _ ⟨st, sts⟩ w _ (Blk.new _ _ _) ⟨[], Bld.nil _ _, rfl⟩ HM.out (by exact Below.al B1.out _) (by omega) (by simp) HG.out.1 HG.out.2.1 HG.out.2.2.1).mono ?_
    rintro e w2 ⟨rfl, ⟨sv2, X2, L2⟩, b2⟩
    have bb : Below w1.heap.size w1 w2 := Below.trans (Below.al (Below.refl _ _) _) b2
    have M2 := Lib.hid (M1.out.to bb)
    have N2 := Lib.hid (N1.out.to bb)
    have L2' : BldM w2 (w1.heap.size + 1) sv2 (sts.map (shiftSt 0)) := by simpa using L2
    obtain ⟨ts2, hB2, hts2⟩ := L2'
    have X2' := Lib.hid (X2.set 0 (.int .i64 st))
    have L3 := Lib.hid (show BldM (w2.setCell ⟨w1.heap.size, 0, none⟩ (.int .i64 st)) (w1.heap.size + 1) sv2 (sts.map (shiftSt 0)) from ⟨ts2, hB2.stored (by simp) _, hts2⟩)
    have bb3 := Lib.hid (show Below w1.heap.size w1 (w2.setCell ⟨w1.heap.size, 0, none⟩ (.int .i64 st)) from Below.setCell bb (Nat.le_refl _) _)
    have hs2 := bb.size
    have x2 := X2.cell 0 rfl
    have xf2 := X2.free 0
    have xz2 := X2.lt
    have bb2 := Lib.hid bb
    clear X2 L2 b2 hB2 hts2 bb p0 p1 pf0 pf1 pz q0 q1 qf0 qf1 qz
    have p0 := M2.out.cell 0 rfl; have p1 := M2.out.cell 1 rfl; have pf0 := M2.out.free 0; have pf1 := M2.out.free 1; have pz := M2.out.lt
    have q0 := N2.out.cell 0 rfl; have q1 := N2.out.cell 1 rfl; have qf0 := N2.out.free 0; have qf1 := N2.out.free 1; have qz := N2.out.lt
    go_wp2_with fail
    have hlA : (sts.map (shiftSt 0)).length = len := by rw [List.length_map]; exact Hl.out
    refine (rational_add w1.heap.size st sv2 (sts.map (shiftSt 0)) _ ⟨st2, sts2⟩ w _ X2'.out L3.out GM.out (B1.out.trans (bb3.out.mono B1.out.size)) (by omega) (by rw [hlA]; omega) HG2.out.1 HG2.out.2.1 HG2.out.2.2.1).mono ?_
    rintro e w4 ⟨rfl, ⟨sv4, X4, L4⟩, b4⟩
    rw [hlA] at L4 ⊢
    have HlA := Lib.hid hlA
    have bb4 := Lib.hid (bb3.out.trans b4)
    have N4 := Lib.hid (N2.out.under (Below.trans (show Below w1.heap.size w2 (w2.setCell ⟨w1.heap.size, 0, none⟩ (.int .i64 st)) from Below.setCell (Below.refl w1.heap.size w2) (p := ⟨w1.heap.size, 0, none⟩) (Nat.le_refl w1.heap.size) _) b4) (by omega))
    have HX4 := Lib.hid X4
    have HL4 := Lib.hid L4
    have hs4 := bb4.out.size
    clear X4 L4 b4 hlA p0 p1 pf0 pf1 pz q0 q1 qf0 qf1 qz x2 xf2 xz2
    have q0 := N4.out.cell 0 rfl; have q1 := N4.out.cell 1 rfl; have qf0 := N4.out.free 0; have qf1 := N4.out.free 1; have qz := N4.out.lt
    have hlen4 : ((sts.map (shiftSt 0)) ++ sts2.map (shiftSt len)).length = len + len2 := by rw [List.length_append, HlA.out, List.length_map]; have := Gl.out; omega
    have HL4n := Lib.hid hlen4
    clear hlen4
    have hsm : ∀ x ∈ (sts.map (shiftSt 0)) ++ sts2.map (shiftSt len), x.arcs.length ≤ 900 := by
      intro x hx
      rcases List.mem_append.1 hx with hx | hx
      · obtain ⟨c, hc, rfl⟩ := List.mem_map.1 hx
        have := HG.out.2.2.2.1 c hc
        simp only [shiftSt, List.length_map]; omega
      · obtain ⟨c, hc, rfl⟩ := List.mem_map.1 hx
        have := HG2.out.2.2.2.1 c hc
        simp only [shiftSt, List.length_map]; omega
    have HSM := Lib.hid hsm
    clear hsm
    have hC : ∀ to, to = chainTo ⟨st, sts⟩ ⟨st2, sts2⟩ → (⟨st, looseL ((sts.map (shiftSt 0)) ++ sts2.map (shiftSt len)) 0 len to⟩ : Mach) = chainedM ⟨st, sts⟩ ⟨st2, sts2⟩ := by
      intro to hto
      subst hto
      have h1 := looseL_head (sts.map (shiftSt 0)) (sts2.map (shiftSt len)) (chainTo ⟨st, sts⟩ ⟨st2, sts2⟩)
      rw [HlA.out] at h1
      rw [h1]
      unfold chainedM
      simp only [Hl.out]
    have HC := Lib.hid hC
    clear hC
    by_cases hst : st2 < 0
    · have hto : Hid ((-1 : Int) = chainTo ⟨st, sts⟩ ⟨st2, sts2⟩) := by unfold Hid chainTo; rw [if_pos hst]
      go_wp2_with fail
      refine (rational_loose w1.heap.size st sv4 _ _ 0 len rfl (-1) _ HX4.out HL4.out (by rw [HL4n.out]; omega) (by rw [HL4n.out]; omega) HSM.out).mono ?_
      rintro e w5 ⟨rfl, X5, L5, b5⟩
      have bb5 := Lib.hid (bb4.out.trans b5)
      have R5 := Lib.hid (R1.out.to bb5.out)
      have hs5 := bb5.out.size
      have HX5 := Lib.hid X5
      have HL5 := Lib.hid L5
      have hl5 : (looseL ((sts.map (shiftSt 0)) ++ sts2.map (shiftSt len)) 0 len (-1)).length ≤ 2000 := by rw [looseL_len, HL4n.out]; omega
      have Hl5 := Lib.hid hl5
      clear X5 L5 b5 hl5 q0 q1 qf0 qf1 qz
      go_wp2_with fail
      refine (rational_built_as w1.heap.size st sv4 _ bm be _ HX5.out HL5.out Hl5.out (by rw [HC.out (-1) hto.out]; exact HBM.out) (by rw [HC.out (-1) hto.out]; exact HBE.out)).mono ?_
      rintro e w6 ⟨mv, rfl, hm, b6⟩
      obtain ⟨a6, len6, cap6, hmv, -, -⟩ := hm.opens
      subst hmv
      have HN := Lib.hid hm
      have R6 := Lib.hid (R5.out.to b6)
      have hs6 := b6.size
      have b7 := Lib.hid (Below.tr (B1.out.trans (bb5.out.mono B1.out.size)) b6)
      clear hm b6
      have r0 := R6.out.cell 0 rfl; have r1 := R6.out.cell 1 rfl; have rf0 := R6.out.free 0; have rf1 := R6.out.free 1; have rz := R6.out.lt
      go_wp2_with fail
      have R7 := (R6.out.set 0 (.int .i64 bm.start)).set 1 (.slice a6 len6 cap6)
      have HN7 := ((HN.out.stored (p := ⟨w.heap.size + 1 + 1, 0, none⟩) (by simp; omega) (.int .i64 bm.start)).stored (p := ⟨w.heap.size + 1 + 1, 1, none⟩) (by simp; omega) (.slice a6 len6 cap6)).lower (b := w.heap.size) (by omega)
      refine bodyPost_ret (v := .tuple #[.agg #[.int .i64 bm.start, .slice a6 len6 cap6], .int .i64 be]) ?_ rfl ⟨_, rfl, HN7, (b7.out.setCell (by simp) _).setCell (by simp) _⟩
      have x0 := R7.cell 0 rfl; have x1 := R7.cell 1 rfl; have xf0 := R7.free 0; have xf1 := R7.free 1; have xz := R7.lt
      simp [results, Try.results38, go_sem, x0, x1]
    · have hto : Hid (st2 + (len : Int) = chainTo ⟨st, sts⟩ ⟨st2, sts2⟩) := by unfold Hid chainTo; rw [if_neg hst]; simp only [Hl.out]
      have hst0 : 0 ≤ st2 := by omega
      go_wp2_with fail
      refine (rational_loose w1.heap.size st sv4 _ _ 0 len rfl (st2 + len) _ HX4.out HL4.out (by rw [HL4n.out]; omega) (by rw [HL4n.out]; omega) HSM.out).mono ?_
      rintro e w5 ⟨rfl, X5, L5, b5⟩
      have bb5 := Lib.hid (bb4.out.trans b5)
      have R5 := Lib.hid (R1.out.to bb5.out)
      have hs5 := bb5.out.size
      have HX5 := Lib.hid X5
      have HL5 := Lib.hid L5
      have hl5 : (looseL ((sts.map (shiftSt 0)) ++ sts2.map (shiftSt len)) 0 len (st2 + len)).length ≤ 2000 := by rw [looseL_len, HL4n.out]; omega
      have Hl5 := Lib.hid hl5
      clear X5 L5 b5 hl5 q0 q1 qf0 qf1 qz
      go_wp2_with fail
      refine (rational_built_as w1.heap.size st sv4 _ bm be _ HX5.out HL5.out Hl5.out (by rw [HC.out (st2 + len) hto.out]; exact HBM.out) (by rw [HC.out (st2 + len) hto.out]; exact HBE.out)).mono ?_
      rintro e w6 ⟨mv, rfl, hm, b6⟩
      obtain ⟨a6, len6, cap6, hmv, -, -⟩ := hm.opens
      subst hmv
      have HN := Lib.hid hm
      have R6 := Lib.hid (R5.out.to b6)
      have hs6 := b6.size
      have b7 := Lib.hid (Below.tr (B1.out.trans (bb5.out.mono B1.out.size)) b6)
      clear hm b6
      have r0 := R6.out.cell 0 rfl; have r1 := R6.out.cell 1 rfl; have rf0 := R6.out.free 0; have rf1 := R6.out.free 1; have rz := R6.out.lt
      go_wp2_with fail
      have R7 := (R6.out.set 0 (.int .i64 bm.start)).set 1 (.slice a6 len6 cap6)
      have HN7 := ((HN.out.stored (p := ⟨w.heap.size + 1 + 1, 0, none⟩) (by simp; omega) (.int .i64 bm.start)).stored (p := ⟨w.heap.size + 1 + 1, 1, none⟩) (by simp; omega) (.slice a6 len6 cap6)).lower (b := w.heap.size) (by omega)
      refine bodyPost_ret (v := .tuple #[.agg #[.int .i64 bm.start, .slice a6 len6 cap6], .int .i64 be]) ?_ rfl ⟨_, rfl, HN7, (b7.out.setCell (by simp) _).setCell (by simp) _⟩
      have x0 := R7.cell 0 rfl; have x1 := R7.cell 1 rfl; have xf0 := R7.free 0; have xf1 := R7.free 1; have xz := R7.lt
      simp [results, Try.results38, go_sem, x0, x1]
  · have hO : concatOut ⟨st, sts⟩ ⟨st2, sts2⟩ = ⟨0, []⟩ := by unfold concatOut; rw [hE]; exact if_neg hz
    have hO2 : concatE ⟨st, sts⟩ ⟨st2, sts2⟩ = E := by unfold concatE; rw [hE]; exact if_neg hz
    rw [hO, hO2]
    have HE := Lib.hid hE
    have hEb : (E != 0) = true := by simp [hz]
    clear hO hO2 hE hz
    go_enter Try.func38, Try.ntmps38
    go_wp2_with fail
    refine (rational_both_as E _ _ ⟨st, sts⟩ ⟨st2, sts2⟩ _ (HM.out.mono (by repeat' (first | (with_reducible exact Below.refl _ _) | (with_reducible assumption) | (with_reducible refine Below.dr ?_ _) | (with_reducible refine Below.d1 ?_) | (with_reducible refine Below.al ?_ _) | (with_reducible refine Below.tr ?_ (by assumption)) | (with_reducible refine Below.drewN ?_ _) | (with_reducible refine Below.drew ?_) | (with_reducible refine Below.alloc ?_ ?_ _) | (with_reducible refine Below.setCell ?_ ?_ _) | (with_reducible refine Below.trans ?_ (Below.mono (by assumption) ?_)) | omega | (simp; done) | (simp; omega) | (simp [*]; done)))) (GM.out.mono (by repeat' (first | (with_reducible exact Below.refl _ _) | (with_reducible assumption) | (with_reducible refine Below.dr ?_ _) | (with_reducible refine Below.d1 ?_) | (with_reducible refine Below.al ?_ _) | (with_reducible refine Below.tr ?_ (by assumption)) | (with_reducible refine Below.drewN ?_ _) | (with_reducible refine Below.drew ?_) | (with_reducible refine Below.alloc ?_ ?_ _) | (with_reducible refine Below.setCell ?_ ?_ _) | (with_reducible refine Below.trans ?_ (Below.mono (by assumption) ?_)) | omega | (simp; done) | (simp; omega) | (simp [*]; done)))) HE.out).mono ?_
    rintro e w1 ⟨rfl, b1⟩
    have R1 := Blk.to (Blk.new' _ _ _ (n := w.heap.size + 1 + 1) (by simp)) b1
    have r0 := R1.cell 0 rfl; have r1 := R1.cell 1 rfl; have rf0 := R1.free 0; have rf1 := R1.free 1; have rz := R1.lt
    have hb1 : Below w.heap.size w w1 := (by repeat' (first | (with_reducible exact Below.refl _ _) | (with_reducible assumption) | (with_reducible refine Below.dr ?_ _) | (with_reducible refine Below.d1 ?_) | (with_reducible refine Below.al ?_ _) | (with_reducible refine Below.tr ?_ (by assumption)) | (with_reducible refine Below.drewN ?_ _) | (with_reducible refine Below.drew ?_) | (with_reducible refine Below.alloc ?_ ?_ _) | (with_reducible refine Below.setCell ?_ ?_ _) | (with_reducible refine Below.trans ?_ (Below.mono (by assumption) ?_)) | omega | (simp; done) | (simp; omega) | (simp [*]; done)))
    go_wp2_with fail
    have R3 := (R1.set 0 (.int .i64 0)).set 1 (.slice none 0 0)
    refine bodyPost_ret (v := .tuple #[.agg #[.int .i64 0, .slice none 0 0], .int .i64 E]) ?_ rfl ⟨_, rfl, MachNew.nil _ _ _, ?_⟩
    · have x0 := R3.cell 0 rfl; have x1 := R3.cell 1 rfl; have xf0 := R3.free 0; have xf1 := R3.free 1; have xz := R3.lt
      simp [results, Try.results38, go_sem, x0, x1]
    · exact (hb1.setCell (by simp) _).setCell (by simp) _
end Go.Proofs.Ytnnmdcagbcdfpaa
