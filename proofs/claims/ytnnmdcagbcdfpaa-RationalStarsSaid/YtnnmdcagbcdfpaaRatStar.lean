/- rational.Star: again and again. -/
import Derived.Test.YtnnmdcagbcdfpaaRatTop
namespace Go.Proofs.Ytnnmdcagbcdfpaa
open Go.RowKit
set_option linter.unusedSimpArgs false
set_option linter.unusedVariables false

set_option maxRecDepth 100000 in
set_option maxHeartbeats 4000000 in
theorem rational_Star (v : Value) (m : Mach) (w : World) (h : MachAt w v m) : Calls Try.prog 36 #[v] w fun e w' => ∃ mv, e = .returned (.tuple #[mv, .int .i64 (starE m)]) ∧ MachNew w' w.heap.size mv (starOut m) ∧ Below w.heap.size w w' := by
  have HM := Lib.hid h
  obtain ⟨a, len, cap, rfl, hl, H, Hl⟩ := MachAt.opens h
  clear h
  obtain ⟨E, hE⟩ : ∃ E, machE m = E := ⟨_, rfl⟩
  obtain ⟨st, sts⟩ := m
  simp only at H Hl HM hE ⊢
  by_cases hz : E = 0
  · subst hz
    have hO : starOut ⟨st, sts⟩ = builtM (starredM ⟨st, sts⟩) := by unfold starOut; rw [if_pos hE, (starred_fits hE).1]
    have hO2 : starE ⟨st, sts⟩ = builtE (starredM ⟨st, sts⟩) := by unfold starE; rw [if_pos hE, (starred_fits hE).2]
    rw [hO, hO2]
    obtain ⟨bm, hbm⟩ : ∃ bm, builtM (starredM ⟨st, sts⟩) = bm := ⟨_, rfl⟩
    obtain ⟨be, hbe⟩ : ∃ be, builtE (starredM ⟨st, sts⟩) = be := ⟨_, rfl⟩
    rw [hbm, hbe]
    have HBM := Lib.hid hbm
    have HBE := Lib.hid hbe
    clear hbm hbe
    have hg := good_arcs hE
    have HE := Lib.hid hE
    clear hO hO2 hE
    have h60 : len ≤ 60 := by have := hg.1; rw [Hl.out] at this; exact this
    have hst1 : -1 ≤ st := hg.2.2.2.2.1
    have hst2 : st < len := by have := hg.2.2.2.2.2; rw [Hl.out] at this; exact this
    have HG := Lib.hid hg
    clear hg
    go_enter Try.func36, Try.ntmps36
    go_wp2_with fail
    refine (core_Check_as 0 _ ⟨st, sts⟩ _ (HM.out.mono (by repeat' (first | (with_reducible exact Below.refl _ _) | (with_reducible assumption) | (with_reducible refine Below.dr ?_ _) | (with_reducible refine Below.d1 ?_) | (with_reducible refine Below.al ?_ _) | (with_reducible refine Below.tr ?_ (by assumption)) | (with_reducible refine Below.drewN ?_ _) | (with_reducible refine Below.drew ?_) | (with_reducible refine Below.alloc ?_ ?_ _) | (with_reducible refine Below.setCell ?_ ?_ _) | (with_reducible refine Below.trans ?_ (Below.mono (by assumption) ?_)) | omega | (simp; done) | (simp; omega) | (simp [*]; done)))) HE.out).mono ?_
    rintro e w1 ⟨rfl, b1⟩
    have hb1 : Below w.heap.size w w1 := (by repeat' (first | (with_reducible exact Below.refl _ _) | (with_reducible assumption) | (with_reducible refine Below.dr ?_ _) | (with_reducible refine Below.d1 ?_) | (with_reducible refine Below.al ?_ _) | (with_reducible refine Below.tr ?_ (by assumption)) | (with_reducible refine Below.drewN ?_ _) | (with_reducible refine Below.drew ?_) | (with_reducible refine Below.alloc ?_ ?_ _) | (with_reducible refine Below.setCell ?_ ?_ _) | (with_reducible refine Below.trans ?_ (Below.mono (by assumption) ?_)) | omega | (simp; done) | (simp; omega) | (simp [*]; done)))
    have M1 := Lib.hid (Blk.to (Blk.al (Blk.new w _ _) _) b1)
    have R1 := Lib.hid (Blk.to (Blk.new' _ _ _ (n := w.heap.size + 1) (by simp)) b1)
    have hs1 : w.heap.size + 1 < w1.heap.size := R1.out.lt
    have B1 := Lib.hid hb1
    have p0 := M1.out.cell 0 rfl; have p1 := M1.out.cell 1 rfl; have pf0 := M1.out.free 0; have pf1 := M1.out.free 1; have pz := M1.out.lt
    clear b1 hb1
    go_wp2_with fail
    refine (rational_add w1.heap.size 0 (.slice (some ⟨w1.heap.size + 1, 0, none⟩) 1 1) [⟨0, []⟩] _ ⟨st, sts⟩ w _ ((Blk.new _ _ _).al _) ⟨_, Bld.one 0 _ [] (by simp) (by omega) (World.ownsRow_nil _ _ _ _) (by simp), rfl⟩ HM.out (by exact Below.al (Below.al B1.out _) _) (by omega) (by simp) HG.out.1 HG.out.2.1 HG.out.2.2.1).mono ?_
    rintro e w2 ⟨rfl, ⟨sv2, X2, L2⟩, b2⟩
    have bb : Below w1.heap.size w1 w2 := Below.trans (Below.al (Below.al (Below.refl _ _) _) _) b2
    have M2 := Lib.hid (M1.out.to bb)
    have R2 := Lib.hid (R1.out.to bb)
    have B2 := Lib.hid (B1.out.trans (bb.mono B1.out.size))
    have HX2 := Lib.hid X2
    have L2' : BldM w2 (w1.heap.size + 1) sv2 ((⟨0, []⟩ : St) :: sts.map (shiftSt 1)) := by simpa using L2
    have HL2 := Lib.hid L2'
    clear L2'
    clear X2 L2 b2 p0 p1 pf0 pf1 pz
    have p0 := M2.out.cell 0 rfl; have p1 := M2.out.cell 1 rfl; have pf0 := M2.out.free 0; have pf1 := M2.out.free 1; have pz := M2.out.lt
    have hs2 := bb.size
    have hbb := Lib.hid bb
    clear bb
    by_cases hst : st < 0
    · go_wp2_with fail
      refine (rational_loose w1.heap.size 0 sv2 _ _ 1 len rfl 0 _ HX2.out HL2.out (by simp; have := Hl.out; omega) (by simp; have := Hl.out; omega) ?_).mono ?_
      · intro x hx
        simp only [List.mem_cons, List.mem_map] at hx
        rcases hx with rfl | ⟨c, hc, rfl⟩
        · simp
        · have := HG.out.2.2.2.1 c hc
          simp only [shiftSt, List.length_map]; omega
      rintro e w3 ⟨rfl, X3, L3, b3⟩
      have hL : looseL ((⟨0, []⟩ : St) :: sts.map (shiftSt 1)) 1 len 0 = ⟨0, hopsL st 1 0⟩ :: (sts.map (shiftSt 1)).map (looseSt 0) := by
        rw [show len = (sts.map (shiftSt 1)).length by rw [List.length_map, Hl.out], looseL_tail]
        unfold hopsL; rw [if_pos hst]
      rw [hL] at L3
      have hb5 := Lib.hid (Below.trans hbb.out b3)
      have R5 := Lib.hid (R1.out.to hb5.out)
      have hs5 := hb5.out.size
      have HX5 := Lib.hid X3
      have HL5 := Lib.hid L3
      clear X3 L3 b3 hL p0 p1 pf0 pf1 pz
      go_wp2_with fail
      refine (rational_built_as w1.heap.size 0 sv2 _ bm be _ HX5.out HL5.out (by simp; have := Hl.out; omega) HBM.out HBE.out).mono ?_
      rintro e w6 ⟨mv, rfl, hm, b6⟩
      obtain ⟨a6, len6, cap6, hmv, -, -⟩ := hm.opens
      subst hmv
      have HN := Lib.hid hm
      have R6 := Lib.hid (R5.out.to b6)
      have hs6 := b6.size
      have b7 := Lib.hid (Below.tr (B1.out.trans (hb5.out.mono B1.out.size)) b6)
      clear hm b6
      have r0 := R6.out.cell 0 rfl; have r1 := R6.out.cell 1 rfl; have rf0 := R6.out.free 0; have rf1 := R6.out.free 1; have rz := R6.out.lt
      go_wp2_with fail
      have R7 := (R6.out.set 0 (.int .i64 bm.start)).set 1 (.slice a6 len6 cap6)
      have HN7 := ((HN.out.stored (p := ⟨w.heap.size + 1, 0, none⟩) (by simp; omega) (.int .i64 bm.start)).stored (p := ⟨w.heap.size + 1, 1, none⟩) (by simp; omega) (.slice a6 len6 cap6)).lower (b := w.heap.size) (by omega)
      refine bodyPost_ret (v := .tuple #[.agg #[.int .i64 bm.start, .slice a6 len6 cap6], .int .i64 be]) ?_ rfl ⟨_, rfl, HN7, (b7.out.setCell (by simp) _).setCell (by simp) _⟩
      have x0 := R7.cell 0 rfl; have x1 := R7.cell 1 rfl; have xf0 := R7.free 0; have xf1 := R7.free 1; have xz := R7.lt
      simp [results, Try.results36, go_sem, x0, x1]
    · have hst0 : 0 ≤ st := by omega
      go_wp2_with fail
      refine (rational_hop w1.heap.size 0 sv2 _ _ (st + 1) 0 0 rfl ⟨0, []⟩ _ HX2.out HL2.out (by simp) (by simp; have := Hl.out; omega) (by simp)).mono ?_
      rintro e w4 ⟨rfl, X4, L4, b4⟩
      have hb4 := Lib.hid (hbb.out.trans b4)
      have M4 := Lib.hid (M2.out.under b4 (by omega))
      have HX4 := Lib.hid X4
      have HL4 := Lib.hid L4
      clear X4 L4 b4 p0 p1 pf0 pf1 pz
      have p0 := M4.out.cell 0 rfl; have p1 := M4.out.cell 1 rfl; have pf0 := M4.out.free 0; have pf1 := M4.out.free 1; have pz := M4.out.lt
      go_wp2_with fail
      refine (rational_loose w1.heap.size 0 sv2 _ _ 1 len rfl 0 _ HX4.out HL4.out (by simp; have := Hl.out; omega) (by simp; have := Hl.out; omega) ?_).mono ?_
      · intro x hx
        simp only [List.set_cons_zero, List.mem_cons, List.mem_map] at hx
        rcases hx with rfl | ⟨c, hc, rfl⟩
        · simp
        · have := HG.out.2.2.2.1 c hc
          simp only [shiftSt, List.length_map]; omega
      rintro e w3 ⟨rfl, X3, L3, b3⟩
      have hL : looseL (((⟨0, []⟩ : St) :: sts.map (shiftSt 1)).set 0 ⟨0, [] ++ [⟨0, 0, 0, st + 1⟩]⟩) 1 len 0 = ⟨0, hopsL st 1 0⟩ :: (sts.map (shiftSt 1)).map (looseSt 0) := by
        rw [List.set_cons_zero, show len = (sts.map (shiftSt 1)).length by rw [List.length_map, Hl.out], looseL_tail]
        unfold hopsL; rw [if_neg (by omega)]; rfl
      rw [hL] at L3
      have hb5 := Lib.hid (Below.trans hb4.out b3)
      have R5 := Lib.hid (R1.out.to hb5.out)
      have hs5 := hb5.out.size
      have HX5 := Lib.hid X3
      have HL5 := Lib.hid L3
      clear X3 L3 b3 hL p0 p1 pf0 pf1 pz
      go_wp2_with fail
      refine (rational_built_as w1.heap.size 0 sv2 _ bm be _ HX5.out HL5.out (by simp; have := Hl.out; omega) HBM.out HBE.out).mono ?_
      rintro e w6 ⟨mv, rfl, hm, b6⟩
      obtain ⟨a6, len6, cap6, hmv, -, -⟩ := hm.opens
      subst hmv
      have HN := Lib.hid hm
      have R6 := Lib.hid (R5.out.to b6)
      have hs6 := b6.size
      have b7 := Lib.hid (Below.tr (B1.out.trans (hb5.out.mono B1.out.size)) b6)
      clear hm b6
      have r0 := R6.out.cell 0 rfl; have r1 := R6.out.cell 1 rfl; have rf0 := R6.out.free 0; have rf1 := R6.out.free 1; have rz := R6.out.lt
      go_wp2_with fail
      have R7 := (R6.out.set 0 (.int .i64 bm.start)).set 1 (.slice a6 len6 cap6)
      have HN7 := ((HN.out.stored (p := ⟨w.heap.size + 1, 0, none⟩) (by simp; omega) (.int .i64 bm.start)).stored (p := ⟨w.heap.size + 1, 1, none⟩) (by simp; omega) (.slice a6 len6 cap6)).lower (b := w.heap.size) (by omega)
      refine bodyPost_ret (v := .tuple #[.agg #[.int .i64 bm.start, .slice a6 len6 cap6], .int .i64 be]) ?_ rfl ⟨_, rfl, HN7, (b7.out.setCell (by simp) _).setCell (by simp) _⟩
      have x0 := R7.cell 0 rfl; have x1 := R7.cell 1 rfl; have xf0 := R7.free 0; have xf1 := R7.free 1; have xz := R7.lt
      simp [results, Try.results36, go_sem, x0, x1]
  · have hO : starOut ⟨st, sts⟩ = ⟨0, []⟩ := by unfold starOut; rw [hE]; exact if_neg hz
    have hO2 : starE ⟨st, sts⟩ = E := by unfold starE; rw [hE]; exact if_neg hz
    rw [hO, hO2]
    have HE := Lib.hid hE
    have hEb : (E != 0) = true := by simp [hz]
    clear hO hO2 hE hz
    go_enter Try.func36, Try.ntmps36
    go_wp2_with fail
    refine (core_Check_as E _ ⟨st, sts⟩ _ (HM.out.mono (by repeat' (first | (with_reducible exact Below.refl _ _) | (with_reducible assumption) | (with_reducible refine Below.dr ?_ _) | (with_reducible refine Below.d1 ?_) | (with_reducible refine Below.al ?_ _) | (with_reducible refine Below.tr ?_ (by assumption)) | (with_reducible refine Below.drewN ?_ _) | (with_reducible refine Below.drew ?_) | (with_reducible refine Below.alloc ?_ ?_ _) | (with_reducible refine Below.setCell ?_ ?_ _) | (with_reducible refine Below.trans ?_ (Below.mono (by assumption) ?_)) | omega | (simp; done) | (simp; omega) | (simp [*]; done)))) HE.out).mono ?_
    rintro e w1 ⟨rfl, b1⟩
    have R1 := Blk.to (Blk.new' _ _ _ (n := w.heap.size + 1) (by simp)) b1
    have r0 := R1.cell 0 rfl; have r1 := R1.cell 1 rfl; have rf0 := R1.free 0; have rf1 := R1.free 1; have rz := R1.lt
    have hb1 : Below w.heap.size w w1 := (by repeat' (first | (with_reducible exact Below.refl _ _) | (with_reducible assumption) | (with_reducible refine Below.dr ?_ _) | (with_reducible refine Below.d1 ?_) | (with_reducible refine Below.al ?_ _) | (with_reducible refine Below.tr ?_ (by assumption)) | (with_reducible refine Below.drewN ?_ _) | (with_reducible refine Below.drew ?_) | (with_reducible refine Below.alloc ?_ ?_ _) | (with_reducible refine Below.setCell ?_ ?_ _) | (with_reducible refine Below.trans ?_ (Below.mono (by assumption) ?_)) | omega | (simp; done) | (simp; omega) | (simp [*]; done)))
    go_wp2_with fail
    have R3 := (R1.set 0 (.int .i64 0)).set 1 (.slice none 0 0)
    refine bodyPost_ret (v := .tuple #[.agg #[.int .i64 0, .slice none 0 0], .int .i64 E]) ?_ rfl ⟨_, rfl, MachNew.nil _ _ _, ?_⟩
    · have x0 := R3.cell 0 rfl; have x1 := R3.cell 1 rfl; have xf0 := R3.free 0; have xf1 := R3.free 1; have xz := R3.lt
      simp [results, Try.results36, go_sem, x0, x1]
    · exact (hb1.setCell (by simp) _).setCell (by simp) _
end Go.Proofs.Ytnnmdcagbcdfpaa
