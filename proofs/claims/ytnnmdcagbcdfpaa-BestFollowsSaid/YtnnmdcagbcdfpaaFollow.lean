/- best.Follow: what a path reads, writes and costs. -/
import Derived.Test.YtnnmdcagbcdfpaaFol
namespace Go.Proofs.Ytnnmdcagbcdfpaa
open Go.RowKit
set_option linter.unusedSimpArgs false
set_option linter.unusedVariables false

set_option maxRecDepth 100000 in
set_option maxHeartbeats 4000000 in
theorem best_Follow (v : Value) (m : Mach) (u : Value) (l : List Int) (w : World) (h : MachAt w v m) (g : IntsAt w u l) : Calls Try.prog 26 #[v, u] w fun e w' => ∃ xv yv, e = .returned (.tuple #[xv, yv, .int .i64 (folEnd m l).2.2.1, .int .i64 (folEnd m l).2.2.2]) ∧ IntsAt w' xv (folEnd m l).1 ∧ IntsAt w' yv (folEnd m l).2.1 ∧ Below w.heap.size w w' := by
  have HM := Lib.hid h
  obtain ⟨a, len, cap, rfl, hl, H, Hl⟩ := MachAt.opens h
  obtain ⟨au, n, capu, rfl, hn, G, Gl⟩ := IntsAt.opens g
  clear h g
  obtain ⟨E, hE⟩ : ∃ E, machE m = E := ⟨_, rfl⟩
  obtain ⟨st, sts⟩ := m
  simp only at H Hl HM hE ⊢
  by_cases hz : E = 0
  · subst hz
    have hg := machE_zero hE
    simp only at hg
    have HE := Lib.hid hE
    clear hE
    have h60 : len ≤ 60 := by have := hg.1; rw [Hl.out] at this; exact this
    have hst1 : -1 ≤ st := hg.2.2.1.1
    have hst2 : st < len := by have := hg.2.2.1.2; rw [Hl.out] at this; exact this
    have HG0 := Lib.hid hg
    clear hg
    by_cases h4 : 400 < n
    · have hR := folEnd_long HE.out (show 400 < l.length by rw [Gl.out]; exact h4)
      rw [hR]
      clear hR
      go_enter Try.func26, Try.ntmps26
      go_wp2_with fail
      refine (core_Check_as 0 _ ⟨st, sts⟩ _ (HM.out.mono (by repeat' (first | (with_reducible exact Below.refl _ _) | (with_reducible assumption) | (with_reducible refine Below.dr ?_ _) | (with_reducible refine Below.d1 ?_) | (with_reducible refine Below.al ?_ _) | (with_reducible refine Below.tr ?_ (by assumption)) | (with_reducible refine Below.drewN ?_ _) | (with_reducible refine Below.drew ?_) | (with_reducible refine Below.alloc ?_ ?_ _) | (with_reducible refine Below.setCell ?_ ?_ _) | (with_reducible refine Below.trans ?_ (Below.mono (by assumption) ?_)) | omega | (simp; done) | (simp; omega) | (simp [*]; done)))) HE.out).mono ?_
      rintro e w1 ⟨rfl, b1⟩
      go_wp2_with fail
      refine bodyPost_ret (v := .tuple #[.slice none 0 0, .slice none 0 0, .int .i64 0, .int .i64 1]) (by simp [results, Try.results26, go_sem]) rfl ⟨_, _, rfl, SlAt.nil _ _ _ _, SlAt.nil _ _ _ _, (by repeat' (first | (with_reducible exact Below.refl _ _) | (with_reducible assumption) | (with_reducible refine Below.dr ?_ _) | (with_reducible refine Below.d1 ?_) | (with_reducible refine Below.al ?_ _) | (with_reducible refine Below.tr ?_ (by assumption)) | (with_reducible refine Below.drewN ?_ _) | (with_reducible refine Below.drew ?_) | (with_reducible refine Below.alloc ?_ ?_ _) | (with_reducible refine Below.setCell ?_ ?_ _) | (with_reducible refine Below.trans ?_ (Below.mono (by assumption) ?_)) | omega | (simp; done) | (simp; omega) | (simp [*]; done)))⟩
    · have H4 : Hid (¬ 400 < l.length) := by rw [Hid, Gl.out]; exact h4
      go_enter Try.func26, Try.ntmps26
      go_wp2_with fail
      refine (core_Check_as 0 _ ⟨st, sts⟩ _ (HM.out.mono (by repeat' (first | (with_reducible exact Below.refl _ _) | (with_reducible assumption) | (with_reducible refine Below.dr ?_ _) | (with_reducible refine Below.d1 ?_) | (with_reducible refine Below.al ?_ _) | (with_reducible refine Below.tr ?_ (by assumption)) | (with_reducible refine Below.drewN ?_ _) | (with_reducible refine Below.drew ?_) | (with_reducible refine Below.alloc ?_ ?_ _) | (with_reducible refine Below.setCell ?_ ?_ _) | (with_reducible refine Below.trans ?_ (Below.mono (by assumption) ?_)) | omega | (simp; done) | (simp; omega) | (simp [*]; done)))) HE.out).mono ?_
      rintro e w1 ⟨rfl, b1⟩
      have hb1 : Below w.heap.size w w1 := (by repeat' (first | (with_reducible exact Below.refl _ _) | (with_reducible assumption) | (with_reducible refine Below.dr ?_ _) | (with_reducible refine Below.d1 ?_) | (with_reducible refine Below.al ?_ _) | (with_reducible refine Below.tr ?_ (by assumption)) | (with_reducible refine Below.drewN ?_ _) | (with_reducible refine Below.drew ?_) | (with_reducible refine Below.alloc ?_ ?_ _) | (with_reducible refine Below.setCell ?_ ?_ _) | (with_reducible refine Below.trans ?_ (Below.mono (by assumption) ?_)) | omega | (simp; done) | (simp; omega) | (simp [*]; done)))
      have M1 := Lib.hid (Blk.to (Blk.new w _ _) b1)
      have B1 := Lib.hid hb1
      have p0 := M1.out.cell 0 rfl; have p1 := M1.out.cell 1 rfl; have pf0 := M1.out.free 0; have pf1 := M1.out.free 1; have pz := M1.out.lt
      clear b1 hb1
      go_wp2_with fail
      go_loopw [4, 5, 6, 9, 25] (fun x y c q i wr => ∃ (k : Nat) (s : Fol) (xv yv : Value), xv = x ∧ yv = y ∧ k ≤ n ∧ i = .int .i64 k ∧ fol ⟨st, sts⟩ (l.take k) = some s ∧ c = .int .i64 s.c ∧ q = .int .i64 s.q ∧
      wr.ownsRow w1.heap.size 3 1 xv s.x.length (s.x.flatMap intCells) ∧ wr.ownsRow w1.heap.size 3 1 yv s.y.length (s.y.flatMap intCells) ∧ (∀ g, xv.ownBlock = some g → some g ≠ yv.ownBlock) ∧
      s.x.length ≤ k ∧ s.y.length ≤ k ∧ 0 ≤ s.c ∧ s.c ≤ k * 1000000000 ∧ -1 ≤ s.q ∧ s.q < len ∧ Below w1.heap.size w1 wr) (fun _ _ _ _ i _ => n - (intOf i).toNat)
      case atStart => exact ⟨0, ⟨[], [], 0, st⟩, _, _, rfl, rfl, Nat.zero_le _, rfl, rfl, rfl, rfl, World.ownsRow_nil _ _ _ _, World.ownsRow_nil _ _ _ _, by simp [Value.ownBlock], by simp, by simp, by simp, by simp, hst1, hst2, Below.refl _ _⟩
      case round =>
        obtain ⟨wz, rfl⟩ : ∃ wz : World, wz = wr := ⟨_, rfl⟩
        obtain ⟨k, ⟨sx, sy, sc, sq⟩, xv, yv, rfl, rfl, hk, rfl, hf, rfl, rfl, hxv, hyv, hap, hxl, hyl, hc0, hc1, hq1, hq2, hbel⟩ := hrel
        simp only at hxv hyv hxl hyl hc0 hc1 hq1 hq2
        have HF := Lib.hid hf
        have HXV := Lib.hid hxv
        have HYV := Lib.hid hyv
        have HAP := Lib.hid hap
        have hsz := hbel.size
        have hW : Below w.heap.size w wz := B1.out.trans (hbel.mono B1.out.size)
        have q0 := Below.cellTo hbel p0
        have q1 := Below.cellTo hbel p1
        have hq0 := blt q0
        have HB := Lib.hid hbel
        clear hf hxv hyv hap hbel
        by_cases hlt : k < n
        · obtain ⟨bl, ol, i, rfl, hi, hcell⟩ := IntsAt.at (IntsAt.mono G.out hW) hlt
          have Hi := Lib.hid hi
          have hbl := blt hcell
          clear hi
          by_cases hneg : sq < 0
          · have hR := folEnd_none HE.out H4.out (fol_stop HF.out Hi.out (folStep_neg (Or.inl hneg)))
            have HR := Lib.hid hR
            clear hR
            go_wp2_with fail
            refine bodyPost_ret (v := .tuple #[.slice none 0 0, .slice none 0 0, .int .i64 0, .int .i64 12]) (by simp [results, Try.results26, go_sem]) rfl (by rw [HR.out]; exact ⟨_, _, rfl, SlAt.nil _ _ _ _, SlAt.nil _ _ _ _, (by repeat' (first | (with_reducible exact Below.refl _ _) | (with_reducible assumption) | (with_reducible refine Below.dr ?_ _) | (with_reducible refine Below.d1 ?_) | (with_reducible refine Below.al ?_ _) | (with_reducible refine Below.tr ?_ (by assumption)) | (with_reducible refine Below.drewN ?_ _) | (with_reducible refine Below.drew ?_) | (with_reducible refine Below.alloc ?_ ?_ _) | (with_reducible refine Below.setCell ?_ ?_ _) | (with_reducible refine Below.trans ?_ (Below.mono (by assumption) ?_)) | omega | (simp; done) | (simp; omega) | (simp [*]; done)))⟩)
          · obtain ⟨q, rfl⟩ := Int.eq_ofNat_of_zero_le (by omega : 0 ≤ sq)
            have hqn : q < len := by omega
            obtain ⟨b, oo, x, xav, rfl, hx, d0, d1, dA⟩ := StatesAt.at (StatesAt.mono H.out hW) hqn
            obtain ⟨a', len', cap', rfl, hl', HA, Hl'⟩ := ArcsAt.opens dA
            have Hx := Lib.hid hx
            have hb0 := blt d0
            have hgood := HG0.out.2.2.2 x (List.mem_of_getElem? hx)
            have HGood := Lib.hid hgood.2
            clear hx dA hgood
            by_cases hin : i < 0
            · have hR := folEnd_none HE.out H4.out (fol_stop HF.out Hi.out (folStep_neg (Or.inr hin)))
              have HR := Lib.hid hR
              clear hR
              go_wp2_with fail
              refine bodyPost_ret (v := .tuple #[.slice none 0 0, .slice none 0 0, .int .i64 0, .int .i64 12]) (by simp [results, Try.results26, go_sem]) rfl (by rw [HR.out]; exact ⟨_, _, rfl, SlAt.nil _ _ _ _, SlAt.nil _ _ _ _, (by repeat' (first | (with_reducible exact Below.refl _ _) | (with_reducible assumption) | (with_reducible refine Below.dr ?_ _) | (with_reducible refine Below.d1 ?_) | (with_reducible refine Below.al ?_ _) | (with_reducible refine Below.tr ?_ (by assumption)) | (with_reducible refine Below.drewN ?_ _) | (with_reducible refine Below.drew ?_) | (with_reducible refine Below.alloc ?_ ?_ _) | (with_reducible refine Below.setCell ?_ ?_ _) | (with_reducible refine Below.trans ?_ (Below.mono (by assumption) ?_)) | omega | (simp; done) | (simp; omega) | (simp [*]; done)))⟩)
            · by_cases hil : (len' : Int) ≤ i
              · have hR := folEnd_none HE.out H4.out (fol_stop HF.out Hi.out (folStep_far rfl Hx.out (by rw [Hl'.out]; exact hil)))
                have HR := Lib.hid hR
                clear hR
                go_wp2_with fail
                refine bodyPost_ret (v := .tuple #[.slice none 0 0, .slice none 0 0, .int .i64 0, .int .i64 12]) (by simp [results, Try.results26, go_sem]) rfl (by rw [HR.out]; exact ⟨_, _, rfl, SlAt.nil _ _ _ _, SlAt.nil _ _ _ _, (by repeat' (first | (with_reducible exact Below.refl _ _) | (with_reducible assumption) | (with_reducible refine Below.dr ?_ _) | (with_reducible refine Below.d1 ?_) | (with_reducible refine Below.al ?_ _) | (with_reducible refine Below.tr ?_ (by assumption)) | (with_reducible refine Below.drewN ?_ _) | (with_reducible refine Below.drew ?_) | (with_reducible refine Below.alloc ?_ ?_ _) | (with_reducible refine Below.setCell ?_ ?_ _) | (with_reducible refine Below.trans ?_ (Below.mono (by assumption) ?_)) | omega | (simp; done) | (simp; omega) | (simp [*]; done)))⟩)
              · obtain ⟨j, rfl⟩ := Int.eq_ofNat_of_zero_le (by omega : 0 ≤ i)
                have hj : j < len' := by omega
                obtain ⟨b', o', y, rfl, hy, e0, e1, e2, e3⟩ := ArcsAt.at HA.out hj
                have hb2 := blt e0
                have hok := HGood.out y (List.mem_of_getElem? hy)
                have HG := Lib.hid (folStep_go (m := ⟨st, sts⟩) (s := ⟨sx, sy, sc, (q : Int)⟩) rfl Hx.out hy)
                have hokk : (0 ≤ y.i ∧ y.i ≤ 1000) ∧ (0 ≤ y.o ∧ y.o ≤ 1000) ∧ (0 ≤ y.w ∧ y.w ≤ 1000000000) ∧ 0 ≤ y.t ∧ y.t < len := by
                  simpa only [arOk, decide_eq_true_eq, Hl.out] using hok
                obtain ⟨yi, yo, yw, yt⟩ := y
                simp only at e0 e1 e2 e3 hokk HG
                obtain ⟨⟨o1, o2⟩, ⟨o3, o4⟩, ⟨o5, o6⟩, o7, o8⟩ := hokk
                clear hy hok
                skip
                by_cases hyi : yi = 0
                · by_cases hyo : yo = 0
                  · have HFN := Lib.hid (show fol ⟨st, sts⟩ (l.take (k + 1)) = some ⟨sx, sy, sc + yw, yt⟩ by have h1 := fol_next HF.out Hi.out HG.out; simpa [hyi, hyo] using h1)
                    have hbi : (yi != 0) = false := by simp [hyi]
                    have hbo : (yo != 0) = false := by simp [hyo]
                    clear hyi hyo
                    have hX0 := Blk.new wz #[.int .i64 yi, .int .i64 yo, .int .i64 yw, .int .i64 yt] 59
                    have HX := Lib.hid hX0
                    clear hX0
                    go_wp2_with fail
                    go_roundw
                    case rel =>
                      exact ⟨k + 1, ⟨sx, sy, sc + yw, yt⟩, _, _, rfl, rfl, by omega, by go_num, HFN.out, rfl, rfl, World.ownsRow.below HXV.out (by repeat' (first | (with_reducible exact Below.refl _ _) | (with_reducible assumption) | (with_reducible refine Below.dr ?_ _) | (with_reducible refine Below.d1 ?_) | (with_reducible refine Below.al ?_ _) | (with_reducible refine Below.tr ?_ (by assumption)) | (with_reducible refine Below.drewN ?_ _) | (with_reducible refine Below.drew ?_) | (with_reducible refine Below.alloc ?_ ?_ _) | (with_reducible refine Below.setCell ?_ ?_ _) | (with_reducible refine Below.trans ?_ (Below.mono (by assumption) ?_)) | omega | (simp; done) | (simp; omega) | (simp [*]; done))), World.ownsRow.below HYV.out (by repeat' (first | (with_reducible exact Below.refl _ _) | (with_reducible assumption) | (with_reducible refine Below.dr ?_ _) | (with_reducible refine Below.d1 ?_) | (with_reducible refine Below.al ?_ _) | (with_reducible refine Below.tr ?_ (by assumption)) | (with_reducible refine Below.drewN ?_ _) | (with_reducible refine Below.drew ?_) | (with_reducible refine Below.alloc ?_ ?_ _) | (with_reducible refine Below.setCell ?_ ?_ _) | (with_reducible refine Below.trans ?_ (Below.mono (by assumption) ?_)) | omega | (simp; done) | (simp; omega) | (simp [*]; done))), HAP.out, by simp; omega, by simp; omega, by simp only; omega, by simp only; omega, by simp only; omega, by simp only; omega, HB.out.alloc hsz _⟩
                    case measure => simp [intOf]; omega
                  · have HFN := Lib.hid (show fol ⟨st, sts⟩ (l.take (k + 1)) = some ⟨sx, sy ++ [yo], sc + yw, yt⟩ by have h1 := fol_next HF.out Hi.out HG.out; simpa [hyi, hyo] using h1)
                    have hbi : (yi != 0) = false := by simp [hyi]
                    have hbo : (yo != 0) = true := by simp [hyo]
                    clear hyi hyo
                    have hX0 := Blk.new wz #[.int .i64 yi, .int .i64 yo, .int .i64 yw, .int .i64 yt] 59
                    have HX := Lib.hid hX0
                    clear hX0
                    go_wp2_with (at_builtin; refine Mark.intro ?_)
                    refine Mark.out ?_
                    refine wpList_append_n rfl _ _ 36 rfl w1.heap.size 3 1 8 (.int .i64 0) Try.underlying36 (by kernel_rfl) rfl (by omega) (by omega) intCells intCells_len yv sy sy.length rfl rfl (World.ownsRow.below HYV.out (by repeat' (first | (with_reducible exact Below.refl _ _) | (with_reducible assumption) | (with_reducible refine Below.dr ?_ _) | (with_reducible refine Below.d1 ?_) | (with_reducible refine Below.al ?_ _) | (with_reducible refine Below.tr ?_ (by assumption)) | (with_reducible refine Below.drewN ?_ _) | (with_reducible refine Below.drew ?_) | (with_reducible refine Below.alloc ?_ ?_ _) | (with_reducible refine Below.setCell ?_ ?_ _) | (with_reducible refine Below.trans ?_ (Below.mono (by assumption) ?_)) | omega | (simp; done) | (simp; omega) | (simp [*]; done)))) yo (intCells_one _) ⟨wz.heap.size + 1, 0, none⟩ 1 rfl (new_row_cells' _ (intCells yo) _ _ (by simp)) (by omega) (by have := hsz; simp; omega) ?_
                    intro yv2 w3 own3 hv3 gr3
                    have bW2 : Below wz.heap.size wz ((wz.alloc (.cells #[.int .i64 yi, .int .i64 yo, .int .i64 yw, .int .i64 yt] 59)).alloc (.cells #[.int .i64 yo] 3)) := (by repeat' (first | (with_reducible exact Below.refl _ _) | (with_reducible assumption) | (with_reducible refine Below.dr ?_ _) | (with_reducible refine Below.d1 ?_) | (with_reducible refine Below.al ?_ _) | (with_reducible refine Below.tr ?_ (by assumption)) | (with_reducible refine Below.drewN ?_ _) | (with_reducible refine Below.drew ?_) | (with_reducible refine Below.alloc ?_ ?_ _) | (with_reducible refine Below.setCell ?_ ?_ _) | (with_reducible refine Below.trans ?_ (Below.mono (by assumption) ?_)) | omega | (simp; done) | (simp; omega) | (simp [*]; done)))
                    have hp3 := ints_push (Nat.le_refl w1.heap.size) (by omega) HB.out HYV.out HXV.out (fun k h e => HAP.out k e.symm h.symm) bW2 hv3 gr3
                    have hX3 := (HX.out.al _).grown gr3 (fun e => by have := (HYV.out.lt _ e.symm).2; omega)
                    obtain ⟨g3, cap3, rfl, -, -⟩ := hv3
                    obtain ⟨py3, pap3, pb3⟩ := hp3
                    have QXV := Lib.hid py3
                    have QYV := Lib.hid own3
                    have QAP := Lib.hid pap3
                    have QB := Lib.hid pb3
                    have hs3 := pb3.size
                    clear own3 gr3 py3 pap3 pb3 bW2
                    have q0 := hX3.cell 0 rfl; have q1 := hX3.cell 1 rfl; have q2 := hX3.cell 2 rfl; have q3 := hX3.cell 3 rfl; have qf0 := hX3.free 0; have qf1 := hX3.free 1; have qf2 := hX3.free 2; have qf3 := hX3.free 3; have qz := hX3.lt
                    clear hX3
                    go_wp2_with fail
                    go_roundw
                    case rel =>
                      exact ⟨k + 1, ⟨sx, (sy ++ [yo]), sc + yw, yt⟩, _, _, rfl, rfl, by omega, by go_num, HFN.out, rfl, rfl, QXV.out, (by simpa using QYV.out), (fun k h e => QAP.out k e.symm h.symm), by simp; omega, by simp; omega, by simp only; omega, by simp only; omega, by simp only; omega, by simp only; omega, QB.out⟩
                    case measure => simp [intOf]; omega
                · by_cases hyo : yo = 0
                  · have HFN := Lib.hid (show fol ⟨st, sts⟩ (l.take (k + 1)) = some ⟨sx ++ [yi], sy, sc + yw, yt⟩ by have h1 := fol_next HF.out Hi.out HG.out; simpa [hyi, hyo] using h1)
                    have hbi : (yi != 0) = true := by simp [hyi]
                    have hbo : (yo != 0) = false := by simp [hyo]
                    clear hyi hyo
                    have hX0 := Blk.new wz #[.int .i64 yi, .int .i64 yo, .int .i64 yw, .int .i64 yt] 59
                    have HX := Lib.hid hX0
                    clear hX0
                    go_wp2_with (at_builtin; refine Mark.intro ?_)
                    refine Mark.out ?_
                    refine wpList_append_n rfl _ _ 36 rfl w1.heap.size 3 1 8 (.int .i64 0) Try.underlying36 (by kernel_rfl) rfl (by omega) (by omega) intCells intCells_len xv sx sx.length rfl rfl (World.ownsRow.below HXV.out (by repeat' (first | (with_reducible exact Below.refl _ _) | (with_reducible assumption) | (with_reducible refine Below.dr ?_ _) | (with_reducible refine Below.d1 ?_) | (with_reducible refine Below.al ?_ _) | (with_reducible refine Below.tr ?_ (by assumption)) | (with_reducible refine Below.drewN ?_ _) | (with_reducible refine Below.drew ?_) | (with_reducible refine Below.alloc ?_ ?_ _) | (with_reducible refine Below.setCell ?_ ?_ _) | (with_reducible refine Below.trans ?_ (Below.mono (by assumption) ?_)) | omega | (simp; done) | (simp; omega) | (simp [*]; done)))) yi (intCells_one _) ⟨wz.heap.size + 1, 0, none⟩ 1 rfl (new_row_cells' _ (intCells yi) _ _ (by simp)) (by omega) (by have := hsz; simp; omega) ?_
                    intro xv2 w2 own2 hv2 gr2
                    have bW1 : Below wz.heap.size wz ((wz.alloc (.cells #[.int .i64 yi, .int .i64 yo, .int .i64 yw, .int .i64 yt] 59)).alloc (.cells #[.int .i64 yi] 3)) := (by repeat' (first | (with_reducible exact Below.refl _ _) | (with_reducible assumption) | (with_reducible refine Below.dr ?_ _) | (with_reducible refine Below.d1 ?_) | (with_reducible refine Below.al ?_ _) | (with_reducible refine Below.tr ?_ (by assumption)) | (with_reducible refine Below.drewN ?_ _) | (with_reducible refine Below.drew ?_) | (with_reducible refine Below.alloc ?_ ?_ _) | (with_reducible refine Below.setCell ?_ ?_ _) | (with_reducible refine Below.trans ?_ (Below.mono (by assumption) ?_)) | omega | (simp; done) | (simp; omega) | (simp [*]; done)))
                    have hp := ints_push (Nat.le_refl w1.heap.size) hsz HB.out HXV.out HYV.out HAP.out bW1 hv2 gr2
                    have hX2 := (HX.out.al _).grown gr2 (fun e => by have := (HXV.out.lt _ e.symm).2; omega)
                    obtain ⟨g2, cap2, rfl, -, -⟩ := hv2
                    obtain ⟨py, pap, pb⟩ := hp
                    have PXV := Lib.hid own2
                    have PYV := Lib.hid py
                    have PAP := Lib.hid pap
                    have PB := Lib.hid pb
                    have PX := Lib.hid hX2
                    have hs2 := pb.size
                    clear own2 gr2 py pap pb hX2 bW1
                    have z0 := PX.out.cell 0 rfl; have z1 := PX.out.cell 1 rfl; have z2 := PX.out.cell 2 rfl; have z3 := PX.out.cell 3 rfl; have zf0 := PX.out.free 0; have zf1 := PX.out.free 1; have zf2 := PX.out.free 2; have zf3 := PX.out.free 3; have zz := PX.out.lt
                    go_wp2_with fail
                    go_roundw
                    case rel =>
                      exact ⟨k + 1, ⟨(sx ++ [yi]), sy, sc + yw, yt⟩, _, _, rfl, rfl, by omega, by go_num, HFN.out, rfl, rfl, (by simpa using PXV.out), PYV.out, PAP.out, by simp; omega, by simp; omega, by simp only; omega, by simp only; omega, by simp only; omega, by simp only; omega, PB.out⟩
                    case measure => simp [intOf]; omega
                  · have HFN := Lib.hid (show fol ⟨st, sts⟩ (l.take (k + 1)) = some ⟨sx ++ [yi], sy ++ [yo], sc + yw, yt⟩ by have h1 := fol_next HF.out Hi.out HG.out; simpa [hyi, hyo] using h1)
                    have hbi : (yi != 0) = true := by simp [hyi]
                    have hbo : (yo != 0) = true := by simp [hyo]
                    clear hyi hyo
                    have hX0 := Blk.new wz #[.int .i64 yi, .int .i64 yo, .int .i64 yw, .int .i64 yt] 59
                    have HX := Lib.hid hX0
                    clear hX0
                    go_wp2_with (at_builtin; refine Mark.intro ?_)
                    refine Mark.out ?_
                    refine wpList_append_n rfl _ _ 36 rfl w1.heap.size 3 1 8 (.int .i64 0) Try.underlying36 (by kernel_rfl) rfl (by omega) (by omega) intCells intCells_len xv sx sx.length rfl rfl (World.ownsRow.below HXV.out (by repeat' (first | (with_reducible exact Below.refl _ _) | (with_reducible assumption) | (with_reducible refine Below.dr ?_ _) | (with_reducible refine Below.d1 ?_) | (with_reducible refine Below.al ?_ _) | (with_reducible refine Below.tr ?_ (by assumption)) | (with_reducible refine Below.drewN ?_ _) | (with_reducible refine Below.drew ?_) | (with_reducible refine Below.alloc ?_ ?_ _) | (with_reducible refine Below.setCell ?_ ?_ _) | (with_reducible refine Below.trans ?_ (Below.mono (by assumption) ?_)) | omega | (simp; done) | (simp; omega) | (simp [*]; done)))) yi (intCells_one _) ⟨wz.heap.size + 1, 0, none⟩ 1 rfl (new_row_cells' _ (intCells yi) _ _ (by simp)) (by omega) (by have := hsz; simp; omega) ?_
                    intro xv2 w2 own2 hv2 gr2
                    have bW1 : Below wz.heap.size wz ((wz.alloc (.cells #[.int .i64 yi, .int .i64 yo, .int .i64 yw, .int .i64 yt] 59)).alloc (.cells #[.int .i64 yi] 3)) := (by repeat' (first | (with_reducible exact Below.refl _ _) | (with_reducible assumption) | (with_reducible refine Below.dr ?_ _) | (with_reducible refine Below.d1 ?_) | (with_reducible refine Below.al ?_ _) | (with_reducible refine Below.tr ?_ (by assumption)) | (with_reducible refine Below.drewN ?_ _) | (with_reducible refine Below.drew ?_) | (with_reducible refine Below.alloc ?_ ?_ _) | (with_reducible refine Below.setCell ?_ ?_ _) | (with_reducible refine Below.trans ?_ (Below.mono (by assumption) ?_)) | omega | (simp; done) | (simp; omega) | (simp [*]; done)))
                    have hp := ints_push (Nat.le_refl w1.heap.size) hsz HB.out HXV.out HYV.out HAP.out bW1 hv2 gr2
                    have hX2 := (HX.out.al _).grown gr2 (fun e => by have := (HXV.out.lt _ e.symm).2; omega)
                    obtain ⟨g2, cap2, rfl, -, -⟩ := hv2
                    obtain ⟨py, pap, pb⟩ := hp
                    have PXV := Lib.hid own2
                    have PYV := Lib.hid py
                    have PAP := Lib.hid pap
                    have PB := Lib.hid pb
                    have PX := Lib.hid hX2
                    have hs2 := pb.size
                    clear own2 gr2 py pap pb hX2 bW1
                    have z0 := PX.out.cell 0 rfl; have z1 := PX.out.cell 1 rfl; have z2 := PX.out.cell 2 rfl; have z3 := PX.out.cell 3 rfl; have zf0 := PX.out.free 0; have zf1 := PX.out.free 1; have zf2 := PX.out.free 2; have zf3 := PX.out.free 3; have zz := PX.out.lt
                    go_wp2_with (at_builtin; refine Mark.intro ?_)
                    refine Mark.out ?_
                    refine wpList_append_n rfl _ _ 36 rfl w1.heap.size 3 1 8 (.int .i64 0) Try.underlying36 (by kernel_rfl) rfl (by omega) (by omega) intCells intCells_len yv sy sy.length rfl rfl (World.ownsRow.below PYV.out (by repeat' (first | (with_reducible exact Below.refl _ _) | (with_reducible assumption) | (with_reducible refine Below.dr ?_ _) | (with_reducible refine Below.d1 ?_) | (with_reducible refine Below.al ?_ _) | (with_reducible refine Below.tr ?_ (by assumption)) | (with_reducible refine Below.drewN ?_ _) | (with_reducible refine Below.drew ?_) | (with_reducible refine Below.alloc ?_ ?_ _) | (with_reducible refine Below.setCell ?_ ?_ _) | (with_reducible refine Below.trans ?_ (Below.mono (by assumption) ?_)) | omega | (simp; done) | (simp; omega) | (simp [*]; done)))) yo (intCells_one _) ⟨w2.heap.size, 0, none⟩ 1 rfl (new_row_cells' _ (intCells yo) _ _ (by simp)) (by omega) (by have := hsz; simp; omega) ?_
                    intro yv2 w3 own3 hv3 gr3
                    have bW2 : Below w2.heap.size w2 ((w2).alloc (.cells #[.int .i64 yo] 3)) := (by repeat' (first | (with_reducible exact Below.refl _ _) | (with_reducible assumption) | (with_reducible refine Below.dr ?_ _) | (with_reducible refine Below.d1 ?_) | (with_reducible refine Below.al ?_ _) | (with_reducible refine Below.tr ?_ (by assumption)) | (with_reducible refine Below.drewN ?_ _) | (with_reducible refine Below.drew ?_) | (with_reducible refine Below.alloc ?_ ?_ _) | (with_reducible refine Below.setCell ?_ ?_ _) | (with_reducible refine Below.trans ?_ (Below.mono (by assumption) ?_)) | omega | (simp; done) | (simp; omega) | (simp [*]; done)))
                    have hp3 := ints_push (Nat.le_refl w1.heap.size) (by omega) PB.out PYV.out PXV.out (fun k h e => PAP.out k e.symm h.symm) bW2 hv3 gr3
                    have hX3 := (PX.out.al _).grown gr3 (fun e => by have := (PYV.out.lt _ e.symm).2; have := (HYV.out.lt _ e.symm).2; omega)
                    obtain ⟨g3, cap3, rfl, -, -⟩ := hv3
                    obtain ⟨py3, pap3, pb3⟩ := hp3
                    have QXV := Lib.hid py3
                    have QYV := Lib.hid own3
                    have QAP := Lib.hid pap3
                    have QB := Lib.hid pb3
                    have hs3 := pb3.size
                    clear own3 gr3 py3 pap3 pb3 bW2
                    have q0 := hX3.cell 0 rfl; have q1 := hX3.cell 1 rfl; have q2 := hX3.cell 2 rfl; have q3 := hX3.cell 3 rfl; have qf0 := hX3.free 0; have qf1 := hX3.free 1; have qf2 := hX3.free 2; have qf3 := hX3.free 3; have qz := hX3.lt
                    clear hX3
                    go_wp2_with fail
                    go_roundw
                    case rel =>
                      exact ⟨k + 1, ⟨(sx ++ [yi]), (sy ++ [yo]), sc + yw, yt⟩, _, _, rfl, rfl, by omega, by go_num, HFN.out, rfl, rfl, (by simpa using QXV.out), (by simpa using QYV.out), (fun k h e => QAP.out k e.symm h.symm), by simp; omega, by simp; omega, by simp only; omega, by simp only; omega, by simp only; omega, by simp only; omega, QB.out⟩
                    case measure => simp [intOf]; omega
        · have hfull : l.take k = l := List.take_of_length_le (by rw [Gl.out]; omega)
          rw [hfull] at HF
          clear hfull
          by_cases hneg : sq < 0
          · have hR := folEnd_out HE.out H4.out HF.out hneg
            have HR := Lib.hid hR
            clear hR
            go_wp2_with fail
            refine bodyPost_ret (v := .tuple #[.slice none 0 0, .slice none 0 0, .int .i64 0, .int .i64 12]) (by simp [results, Try.results26, go_sem]) rfl (by rw [HR.out]; exact ⟨_, _, rfl, SlAt.nil _ _ _ _, SlAt.nil _ _ _ _, (by repeat' (first | (with_reducible exact Below.refl _ _) | (with_reducible assumption) | (with_reducible refine Below.dr ?_ _) | (with_reducible refine Below.d1 ?_) | (with_reducible refine Below.al ?_ _) | (with_reducible refine Below.tr ?_ (by assumption)) | (with_reducible refine Below.drewN ?_ _) | (with_reducible refine Below.drew ?_) | (with_reducible refine Below.alloc ?_ ?_ _) | (with_reducible refine Below.setCell ?_ ?_ _) | (with_reducible refine Below.trans ?_ (Below.mono (by assumption) ?_)) | omega | (simp; done) | (simp; omega) | (simp [*]; done)))⟩)
          · obtain ⟨q, rfl⟩ := Int.eq_ofNat_of_zero_le (by omega : 0 ≤ sq)
            have hqn : q < len := by omega
            obtain ⟨b, oo, x, xav, rfl, hx, d0, d1, dA⟩ := StatesAt.at (StatesAt.mono H.out hW) hqn
            have hfi := (HG0.out.2.2.2 x (List.mem_of_getElem? hx)).1
            simp only [finOk, decide_eq_true_eq] at hfi
            have hR := folEnd_fin HE.out H4.out HF.out (by simp) hx
            obtain ⟨fin, xarcs⟩ := x
            simp only at d0 hfi hR
            clear hx dA d1
            by_cases hff : fin = 1000000001
            · have HR := Lib.hid (hR.trans (if_pos hff))
              subst hff
              clear hR
              go_wp2_with fail
              refine bodyPost_ret (v := .tuple #[.slice none 0 0, .slice none 0 0, .int .i64 0, .int .i64 12]) (by simp [results, Try.results26, go_sem]) rfl (by rw [HR.out]; exact ⟨_, _, rfl, SlAt.nil _ _ _ _, SlAt.nil _ _ _ _, (by repeat' (first | (with_reducible exact Below.refl _ _) | (with_reducible assumption) | (with_reducible refine Below.dr ?_ _) | (with_reducible refine Below.d1 ?_) | (with_reducible refine Below.al ?_ _) | (with_reducible refine Below.tr ?_ (by assumption)) | (with_reducible refine Below.drewN ?_ _) | (with_reducible refine Below.drew ?_) | (with_reducible refine Below.alloc ?_ ?_ _) | (with_reducible refine Below.setCell ?_ ?_ _) | (with_reducible refine Below.trans ?_ (Below.mono (by assumption) ?_)) | omega | (simp; done) | (simp; omega) | (simp [*]; done)))⟩)
            · have hfb : (fin == 1000000001) = false := by simp [hff]
              have hR2 := hR.trans (if_neg hff)
              clear hff hR
              by_cases hov : 1000000000 < sc + fin
              · have HR := Lib.hid (hR2.trans (if_pos hov))
                clear hR2
                go_wp2_with fail
                refine bodyPost_ret (v := .tuple #[.slice none 0 0, .slice none 0 0, .int .i64 0, .int .i64 4]) (by simp [results, Try.results26, go_sem]) rfl (by rw [HR.out]; exact ⟨_, _, rfl, SlAt.nil _ _ _ _, SlAt.nil _ _ _ _, (by repeat' (first | (with_reducible exact Below.refl _ _) | (with_reducible assumption) | (with_reducible refine Below.dr ?_ _) | (with_reducible refine Below.d1 ?_) | (with_reducible refine Below.al ?_ _) | (with_reducible refine Below.tr ?_ (by assumption)) | (with_reducible refine Below.drewN ?_ _) | (with_reducible refine Below.drew ?_) | (with_reducible refine Below.alloc ?_ ?_ _) | (with_reducible refine Below.setCell ?_ ?_ _) | (with_reducible refine Below.trans ?_ (Below.mono (by assumption) ?_)) | omega | (simp; done) | (simp; omega) | (simp [*]; done)))⟩)
              · have HR := Lib.hid (hR2.trans (if_neg hov))
                clear hR2
                go_wp2_with fail
                refine bodyPost_ret (v := .tuple #[xv, yv, .int .i64 (sc + fin), .int .i64 0]) (by simp [results, Try.results26, go_sem]) rfl (by rw [HR.out]; exact ⟨_, _, rfl, SlAt.of_owns intCells_len HXV.out (by simp only; omega), SlAt.of_owns intCells_len HYV.out (by simp only; omega), (by repeat' (first | (with_reducible exact Below.refl _ _) | (with_reducible assumption) | (with_reducible refine Below.dr ?_ _) | (with_reducible refine Below.d1 ?_) | (with_reducible refine Below.al ?_ _) | (with_reducible refine Below.tr ?_ (by assumption)) | (with_reducible refine Below.drewN ?_ _) | (with_reducible refine Below.drew ?_) | (with_reducible refine Below.alloc ?_ ?_ _) | (with_reducible refine Below.setCell ?_ ?_ _) | (with_reducible refine Below.trans ?_ (Below.mono (by assumption) ?_)) | omega | (simp; done) | (simp; omega) | (simp [*]; done)))⟩)
  · have hR := folEnd_bad (l := l) hE hz
    rw [hR]
    have HE := Lib.hid hE
    have hEb : (E != 0) = true := by simp [hz]
    clear hE hz hR
    go_enter Try.func26, Try.ntmps26
    go_wp2_with fail
    refine (core_Check_as E _ ⟨st, sts⟩ _ (HM.out.mono (by repeat' (first | (with_reducible exact Below.refl _ _) | (with_reducible assumption) | (with_reducible refine Below.dr ?_ _) | (with_reducible refine Below.d1 ?_) | (with_reducible refine Below.al ?_ _) | (with_reducible refine Below.tr ?_ (by assumption)) | (with_reducible refine Below.drewN ?_ _) | (with_reducible refine Below.drew ?_) | (with_reducible refine Below.alloc ?_ ?_ _) | (with_reducible refine Below.setCell ?_ ?_ _) | (with_reducible refine Below.trans ?_ (Below.mono (by assumption) ?_)) | omega | (simp; done) | (simp; omega) | (simp [*]; done)))) HE.out).mono ?_
    rintro e w1 ⟨rfl, b1⟩
    go_wp2_with fail
    refine bodyPost_ret (v := .tuple #[.slice none 0 0, .slice none 0 0, .int .i64 0, .int .i64 E]) (by simp [results, Try.results26, go_sem]) rfl ⟨_, _, rfl, SlAt.nil _ _ _ _, SlAt.nil _ _ _ _, (by repeat' (first | (with_reducible exact Below.refl _ _) | (with_reducible assumption) | (with_reducible refine Below.dr ?_ _) | (with_reducible refine Below.d1 ?_) | (with_reducible refine Below.al ?_ _) | (with_reducible refine Below.tr ?_ (by assumption)) | (with_reducible refine Below.drewN ?_ _) | (with_reducible refine Below.drew ?_) | (with_reducible refine Below.alloc ?_ ?_ _) | (with_reducible refine Below.setCell ?_ ?_ _) | (with_reducible refine Below.trans ?_ (Below.mono (by assumption) ?_)) | omega | (simp; done) | (simp; omega) | (simp [*]; done)))⟩
end Go.Proofs.Ytnnmdcagbcdfpaa
