/- ref.Crossed: the reference of weigh.Cross. (printed from text Cross) -/
import Derived.Test.YtophgeegofaioaaCross
namespace Go.Proofs.Ytophgeegofaioaa
open Go.RowKit
set_option linter.unusedSimpArgs false
set_option linter.unusedVariables false

set_option maxHeartbeats 2000000 in
theorem ref_Crossed (v u : Value) (xs ys : List Int) (w : World) (h : IntsAt w v xs) (g : IntsAt w u ys) : Calls Try.prog 32 #[v, u] w fun e w' => ∃ mv, e = .returned (.tuple #[mv, .int .i64 (crossE xs ys)]) ∧ MachNew w' w.heap.size mv (crossOut xs ys) ∧ Below w.heap.size w w' := by
  obtain ⟨a, len, cap, rfl, hl, H, Hl⟩ := IntsAt.opens h
  obtain ⟨a', len', cap', rfl, hl', H', Hl'⟩ := IntsAt.opens g
  clear h g
  obtain ⟨c1, hc1⟩ : ∃ c, wordE xs = c := ⟨_, rfl⟩
  obtain ⟨c2, hc2⟩ : ∃ c, wordE ys = c := ⟨_, rfl⟩
  have Hc1 := Lib.hid hc1
  have Hc2 := Lib.hid hc2
  clear hc1 hc2
  by_cases hE1 : c1 = 0
  · subst hE1
    by_cases hE2 : c2 = 0
    · subst hE2
      have hs1 := wordE_short Hl.out Hc1.out
      have hs2 := wordE_short Hl'.out Hc2.out
      go_enter Try.func32, Try.ntmps32
      go_wp2_with (go_at_call 47; refine (ref_WordFaultF _ _ _ (by first | exact ⟨xs, H.out.mono (by repeat' (first | (with_reducible exact Below.refl _ _) | (with_reducible assumption) | (with_reducible refine Below.dr ?_ _) | (with_reducible refine Below.d1 ?_) | (with_reducible refine Below.al ?_ _) | (with_reducible refine Below.tr ?_ (by assumption)) | (with_reducible refine Below.drewN ?_ _) | (with_reducible refine Below.drew ?_) | (with_reducible refine Below.alloc ?_ ?_ _) | (with_reducible refine Below.setCell ?_ ?_ _) | (with_reducible refine Below.trans ?_ (Below.mono (by assumption) ?_)) | omega | (simp; done) | (simp; omega) | (simp [*]; done))), Hc1.out⟩ | exact ⟨ys, H'.out.mono (by repeat' (first | (with_reducible exact Below.refl _ _) | (with_reducible assumption) | (with_reducible refine Below.dr ?_ _) | (with_reducible refine Below.d1 ?_) | (with_reducible refine Below.al ?_ _) | (with_reducible refine Below.tr ?_ (by assumption)) | (with_reducible refine Below.drewN ?_ _) | (with_reducible refine Below.drew ?_) | (with_reducible refine Below.alloc ?_ ?_ _) | (with_reducible refine Below.setCell ?_ ?_ _) | (with_reducible refine Below.trans ?_ (Below.mono (by assumption) ?_)) | omega | (simp; done) | (simp; omega) | (simp [*]; done))), Hc2.out⟩)).mono ?_; rintro e w1 ⟨rfl, n1, rfl⟩)
      all_goals
        go_loopw [8] (fun i wr => ∃ (k : Nat) (sv : Value) (ts : List (Int × Value × List Ar)), k ≤ max len len' ∧ i = .int .i64 k ∧
          wr.cell? ⟨w.heap.size + 1, 0, none⟩ = some (.int .i64 0) ∧ wr.cell? ⟨w.heap.size + 1, 1, none⟩ = some sv ∧ wr.frozen? ⟨w.heap.size + 1, 1, none⟩ = false ∧
          Bld wr (w.heap.size + 1 + 1) sv ts ∧ ts.length = k ∧ ts.map (fun x => (⟨x.1, x.2.2⟩ : St)) = crossSts xs ys k ∧ Below w.heap.size w wr ∧
          (∃ r0 r1, wr.cell? ⟨w.heap.size, 0, none⟩ = some r0 ∧ wr.cell? ⟨w.heap.size, 1, none⟩ = some r1) ∧ wr.frozen? ⟨w.heap.size, 0, none⟩ = false ∧ wr.frozen? ⟨w.heap.size, 1, none⟩ = false) (fun i _ => max len len' - (intOf i).toNat)
        case atStart => exact ⟨0, .slice none 0 0, [], Nat.zero_le _, rfl, by simp [go_sem], by simp [go_sem], by simp [go_sem], Bld.nil _ _, rfl, rfl, (by repeat' (first | (with_reducible exact Below.refl _ _) | (with_reducible assumption) | (with_reducible refine Below.dr ?_ _) | (with_reducible refine Below.d1 ?_) | (with_reducible refine Below.al ?_ _) | (with_reducible refine Below.tr ?_ (by assumption)) | (with_reducible refine Below.drewN ?_ _) | (with_reducible refine Below.drew ?_) | (with_reducible refine Below.alloc ?_ ?_ _) | (with_reducible refine Below.setCell ?_ ?_ _) | (with_reducible refine Below.trans ?_ (Below.mono (by assumption) ?_)) | omega | (simp; done) | (simp; omega) | (simp [*]; done))), ⟨_, _, by simp [go_sem]; rfl, by simp [go_sem]; rfl⟩, by simp [go_sem], by simp [go_sem]⟩
        case round =>
          obtain ⟨k, sv, ts, hk, rfl, d0, d1, df, hB, hn, hst, hbel, hr, hr0, hr1⟩ := hrel
          have HB := Lib.hid hB
          have Hn := Lib.hid hn
          have Hst := Lib.hid hst
          clear hB hn hst
          have hz1 := blt d0
          by_cases hlt : k < max len len'
          · have HR := Lib.hid hr
            have HR0 := Lib.hid hr0
            have HR1 := Lib.hid hr1
            clear hr hr0 hr1
            have HX : Hid (∀ hh : k < len, ∃ b o x, a = some ⟨b, o, none⟩ ∧ xs[k]? = some x ∧ wr.cell? ⟨b, o + k, none⟩ = some (.int .i64 x)) := by
              intro hh
              obtain ⟨b, o, x, p1, p2, p3⟩ := IntsAt.at (IntsAt.mono H.out hbel) hh
              exact ⟨b, o, x, p1, p2, p3⟩
            have HY : Hid (∀ hh : k < len', ∃ b o x, a' = some ⟨b, o, none⟩ ∧ ys[k]? = some x ∧ wr.cell? ⟨b, o + k, none⟩ = some (.int .i64 x)) := by
              intro hh
              obtain ⟨b, o, x, p1, p2, p3⟩ := IntsAt.at (IntsAt.mono H'.out hbel) hh
              exact ⟨b, o, x, p1, p2, p3⟩
            by_cases hx : k < len
            · obtain ⟨b, o, x, rfl, p2, p3⟩ := HX.out hx
              have hb1 := blt p3
              by_cases hy : k < len'
              · obtain ⟨b', o', y, rfl, q2, q3⟩ := HY.out hy
                have hb2 := blt q3
                have P2 := Lib.hid p2
                have Q2 := Lib.hid q2
                clear p2 q2
                go_wp2_with (at_builtin; refine Mark.intro ?_)
                refine Mark.out ?_
                refine wpList_append_at rfl _ _ 38 rfl (w.heap.size + 1 + 1) 62 2 32 (.agg #[.int .i64 0, .slice none 0 0]) Try.underlying38 (by kernel_rfl) rfl (by omega) (by omega) stCells stCells_len sv ts rfl (Bld.own (Bld.below HB.out (by repeat' (first | (with_reducible exact Below.refl _ _) | (with_reducible assumption) | (with_reducible refine Below.dr ?_ _) | (with_reducible refine Below.d1 ?_) | (with_reducible refine Below.al ?_ _) | (with_reducible refine Below.tr ?_ (by assumption)) | (with_reducible refine Below.drewN ?_ _) | (with_reducible refine Below.drew ?_) | (with_reducible refine Below.alloc ?_ ?_ _) | (with_reducible refine Below.setCell ?_ ?_ _) | (with_reducible refine Below.trans ?_ (Below.mono (by assumption) ?_)) | omega | (simp; done) | (simp; omega) | (simp [*]; done))))) (1000000001, .slice (some ⟨wr.heap.size + 1, 0, none⟩) 1 1, [⟨x, y, 0, (k : Int) + 1⟩]) (stCells_one _ _ _ _ _) ⟨wr.heap.size + 1 + 1, 0, none⟩ 1 rfl (new_row_cells' _ _ _ _ (by simp)) (by have := Hn.out; omega) (by simp; omega) ?_
                intro v2 w2 hown2 hv2 hgrow2
                have hps := push_step w wr _ w2 sv v2 ts (1000000001, .slice (some ⟨wr.heap.size + 1, 0, none⟩) 1 1, [⟨x, y, 0, (k : Int) + 1⟩]) (w.heap.size + 1 + 1) (by omega) (by omega) HB.out hbel (by repeat' (first | (with_reducible exact Below.refl _ _) | (with_reducible assumption) | (with_reducible refine Below.dr ?_ _) | (with_reducible refine Below.d1 ?_) | (with_reducible refine Below.al ?_ _) | (with_reducible refine Below.tr ?_ (by assumption)) | (with_reducible refine Below.drewN ?_ _) | (with_reducible refine Below.drew ?_) | (with_reducible refine Below.alloc ?_ ?_ _) | (with_reducible refine Below.setCell ?_ ?_ _) | (with_reducible refine Below.trans ?_ (Below.mono (by assumption) ?_)) | omega | (simp; done) | (simp; omega) | (simp [*]; done))) ((owns_one (wr.alloc (.cells #[.int .i64 x, .int .i64 y, .int .i64 0, .int .i64 ((k : Int) + 1)] 59)) (w.heap.size + 1 + 1) (wr.heap.size + 1) ⟨x, y, 0, (k : Int) + 1⟩ (by simp; omega) (by simp)).alloc _) (by simp) (by intro kk hkk; simp [Value.ownBlock] at hkk; subst hkk; simp) hown2 hv2 hgrow2
                clear hown2 hgrow2
                obtain ⟨g2, cap2, rfl, -, -⟩ := hv2
                obtain ⟨hfin, hB2, hbel2, hsz2⟩ := hps
                obtain ⟨r0, r1, t0, t1⟩ := HR.out
                have f0 := (World.cell?_of_block (w := wr) (a := ⟨w.heap.size + 1, 0, none⟩) (hfin _ (by simp))).trans d0
                have f1 := (World.cell?_of_block (w := wr) (a := ⟨w.heap.size + 1, 1, none⟩) (hfin _ (by simp))).trans d1
                have f2 := (World.frozen?_of_block (w := wr) (a := ⟨w.heap.size + 1, 1, none⟩) (hfin _ (by simp))).trans df
                have f3 := (World.cell?_of_block (w := wr) (a := ⟨w.heap.size, 0, none⟩) (hfin _ (by simp))).trans t0
                have f4 := (World.cell?_of_block (w := wr) (a := ⟨w.heap.size, 1, none⟩) (hfin _ (by simp))).trans t1
                have f5 := (World.frozen?_of_block (w := wr) (a := ⟨w.heap.size, 0, none⟩) (hfin _ (by simp))).trans HR0.out
                have f6 := (World.frozen?_of_block (w := wr) (a := ⟨w.heap.size, 1, none⟩) (hfin _ (by simp))).trans HR1.out
                have HB3 := Lib.hid hB2
                have Hbel2 := Lib.hid hbel2
                clear hfin hB2 hbel2
                go_wp2_with fail
                go_roundw
                case rel =>
                  refine ⟨k + 1, _, ts ++ [(1000000001, .slice (some ⟨wr.heap.size + 1, 0, none⟩) 1 1, [⟨x, y, 0, (k : Int) + 1⟩])], by omega, by go_num, by simp [go_sem, f0], by simp [go_sem, f1], by simp [go_sem, f2], HB3.out.stored (by simp) _, by simp [Hn.out], ?_, Hbel2.out.setCell (by simp) _, ⟨r0, r1, by simp [go_sem, f3], by simp [go_sem, f4]⟩, by simp [go_sem, f5], by simp [go_sem, f6]⟩
                  rw [crossSts_succ, List.map_append, Hst.out]
                  simp [crossAr, P2.out, Q2.out, List.getD_eq_getElem?_getD]
                case measure => simp [intOf]; omega
              · try (exfalso; omega)
                all_goals
                  have Q2 : Hid (ys[k]? = none) := List.getElem?_eq_none (by have := Hl'.out; omega)
                  have P2 := Lib.hid p2
                  clear p2
                  go_wp2_with (at_builtin; refine Mark.intro ?_)
                  refine Mark.out ?_
                  refine wpList_append_at rfl _ _ 38 rfl (w.heap.size + 1 + 1) 62 2 32 (.agg #[.int .i64 0, .slice none 0 0]) Try.underlying38 (by kernel_rfl) rfl (by omega) (by omega) stCells stCells_len sv ts rfl (Bld.own (Bld.below HB.out (by repeat' (first | (with_reducible exact Below.refl _ _) | (with_reducible assumption) | (with_reducible refine Below.dr ?_ _) | (with_reducible refine Below.d1 ?_) | (with_reducible refine Below.al ?_ _) | (with_reducible refine Below.tr ?_ (by assumption)) | (with_reducible refine Below.drewN ?_ _) | (with_reducible refine Below.drew ?_) | (with_reducible refine Below.alloc ?_ ?_ _) | (with_reducible refine Below.setCell ?_ ?_ _) | (with_reducible refine Below.trans ?_ (Below.mono (by assumption) ?_)) | omega | (simp; done) | (simp; omega) | (simp [*]; done))))) (1000000001, .slice (some ⟨wr.heap.size + 1, 0, none⟩) 1 1, [⟨x, 0, 0, (k : Int) + 1⟩]) (stCells_one _ _ _ _ _) ⟨wr.heap.size + 1 + 1, 0, none⟩ 1 rfl (new_row_cells' _ _ _ _ (by simp)) (by have := Hn.out; omega) (by simp; omega) ?_
                  intro v2 w2 hown2 hv2 hgrow2
                  have hps := push_step w wr _ w2 sv v2 ts (1000000001, .slice (some ⟨wr.heap.size + 1, 0, none⟩) 1 1, [⟨x, 0, 0, (k : Int) + 1⟩]) (w.heap.size + 1 + 1) (by omega) (by omega) HB.out hbel (by repeat' (first | (with_reducible exact Below.refl _ _) | (with_reducible assumption) | (with_reducible refine Below.dr ?_ _) | (with_reducible refine Below.d1 ?_) | (with_reducible refine Below.al ?_ _) | (with_reducible refine Below.tr ?_ (by assumption)) | (with_reducible refine Below.drewN ?_ _) | (with_reducible refine Below.drew ?_) | (with_reducible refine Below.alloc ?_ ?_ _) | (with_reducible refine Below.setCell ?_ ?_ _) | (with_reducible refine Below.trans ?_ (Below.mono (by assumption) ?_)) | omega | (simp; done) | (simp; omega) | (simp [*]; done))) ((owns_one (wr.alloc (.cells #[.int .i64 x, .int .i64 0, .int .i64 0, .int .i64 ((k : Int) + 1)] 59)) (w.heap.size + 1 + 1) (wr.heap.size + 1) ⟨x, 0, 0, (k : Int) + 1⟩ (by simp; omega) (by simp)).alloc _) (by simp) (by intro kk hkk; simp [Value.ownBlock] at hkk; subst hkk; simp) hown2 hv2 hgrow2
                  clear hown2 hgrow2
                  obtain ⟨g2, cap2, rfl, -, -⟩ := hv2
                  obtain ⟨hfin, hB2, hbel2, hsz2⟩ := hps
                  obtain ⟨r0, r1, t0, t1⟩ := HR.out
                  have f0 := (World.cell?_of_block (w := wr) (a := ⟨w.heap.size + 1, 0, none⟩) (hfin _ (by simp))).trans d0
                  have f1 := (World.cell?_of_block (w := wr) (a := ⟨w.heap.size + 1, 1, none⟩) (hfin _ (by simp))).trans d1
                  have f2 := (World.frozen?_of_block (w := wr) (a := ⟨w.heap.size + 1, 1, none⟩) (hfin _ (by simp))).trans df
                  have f3 := (World.cell?_of_block (w := wr) (a := ⟨w.heap.size, 0, none⟩) (hfin _ (by simp))).trans t0
                  have f4 := (World.cell?_of_block (w := wr) (a := ⟨w.heap.size, 1, none⟩) (hfin _ (by simp))).trans t1
                  have f5 := (World.frozen?_of_block (w := wr) (a := ⟨w.heap.size, 0, none⟩) (hfin _ (by simp))).trans HR0.out
                  have f6 := (World.frozen?_of_block (w := wr) (a := ⟨w.heap.size, 1, none⟩) (hfin _ (by simp))).trans HR1.out
                  have HB3 := Lib.hid hB2
                  have Hbel2 := Lib.hid hbel2
                  clear hfin hB2 hbel2
                  go_wp2_with fail
                  go_roundw
                  case rel =>
                    refine ⟨k + 1, _, ts ++ [(1000000001, .slice (some ⟨wr.heap.size + 1, 0, none⟩) 1 1, [⟨x, 0, 0, (k : Int) + 1⟩])], by omega, by go_num, by simp [go_sem, f0], by simp [go_sem, f1], by simp [go_sem, f2], HB3.out.stored (by simp) _, by simp [Hn.out], ?_, Hbel2.out.setCell (by simp) _, ⟨r0, r1, by simp [go_sem, f3], by simp [go_sem, f4]⟩, by simp [go_sem, f5], by simp [go_sem, f6]⟩
                    rw [crossSts_succ, List.map_append, Hst.out]
                    simp [crossAr, P2.out, Q2.out, List.getD_eq_getElem?_getD]
                  case measure => simp [intOf]; omega
            · try (exfalso; omega)
              all_goals
                have hy : k < len' := by omega
                obtain ⟨b', o', y, rfl, q2, q3⟩ := HY.out hy
                have hb2 := blt q3
                have P2 : Hid (xs[k]? = none) := List.getElem?_eq_none (by have := Hl.out; omega)
                have Q2 := Lib.hid q2
                clear q2
                go_wp2_with (at_builtin; refine Mark.intro ?_)
                refine Mark.out ?_
                refine wpList_append_at rfl _ _ 38 rfl (w.heap.size + 1 + 1) 62 2 32 (.agg #[.int .i64 0, .slice none 0 0]) Try.underlying38 (by kernel_rfl) rfl (by omega) (by omega) stCells stCells_len sv ts rfl (Bld.own (Bld.below HB.out (by repeat' (first | (with_reducible exact Below.refl _ _) | (with_reducible assumption) | (with_reducible refine Below.dr ?_ _) | (with_reducible refine Below.d1 ?_) | (with_reducible refine Below.al ?_ _) | (with_reducible refine Below.tr ?_ (by assumption)) | (with_reducible refine Below.drewN ?_ _) | (with_reducible refine Below.drew ?_) | (with_reducible refine Below.alloc ?_ ?_ _) | (with_reducible refine Below.setCell ?_ ?_ _) | (with_reducible refine Below.trans ?_ (Below.mono (by assumption) ?_)) | omega | (simp; done) | (simp; omega) | (simp [*]; done))))) (1000000001, .slice (some ⟨wr.heap.size + 1, 0, none⟩) 1 1, [⟨0, y, 0, (k : Int) + 1⟩]) (stCells_one _ _ _ _ _) ⟨wr.heap.size + 1 + 1, 0, none⟩ 1 rfl (new_row_cells' _ _ _ _ (by simp)) (by have := Hn.out; omega) (by simp; omega) ?_
                intro v2 w2 hown2 hv2 hgrow2
                have hps := push_step w wr _ w2 sv v2 ts (1000000001, .slice (some ⟨wr.heap.size + 1, 0, none⟩) 1 1, [⟨0, y, 0, (k : Int) + 1⟩]) (w.heap.size + 1 + 1) (by omega) (by omega) HB.out hbel (by repeat' (first | (with_reducible exact Below.refl _ _) | (with_reducible assumption) | (with_reducible refine Below.dr ?_ _) | (with_reducible refine Below.d1 ?_) | (with_reducible refine Below.al ?_ _) | (with_reducible refine Below.tr ?_ (by assumption)) | (with_reducible refine Below.drewN ?_ _) | (with_reducible refine Below.drew ?_) | (with_reducible refine Below.alloc ?_ ?_ _) | (with_reducible refine Below.setCell ?_ ?_ _) | (with_reducible refine Below.trans ?_ (Below.mono (by assumption) ?_)) | omega | (simp; done) | (simp; omega) | (simp [*]; done))) ((owns_one (wr.alloc (.cells #[.int .i64 0, .int .i64 y, .int .i64 0, .int .i64 ((k : Int) + 1)] 59)) (w.heap.size + 1 + 1) (wr.heap.size + 1) ⟨0, y, 0, (k : Int) + 1⟩ (by simp; omega) (by simp)).alloc _) (by simp) (by intro kk hkk; simp [Value.ownBlock] at hkk; subst hkk; simp) hown2 hv2 hgrow2
                clear hown2 hgrow2
                obtain ⟨g2, cap2, rfl, -, -⟩ := hv2
                obtain ⟨hfin, hB2, hbel2, hsz2⟩ := hps
                obtain ⟨r0, r1, t0, t1⟩ := HR.out
                have f0 := (World.cell?_of_block (w := wr) (a := ⟨w.heap.size + 1, 0, none⟩) (hfin _ (by simp))).trans d0
                have f1 := (World.cell?_of_block (w := wr) (a := ⟨w.heap.size + 1, 1, none⟩) (hfin _ (by simp))).trans d1
                have f2 := (World.frozen?_of_block (w := wr) (a := ⟨w.heap.size + 1, 1, none⟩) (hfin _ (by simp))).trans df
                have f3 := (World.cell?_of_block (w := wr) (a := ⟨w.heap.size, 0, none⟩) (hfin _ (by simp))).trans t0
                have f4 := (World.cell?_of_block (w := wr) (a := ⟨w.heap.size, 1, none⟩) (hfin _ (by simp))).trans t1
                have f5 := (World.frozen?_of_block (w := wr) (a := ⟨w.heap.size, 0, none⟩) (hfin _ (by simp))).trans HR0.out
                have f6 := (World.frozen?_of_block (w := wr) (a := ⟨w.heap.size, 1, none⟩) (hfin _ (by simp))).trans HR1.out
                have HB3 := Lib.hid hB2
                have Hbel2 := Lib.hid hbel2
                clear hfin hB2 hbel2
                go_wp2_with fail
                go_roundw
                case rel =>
                  refine ⟨k + 1, _, ts ++ [(1000000001, .slice (some ⟨wr.heap.size + 1, 0, none⟩) 1 1, [⟨0, y, 0, (k : Int) + 1⟩])], by omega, by go_num, by simp [go_sem, f0], by simp [go_sem, f1], by simp [go_sem, f2], HB3.out.stored (by simp) _, by simp [Hn.out], ?_, Hbel2.out.setCell (by simp) _, ⟨r0, r1, by simp [go_sem, f3], by simp [go_sem, f4]⟩, by simp [go_sem, f5], by simp [go_sem, f6]⟩
                  rw [crossSts_succ, List.map_append, Hst.out]
                  simp [crossAr, P2.out, Q2.out, List.getD_eq_getElem?_getD]
                case measure => simp [intOf]; omega
          · have hkN : k = max len len' := by omega
            have HAt : Hid (ArcsAt wr (.slice none 0 0) []) := SlAt.nil _ _ _ _
            go_wp2_with (at_builtin; refine Mark.intro ?_)
            refine Mark.out ?_
            refine wpList_append_at rfl _ _ 38 rfl (w.heap.size + 1 + 1) 62 2 32 (.agg #[.int .i64 0, .slice none 0 0]) Try.underlying38 (by kernel_rfl) rfl (by omega) (by omega) stCells stCells_len sv ts rfl (Bld.own (Bld.below HB.out (by repeat' (first | (with_reducible exact Below.refl _ _) | (with_reducible assumption) | (with_reducible refine Below.dr ?_ _) | (with_reducible refine Below.d1 ?_) | (with_reducible refine Below.al ?_ _) | (with_reducible refine Below.tr ?_ (by assumption)) | (with_reducible refine Below.drewN ?_ _) | (with_reducible refine Below.drew ?_) | (with_reducible refine Below.alloc ?_ ?_ _) | (with_reducible refine Below.setCell ?_ ?_ _) | (with_reducible refine Below.trans ?_ (Below.mono (by assumption) ?_)) | omega | (simp; done) | (simp; omega) | (simp [*]; done))))) (0, .slice none 0 0, []) (stCells_one _ _ _ _ _) ⟨wr.heap.size, 0, none⟩ 1 rfl (new_row_cells' _ _ _ _ (by simp)) (by have := Hn.out; omega) (by simp; omega) ?_
            intro v2 w2 hown2 hv2 hgrow2
            have hps := push_step w wr _ w2 sv v2 ts (0, .slice none 0 0, []) (w.heap.size + 1 + 1) (by omega) (by omega) HB.out hbel (by repeat' (first | (with_reducible exact Below.refl _ _) | (with_reducible assumption) | (with_reducible refine Below.dr ?_ _) | (with_reducible refine Below.d1 ?_) | (with_reducible refine Below.al ?_ _) | (with_reducible refine Below.tr ?_ (by assumption)) | (with_reducible refine Below.drewN ?_ _) | (with_reducible refine Below.drew ?_) | (with_reducible refine Below.alloc ?_ ?_ _) | (with_reducible refine Below.setCell ?_ ?_ _) | (with_reducible refine Below.trans ?_ (Below.mono (by assumption) ?_)) | omega | (simp; done) | (simp; omega) | (simp [*]; done))) (World.ownsRow_nil _ _ _ _) (by simp) (by intro kk hkk; simp [Value.ownBlock] at hkk) hown2 hv2 hgrow2
            clear hown2 hgrow2
            obtain ⟨g2, cap2, rfl, -, -⟩ := hv2
            obtain ⟨hfin, hB2, hbel2, hsz2⟩ := hps
            obtain ⟨r0, r1, t0, t1⟩ := hr
            have f0 := (World.cell?_of_block (w := wr) (a := ⟨w.heap.size + 1, 0, none⟩) (hfin _ (by simp))).trans d0
            have f1 := (World.cell?_of_block (w := wr) (a := ⟨w.heap.size + 1, 1, none⟩) (hfin _ (by simp))).trans d1
            have f2 := (World.frozen?_of_block (w := wr) (a := ⟨w.heap.size + 1, 1, none⟩) (hfin _ (by simp))).trans df
            have f3 := (World.cell?_of_block (w := wr) (a := ⟨w.heap.size, 0, none⟩) (hfin _ (by simp))).trans t0
            have f4 := (World.cell?_of_block (w := wr) (a := ⟨w.heap.size, 1, none⟩) (hfin _ (by simp))).trans t1
            have f5 := (World.frozen?_of_block (w := wr) (a := ⟨w.heap.size, 0, none⟩) (hfin _ (by simp))).trans hr0
            have f6 := (World.frozen?_of_block (w := wr) (a := ⟨w.heap.size, 1, none⟩) (hfin _ (by simp))).trans hr1
            have HB3 := Lib.hid hB2
            have Hbel2 := Lib.hid hbel2
            clear hfin hB2 hbel2
            go_wp2_with fail
            have hE : crossE xs ys = 0 := by rw [crossE_yes Hc1.out]; exact Hc2.out
            have hO : crossOut xs ys = crossM xs ys := by simp only [crossOut, hE, if_true]
            have g0 : (((w2.setCell ⟨w.heap.size + 1, 1, none⟩ (.slice (some ⟨g2, 0, none⟩) (ts.length + 1) cap2)).setCell ⟨w.heap.size, 0, none⟩ (.int .i64 0)).setCell ⟨w.heap.size, 1, none⟩ (.slice (some ⟨g2, 0, none⟩) (ts.length + 1) cap2)).cell? ⟨w.heap.size, 0, none⟩ = some (.int .i64 0) := by simp [go_sem, f3]
            have g1 : (((w2.setCell ⟨w.heap.size + 1, 1, none⟩ (.slice (some ⟨g2, 0, none⟩) (ts.length + 1) cap2)).setCell ⟨w.heap.size, 0, none⟩ (.int .i64 0)).setCell ⟨w.heap.size, 1, none⟩ (.slice (some ⟨g2, 0, none⟩) (ts.length + 1) cap2)).cell? ⟨w.heap.size, 1, none⟩ = some (.slice (some ⟨g2, 0, none⟩) (ts.length + 1) cap2) := by simp [go_sem, f4]
            have hB5 : Bld (((w2.setCell ⟨w.heap.size + 1, 1, none⟩ (.slice (some ⟨g2, 0, none⟩) (ts.length + 1) cap2)).setCell ⟨w.heap.size, 0, none⟩ (.int .i64 0)).setCell ⟨w.heap.size, 1, none⟩ (.slice (some ⟨g2, 0, none⟩) (ts.length + 1) cap2)) (w.heap.size + 1 + 1) (.slice (some ⟨g2, 0, none⟩) (ts.length + 1) cap2) (ts ++ [(0, .slice none 0 0, [])]) := ((HB3.out.stored (by simp) _).stored (by simp) _).stored (by simp) _
            have hbl5 : Below w.heap.size w (((w2.setCell ⟨w.heap.size + 1, 1, none⟩ (.slice (some ⟨g2, 0, none⟩) (ts.length + 1) cap2)).setCell ⟨w.heap.size, 0, none⟩ (.int .i64 0)).setCell ⟨w.heap.size, 1, none⟩ (.slice (some ⟨g2, 0, none⟩) (ts.length + 1) cap2)) := ((Hbel2.out.setCell (by simp) _).setCell (by simp) _).setCell (by simp) _
            rw [hO, hE]
            refine bodyPost_ret (v := .tuple #[.agg #[.int .i64 0, (.slice (some ⟨g2, 0, none⟩) (ts.length + 1) cap2)], .int .i64 0]) ?_ rfl ⟨_, rfl, ⟨_, _, rfl, hB5.lower (by omega), ?_, ?_⟩, hbl5⟩
            · generalize (((w2.setCell ⟨w.heap.size + 1, 1, none⟩ (.slice (some ⟨g2, 0, none⟩) (ts.length + 1) cap2)).setCell ⟨w.heap.size, 0, none⟩ (.int .i64 0)).setCell ⟨w.heap.size, 1, none⟩ (.slice (some ⟨g2, 0, none⟩) (ts.length + 1) cap2)) = wz at g0 g1 ⊢
              simp [results, Try.results32, go_sem, g0, g1]
            · have hl2 : (crossM xs ys).states = (ts ++ [((0, .slice none 0 0, []) : Int × Value × List Ar)]).map (fun x => (⟨x.1, x.2.2⟩ : St)) := by
                rw [List.map_append, Hst.out]
                simp [crossM, Hl.out, Hl'.out, hkN]
              exact hl2.symm
            · have := Hn.out; simp; omega
    · go_enter Try.func32, Try.ntmps32
      go_wp2_with (go_at_call 47; refine (ref_WordFaultF _ _ _ (by first | exact ⟨xs, H.out.mono (by repeat' (first | (with_reducible exact Below.refl _ _) | (with_reducible assumption) | (with_reducible refine Below.dr ?_ _) | (with_reducible refine Below.d1 ?_) | (with_reducible refine Below.al ?_ _) | (with_reducible refine Below.tr ?_ (by assumption)) | (with_reducible refine Below.drewN ?_ _) | (with_reducible refine Below.drew ?_) | (with_reducible refine Below.alloc ?_ ?_ _) | (with_reducible refine Below.setCell ?_ ?_ _) | (with_reducible refine Below.trans ?_ (Below.mono (by assumption) ?_)) | omega | (simp; done) | (simp; omega) | (simp [*]; done))), Hc1.out⟩ | exact ⟨ys, H'.out.mono (by repeat' (first | (with_reducible exact Below.refl _ _) | (with_reducible assumption) | (with_reducible refine Below.dr ?_ _) | (with_reducible refine Below.d1 ?_) | (with_reducible refine Below.al ?_ _) | (with_reducible refine Below.tr ?_ (by assumption)) | (with_reducible refine Below.drewN ?_ _) | (with_reducible refine Below.drew ?_) | (with_reducible refine Below.alloc ?_ ?_ _) | (with_reducible refine Below.setCell ?_ ?_ _) | (with_reducible refine Below.trans ?_ (Below.mono (by assumption) ?_)) | omega | (simp; done) | (simp; omega) | (simp [*]; done))), Hc2.out⟩)).mono ?_; rintro e w1 ⟨rfl, n1, rfl⟩)
      have hE : crossE xs ys = c2 := by rw [crossE_yes Hc1.out]; exact Hc2.out
      have hO : crossOut xs ys = ⟨0, []⟩ := by simp only [crossOut, hE]; exact if_neg hE2
      rw [hO, hE]
      refine bodyPost_ret (v := .tuple #[.agg #[.int .i64 0, .slice none 0 0], .int .i64 c2]) ?_ rfl ⟨_, rfl, MachNew.nil _ _ _, (by repeat' (first | (with_reducible exact Below.refl _ _) | (with_reducible assumption) | (with_reducible refine Below.dr ?_ _) | (with_reducible refine Below.d1 ?_) | (with_reducible refine Below.al ?_ _) | (with_reducible refine Below.tr ?_ (by assumption)) | (with_reducible refine Below.drewN ?_ _) | (with_reducible refine Below.drew ?_) | (with_reducible refine Below.alloc ?_ ?_ _) | (with_reducible refine Below.setCell ?_ ?_ _) | (with_reducible refine Below.trans ?_ (Below.mono (by assumption) ?_)) | omega | (simp; done) | (simp; omega) | (simp [*]; done)))⟩
      simp [results, Try.results32, go_sem]
  · go_enter Try.func32, Try.ntmps32
    go_wp2_with (go_at_call 47; refine (ref_WordFaultF _ _ _ (by first | exact ⟨xs, H.out.mono (by repeat' (first | (with_reducible exact Below.refl _ _) | (with_reducible assumption) | (with_reducible refine Below.dr ?_ _) | (with_reducible refine Below.d1 ?_) | (with_reducible refine Below.al ?_ _) | (with_reducible refine Below.tr ?_ (by assumption)) | (with_reducible refine Below.drewN ?_ _) | (with_reducible refine Below.drew ?_) | (with_reducible refine Below.alloc ?_ ?_ _) | (with_reducible refine Below.setCell ?_ ?_ _) | (with_reducible refine Below.trans ?_ (Below.mono (by assumption) ?_)) | omega | (simp; done) | (simp; omega) | (simp [*]; done))), Hc1.out⟩ | exact ⟨ys, H'.out.mono (by repeat' (first | (with_reducible exact Below.refl _ _) | (with_reducible assumption) | (with_reducible refine Below.dr ?_ _) | (with_reducible refine Below.d1 ?_) | (with_reducible refine Below.al ?_ _) | (with_reducible refine Below.tr ?_ (by assumption)) | (with_reducible refine Below.drewN ?_ _) | (with_reducible refine Below.drew ?_) | (with_reducible refine Below.alloc ?_ ?_ _) | (with_reducible refine Below.setCell ?_ ?_ _) | (with_reducible refine Below.trans ?_ (Below.mono (by assumption) ?_)) | omega | (simp; done) | (simp; omega) | (simp [*]; done))), Hc2.out⟩)).mono ?_; rintro e w1 ⟨rfl, n1, rfl⟩)
    have hE : crossE xs ys = c1 := by rw [crossE_no (by rw [Hc1.out]; exact hE1)]; exact Hc1.out
    have hO : crossOut xs ys = ⟨0, []⟩ := by simp only [crossOut, hE]; exact if_neg hE1
    rw [hO, hE]
    refine bodyPost_ret (v := .tuple #[.agg #[.int .i64 0, .slice none 0 0], .int .i64 c1]) ?_ rfl ⟨_, rfl, MachNew.nil _ _ _, (by repeat' (first | (with_reducible exact Below.refl _ _) | (with_reducible assumption) | (with_reducible refine Below.dr ?_ _) | (with_reducible refine Below.d1 ?_) | (with_reducible refine Below.al ?_ _) | (with_reducible refine Below.tr ?_ (by assumption)) | (with_reducible refine Below.drewN ?_ _) | (with_reducible refine Below.drew ?_) | (with_reducible refine Below.alloc ?_ ?_ _) | (with_reducible refine Below.setCell ?_ ?_ _) | (with_reducible refine Below.trans ?_ (Below.mono (by assumption) ?_)) | omega | (simp; done) | (simp; omega) | (simp [*]; done)))⟩
    simp [results, Try.results32, go_sem]
end Go.Proofs.Ytophgeegofaioaa
