/- turn.each at the closure of turn.Writes; and turn.Writes. -/
import Derived.Test.YtnnmdcagbcdfpaaArcs
namespace Go.Proofs.Ytnnmdcagbcdfpaa
open Go.RowKit
set_option linter.unusedSimpArgs false
set_option linter.unusedVariables false

theorem turn_clo_Writes (i o c t : Int) (w : World) : Calls Try.prog 50 #[.agg #[.int .i64 i, .int .i64 o, .int .i64 c, .int .i64 t]] w fun e w' =>
    e = .returned (.agg #[.int .i64 (turnWr ⟨i, o, c, t⟩).i, .int .i64 (turnWr ⟨i, o, c, t⟩).o, .int .i64 (turnWr ⟨i, o, c, t⟩).w, .int .i64 (turnWr ⟨i, o, c, t⟩).t]) ∧ Below w.heap.size w w' := by
  go_enter Try.func50, Try.ntmps50
  go_wp2_with fail
  refine bodyPost_ret (v := .agg #[.int .i64 (turnWr ⟨i, o, c, t⟩).i, .int .i64 (turnWr ⟨i, o, c, t⟩).o, .int .i64 (turnWr ⟨i, o, c, t⟩).w, .int .i64 (turnWr ⟨i, o, c, t⟩).t]) ?_ rfl ⟨rfl, (by repeat' (first | (with_reducible exact Below.refl _ _) | (with_reducible assumption) | (with_reducible refine Below.dr ?_ _) | (with_reducible refine Below.d1 ?_) | (with_reducible refine Below.al ?_ _) | (with_reducible refine Below.tr ?_ (by assumption)) | (with_reducible refine Below.drewN ?_ _) | (with_reducible refine Below.drew ?_) | (with_reducible refine Below.alloc ?_ ?_ _) | (with_reducible refine Below.setCell ?_ ?_ _) | (with_reducible refine Below.trans ?_ (Below.mono (by assumption) ?_)) | omega | (simp; done) | (simp; omega) | (simp [*]; done)))⟩
  simp [results, Try.results50, go_sem, turnWr]

set_option maxHeartbeats 4000000 in
theorem turn_each_Writes (v : Value) (m : Mach) (w : World) (h : MachAt w v m) : Calls Try.prog 47 #[v, .func (.func 50) #[] #[]] w fun e w' => ∃ mv, e = .returned (.tuple #[mv, .int .i64 (machE m)]) ∧ MachNew w' w.heap.size mv (turnOut turnWr m) ∧ Below w.heap.size w w' := by
  have HM := Lib.hid h
  obtain ⟨a, len, cap, rfl, hl, H, Hl⟩ := MachAt.opens h
  clear h
  obtain ⟨E, hE⟩ : ∃ E, machE m = E := ⟨_, rfl⟩
  obtain ⟨st, sts⟩ := m
  simp only at H Hl HM hE ⊢
  by_cases hz : E = 0
  · subst hz
    have hO : turnOut turnWr ⟨st, sts⟩ = ⟨st, sts.map fun s => ⟨s.fin, s.arcs.map turnWr⟩⟩ := by simp only [turnOut, hE, if_true]
    rw [hO, hE]
    have hg := machE_zero hE
    simp only at hg
    have HE := Lib.hid hE
    clear hO hE
    have h60 : len ≤ 60 := by have := hg.1; rw [Hl.out] at this; exact this
    have H400 := Lib.hid hg.2.1
    clear hg
    go_enter Try.func47, Try.ntmps47
    go_wp2_with fail
    refine (core_Check_as 0 _ ⟨st, sts⟩ _ (HM.out.mono (by repeat' (first | (with_reducible exact Below.refl _ _) | (with_reducible assumption) | (with_reducible refine Below.dr ?_ _) | (with_reducible refine Below.d1 ?_) | (with_reducible refine Below.al ?_ _) | (with_reducible refine Below.tr ?_ (by assumption)) | (with_reducible refine Below.drewN ?_ _) | (with_reducible refine Below.drew ?_) | (with_reducible refine Below.alloc ?_ ?_ _) | (with_reducible refine Below.setCell ?_ ?_ _) | (with_reducible refine Below.trans ?_ (Below.mono (by assumption) ?_)) | omega | (simp; done) | (simp; omega) | (simp [*]; done)))) HE.out).mono ?_
    rintro e w1 ⟨rfl, b1⟩
    have hb1 : Below w.heap.size w w1 := (by repeat' (first | (with_reducible exact Below.refl _ _) | (with_reducible assumption) | (with_reducible refine Below.dr ?_ _) | (with_reducible refine Below.d1 ?_) | (with_reducible refine Below.al ?_ _) | (with_reducible refine Below.tr ?_ (by assumption)) | (with_reducible refine Below.drewN ?_ _) | (with_reducible refine Below.drew ?_) | (with_reducible refine Below.alloc ?_ ?_ _) | (with_reducible refine Below.setCell ?_ ?_ _) | (with_reducible refine Below.trans ?_ (Below.mono (by assumption) ?_)) | omega | (simp; done) | (simp; omega) | (simp [*]; done)))
    have M1 := Blk.to (Blk.al (Blk.new w _ _) _) b1
    have R1 := Lib.hid (Blk.to (Blk.new' _ _ _ (n := w.heap.size + 1) (by simp)) b1)
    have p0 := M1.cell 0 rfl; have p1 := M1.cell 1 rfl; have pf0 := M1.free 0; have pf1 := M1.free 1; have pz := M1.lt
    have M1' := Lib.hid M1
    clear M1
    have B1 := Lib.hid hb1
    clear b1 hb1
    go_wp2_with fail
    go_loopw [25] (fun i wr => ∃ (k : Nat) (sv : Value) (ts : List (Int × Value × List Ar)), k ≤ len ∧ i = .int .i64 k ∧ Blk wr w1.heap.size #[.int .i64 st, sv] 24 ∧
      Bld wr (w1.heap.size + 1) sv ts ∧ ts.length = k ∧ ts.map (fun x => (⟨x.1, x.2.2⟩ : St)) = (sts.take k).map (fun s => ⟨s.fin, s.arcs.map turnWr⟩) ∧ Below w1.heap.size w1 wr) (fun i _ => len - (intOf i).toNat)
    case atStart => exact ⟨0, .slice none 0 0, [], Nat.zero_le _, rfl, Blk.new _ _ _, Bld.nil _ _, rfl, rfl, (by repeat' (first | (with_reducible exact Below.refl _ _) | (with_reducible assumption) | (with_reducible refine Below.dr ?_ _) | (with_reducible refine Below.d1 ?_) | (with_reducible refine Below.al ?_ _) | (with_reducible refine Below.tr ?_ (by assumption)) | (with_reducible refine Below.drewN ?_ _) | (with_reducible refine Below.drew ?_) | (with_reducible refine Below.alloc ?_ ?_ _) | (with_reducible refine Below.setCell ?_ ?_ _) | (with_reducible refine Below.trans ?_ (Below.mono (by assumption) ?_)) | omega | (simp; done) | (simp; omega) | (simp [*]; done)))⟩
    case round =>
      obtain ⟨k, sv, ts, hk, rfl, hO, hB, hn, hst, hbel⟩ := hrel
      have O := Lib.hid hO
      have HB := Lib.hid hB
      have Hn := Lib.hid hn
      have Hst := Lib.hid hst
      clear hO hB hn hst
      obtain ⟨sv1, sv2, hsv⟩ := HB.out.own.slice
      subst hsv
      have c0 := O.out.cell 0 rfl; have c1 := O.out.cell 1 rfl; have cf0 := O.out.free 0; have cf1 := O.out.free 1; have cz := O.out.lt
      have hsz := hbel.size
      have q0 := Below.cellTo hbel p0
      have q1 := Below.cellTo hbel p1
      by_cases hlt : k < len
      · have hW : Below w.heap.size w wr := B1.out.trans (hbel.mono B1.out.size)
        obtain ⟨b, oo, x, xv, rfl, hx, d0, d1, dA⟩ := StatesAt.at (StatesAt.mono H.out hW) hlt
        obtain ⟨a', len', cap', rfl, hl', HA, Hl'⟩ := ArcsAt.opens dA
        have hb0 := blt d0
        have Hx := Lib.hid hx
        have h4 : len' ≤ 400 := by
          have h5 := arcs_le H400.out hx
          rw [Hl'.out] at h5
          exact h5
        clear hx dA
        obtain ⟨wz, rfl⟩ : ∃ wz : World, wz = wr := ⟨_, rfl⟩
        have HW := Lib.hid hW
        have Hbel := Lib.hid hbel
        clear hW hbel
        go_wp2_with fail
        obtain ⟨wo, hwo⟩ : ∃ wo : World, wo = ((wz.alloc (.cells #[.int .i64 x.fin, .slice a' len' cap'] 55)).alloc (.cells #[.int .i64 x.fin, .slice none 0 0] 55)) := ⟨_, rfl⟩
        have hso : wo.heap.size = wz.heap.size + 1 + 1 := by rw [hwo]; simp
        have bo : Below wz.heap.size wz wo := by rw [hwo]; exact (by repeat' (first | (with_reducible exact Below.refl _ _) | (with_reducible assumption) | (with_reducible refine Below.dr ?_ _) | (with_reducible refine Below.d1 ?_) | (with_reducible refine Below.al ?_ _) | (with_reducible refine Below.tr ?_ (by assumption)) | (with_reducible refine Below.drewN ?_ _) | (with_reducible refine Below.drew ?_) | (with_reducible refine Below.alloc ?_ ?_ _) | (with_reducible refine Below.setCell ?_ ?_ _) | (with_reducible refine Below.trans ?_ (Below.mono (by assumption) ?_)) | omega | (simp; done) | (simp; omega) | (simp [*]; done)))
        have To : Blk wo (wz.heap.size + 1) #[.int .i64 x.fin, .slice none 0 0] 55 := by rw [hwo]; exact Blk.new' _ _ _ (by simp)
        rw [← hwo]
        have Hso := Lib.hid hso
        clear hwo hso
        go_loopw [35] (fun i wi => ∃ (j : Nat) (av1 : Option Addr) (av2 : Nat), j ≤ len' ∧ i = .int .i64 j ∧ Blk wi (wz.heap.size + 1) #[.int .i64 x.fin, .slice av1 j av2] 55 ∧ wi.ownsRow (wz.heap.size + 1 + 1) 59 4 (.slice av1 j av2) j (((x.arcs.take j).map turnWr).flatMap arCells) ∧
          Below (wz.heap.size + 1) wo wi) (fun i _ => len' - (intOf i).toNat)
        case atStart => exact ⟨0, none, 0, Nat.zero_le _, rfl, To, World.ownsRow_nil _ _ _ _, Below.refl _ _⟩
        case round =>
          obtain ⟨wi, rfl⟩ : ∃ wi : World, wi = wr := ⟨_, rfl⟩
          obtain ⟨j, av1, av2, hj, rfl, hT, hown, hbi⟩ := hrel
          have T := Lib.hid hT
          have Hown := Lib.hid hown
          have hsi := hbi.size
          rw [Hso.out] at hsi
          have bi : Below wz.heap.size wz wi := bo.trans (hbi.mono (by omega))
          have Hbi := Lib.hid hbi
          clear hT hown hbi
          have t0 := T.out.cell 0 rfl; have t1 := T.out.cell 1 rfl; have tf0 := T.out.free 0; have tf1 := T.out.free 1; have tz := T.out.lt
          by_cases hlj : j < len'
          · obtain ⟨b', o', y, rfl, hy, e0, e1, e2, e3⟩ := ArcsAt.at (ArcsAt.mono HA.out bi) hlj
            have hb2 := blt e0
            have Hy := Lib.hid hy
            have hlen : ((x.arcs.take j).map turnWr).length = j := by
              rw [List.length_map, List.length_take, Hl'.out]; omega
            have Hlen := Lib.hid hlen
            clear hy hlen
            obtain ⟨yi, yo, yw, yt⟩ := y
            simp only at e0 e1 e2 e3
            go_wp2_with fail
            have X1 := Blk.new wi #[.int .i64 yi, .int .i64 yo, .int .i64 yw, .int .i64 yt] 59
            have T1 := T.out.al (.cells #[.int .i64 yi, .int .i64 yo, .int .i64 yw, .int .i64 yt] 59)
            refine region_any (ArcS (wz.heap.size + 1) wi.heap.size _ _ _ _ _) 8 9 rfl (by kernel_rfl) (ArcS.mk T1.d1 X1.d1) (fun hS => ?_)
            unfold ArcS at hS ⊢
            (refine any_take 0 (v := ?_) (by kernel_rfl) rfl rfl (by kernel_rfl) (by kernel_rfl) (by kernel_rfl) (fun _ _ _ h => h) (Or.inl ⟨by rfl, ?_⟩) (by assumption) ?_; rotate_left; (focus (intro w' hS'; (try dsimp only at hS'); go_split_ands; go_simp; try with_reducible rfl)); try simp only [Act.put, List.setIfInBounds_toArray, List.set_cons_zero, List.set_cons_succ])
            (refine any_take 1 (v := ?_) (by kernel_rfl) rfl rfl (by kernel_rfl) (by kernel_rfl) (by kernel_rfl) (fun _ _ _ h => h) (Or.inl ⟨by rfl, ?_⟩) (by assumption) ?_; rotate_left; (focus (intro w' hS'; (try dsimp only at hS'); go_split_ands; go_simp; try with_reducible rfl)); try simp only [Act.put, List.setIfInBounds_toArray, List.set_cons_zero, List.set_cons_succ])
            (refine any_take 2 (v := ?_) (by kernel_rfl) rfl rfl (by kernel_rfl) (by kernel_rfl) (by kernel_rfl) (fun _ _ _ h => h) (Or.inl ⟨by rfl, ?_⟩) (by assumption) ?_; rotate_left; (focus (intro w' hS'; (try dsimp only at hS'); go_split_ands; go_simp; try with_reducible rfl)); try simp only [Act.put, List.setIfInBounds_toArray, List.set_cons_zero, List.set_cons_succ])
            (refine any_take 3 (v := ?_) (by kernel_rfl) rfl rfl (by kernel_rfl) (by kernel_rfl) (by kernel_rfl) (fun _ _ _ h => h) (Or.inl ⟨by rfl, ?_⟩) (by assumption) ?_; rotate_left; (focus (intro w' hS'; (try dsimp only at hS'); go_split_ands; go_simp; try with_reducible rfl)); try simp only [Act.put, List.setIfInBounds_toArray, List.set_cons_zero, List.set_cons_succ])
            refine any_one 4 (by kernel_rfl) rfl (fun K hK => ?_)
            go_wp2_with (go_at_call 50; refine (turn_clo_Writes _ _ _ _ _).mono ?_; rintro e w2 ⟨rfl, b2⟩)
            have X2 := X1.d1.to b2
            have T2 := T1.d1.to b2
            clear hS
            refine any_hand hK (fun _ => ArcS.mk T2 X2) (fun hx => ?_)
            clear hx hK K
            refine any_one 5 (by kernel_rfl) rfl (fun K hK => ?_)
            rw [if_pos (by rfl)]
            go_simp
            refine any_hand hK (fun _ => ArcS.mk (T2.al _) (X2.al _)) (fun hx => ?_)
            clear hx hK K
            refine any_one 6 (by kernel_rfl) rfl (fun K hK => ?_)
            have bW : Below wi.heap.size wi (w2.alloc (.cells #[.int .i64 (turnWr ⟨yi, yo, yw, yt⟩).i, .int .i64 (turnWr ⟨yi, yo, yw, yt⟩).o, .int .i64 (turnWr ⟨yi, yo, yw, yt⟩).w, .int .i64 (turnWr ⟨yi, yo, yw, yt⟩).t] 59)) := (by repeat' (first | (with_reducible exact Below.refl _ _) | (with_reducible assumption) | (with_reducible refine Below.dr ?_ _) | (with_reducible refine Below.d1 ?_) | (with_reducible refine Below.al ?_ _) | (with_reducible refine Below.tr ?_ (by assumption)) | (with_reducible refine Below.drewN ?_ _) | (with_reducible refine Below.drew ?_) | (with_reducible refine Below.alloc ?_ ?_ _) | (with_reducible refine Below.setCell ?_ ?_ _) | (with_reducible refine Below.trans ?_ (Below.mono (by assumption) ?_)) | omega | (simp; done) | (simp; omega) | (simp [*]; done)))
            refine step_append_n rfl _ _ 53 rfl (wz.heap.size + 1 + 1) 59 4 32 (.agg #[.int .i64 0, .int .i64 0, .int .i64 0, .int .i64 0]) Try.underlying53 (by kernel_rfl) rfl (by omega) (by omega) arCells arCells_len _ ((x.arcs.take j).map turnWr) j Hlen.out rfl (Hown.out.below bW) (turnWr ⟨yi, yo, yw, yt⟩) (arCells_one _) ⟨w2.heap.size, 0, none⟩ 1 rfl (new_row_cells' _ (arCells (turnWr ⟨yi, yo, yw, yt⟩)) _ _ (by simp)) (by omega) (by have := bW.size; simp at this ⊢; omega) ?_
            intro v3 w3 own3 hv3 gr3
            have hst := arc_step (y := turnWr ⟨yi, yo, yw, yt⟩) (by omega) hsi T.out Hown.out Hbi.out bW own3 gr3
            obtain ⟨g3, cap3, rfl, -, -⟩ := hv3
            obtain ⟨k1, k2, k3, k4, k5⟩ := hst
            have X3 := (X2.al _).grown gr3 (fun e => by have := (Hown.out.lt _ e.symm).2; omega)
            have K1 := Lib.hid k1
            have K2 := Lib.hid k2
            have K3 := Lib.hid k3
            have K5 := Lib.hid k5
            have HX3 := Lib.hid X3
            clear k1 k2 k3 k5 own3 gr3 X3
            refine any_hand hK (fun _ => ArcS.mk K5.out HX3.out) (fun hx => ?_)
            clear hx hK K
            have hS := ArcS.mk K5.out HX3.out
            (refine any_take 7 (v := ?_) (by kernel_rfl) rfl rfl (by kernel_rfl) (by kernel_rfl) (by kernel_rfl) (fun _ _ _ h => h) (Or.inl ⟨by rfl, ?_⟩) (by assumption) ?_; rotate_left; (focus (intro w' hS'; (try dsimp only at hS'); go_split_ands; go_simp; try with_reducible rfl)); try simp only [Act.put, List.setIfInBounds_toArray, List.set_cons_zero, List.set_cons_succ])
            clear hS
            refine any_one 8 (by kernel_rfl) rfl (fun K hK => ?_)
            have t1' := K5.out.cell 1 rfl
            have t1f := K5.out.free 1
            rw [if_pos (by rfl)]
            go_simp
            refine any_hand hK (fun h => absurd rfl h) (fun hx => ?_)
            clear hx hK K
            refine any_done (by kernel_rfl) ?_
            go_wp2_with fail
            go_roundw
            case rel => exact ⟨j + 1, _, _, by omega, by go_num, K1.out, by rw [take_snoc Hy.out, List.map_append]; exact K2.out, K3.out⟩
            case measure => simp [intOf]; omega
          · have hfull : x.arcs.take j = x.arcs := List.take_of_length_le (by rw [Hl'.out]; omega)
            rw [hfull] at Hown
            obtain rfl : len' = j := by omega
            have hlen : (x.arcs.map turnWr).length = len' := by rw [List.length_map]; exact Hl'.out
            have Hlen := Lib.hid hlen
            clear hfull hlen
            have hci : Blk wi w1.heap.size #[.int .i64 st, .slice sv1 ts.length sv2] 24 := O.out.to bi
            have Oi := Lib.hid hci
            clear hci
            have z0 := Oi.out.cell 0 rfl; have z1 := Oi.out.cell 1 rfl; have zf0 := Oi.out.free 0; have zf1 := Oi.out.free 1; have zz := Oi.out.lt
            go_wp2_with (at_builtin; refine Mark.intro ?_)
            refine Mark.out ?_
            have bW : Below wz.heap.size wz (wi.alloc (.cells #[.int .i64 x.fin, .slice av1 len' av2] 55)) := (by repeat' (first | (with_reducible exact Below.refl _ _) | (with_reducible assumption) | (with_reducible refine Below.dr ?_ _) | (with_reducible refine Below.d1 ?_) | (with_reducible refine Below.al ?_ _) | (with_reducible refine Below.tr ?_ (by assumption)) | (with_reducible refine Below.drewN ?_ _) | (with_reducible refine Below.drew ?_) | (with_reducible refine Below.alloc ?_ ?_ _) | (with_reducible refine Below.setCell ?_ ?_ _) | (with_reducible refine Below.trans ?_ (Below.mono (by assumption) ?_)) | omega | (simp; done) | (simp; omega) | (simp [*]; done)))
            refine wpList_append_at rfl _ _ 22 rfl (w1.heap.size + 1) 55 2 32 (.agg #[.int .i64 0, .slice none 0 0]) Try.underlying22 (by kernel_rfl) rfl (by omega) (by omega) stCells stCells_len _ ts rfl (Bld.own (Bld.below HB.out bW)) (x.fin, .slice av1 len' av2, x.arcs.map turnWr) (stCells_one _ _ _ _ _) ⟨wi.heap.size, 0, none⟩ 1 rfl (new_row_cells' _ (stCells (x.fin, .slice av1 len' av2, x.arcs.map turnWr)) _ _ (by simp)) (by have := Hn.out; omega) (by simp; omega) ?_
            intro v2 w2 hown2 hv2 hgrow2
            have hps := push_step w1 wz _ w2 _ v2 ts (x.fin, .slice av1 len' av2, x.arcs.map turnWr) (w1.heap.size + 1) (by omega) (by omega) HB.out Hbel.out bW (by rw [Hlen.out]; exact ((Hown.out.lower (by omega)).alloc _)) (by rw [Hlen.out]; omega) (by intro kk hkk; have := (Hown.out.lt kk hkk).1; omega) hown2 hv2 hgrow2
            clear hown2 hgrow2
            obtain ⟨g2, cap2, rfl, -, -⟩ := hv2
            obtain ⟨hfin, hB2, hbel2, hsz2⟩ := hps
            have O2 := Blk.same O.out (hfin w1.heap.size (by omega))
            have y0 := O2.cell 0 rfl; have y1 := O2.cell 1 rfl; have yf0 := O2.free 0; have yf1 := O2.free 1; have yz := O2.lt
            have HO2 := Lib.hid O2
            have HB3 := Lib.hid hB2
            have Hbel2 := Lib.hid hbel2
            clear hfin hB2 hbel2 O2
            go_wp2_with fail
            go_roundw
            case rel => exact ⟨k + 1, _, ts ++ [(x.fin, .slice av1 len' av2, x.arcs.map turnWr)], by omega, by go_num, HO2.out.set 1 _, HB3.out.stored (by simp) _, by simp [Hn.out], by rw [take_snoc Hx.out, List.map_append, List.map_append, Hst.out]; rfl, Hbel2.out.setCell (by simp) _⟩
            case measure => simp [intOf]; omega
      · have hfull : sts.take k = sts := List.take_of_length_le (by rw [Hl.out]; omega)
        rw [hfull] at Hst
        have R2 := R1.out.to hbel
        have r0 := R2.cell 0 rfl; have r1 := R2.cell 1 rfl; have rf0 := R2.free 0; have rf1 := R2.free 1; have rz := R2.lt
        have HR2 := Lib.hid R2
        clear R2 hfull
        go_wp2_with fail
        have R3 := (HR2.out.set 0 (.int .i64 st)).set 1 (.slice sv1 ts.length sv2)
        have hB3 := ((HB.out.stored (p := ⟨w.heap.size + 1, 0, none⟩) (by simp; omega) (.int .i64 st)).stored (p := ⟨w.heap.size + 1, 1, none⟩) (by simp; omega) (.slice sv1 ts.length sv2)).lower (b := w.heap.size) (by omega)
        refine bodyPost_ret (v := .tuple #[.agg #[.int .i64 st, .slice sv1 ts.length sv2], .int .i64 0]) ?_ rfl ⟨_, rfl, ⟨_, _, rfl, hB3, Hst.out, by rw [Hn.out]; omega⟩, ?_⟩
        · have x0 := R3.cell 0 rfl; have x1 := R3.cell 1 rfl; have xf0 := R3.free 0; have xf1 := R3.free 1; have xz := R3.lt
          simp [results, Try.results47, go_sem, x0, x1]
        · exact ((B1.out.trans (hbel.mono B1.out.size)).setCell (by simp) _).setCell (by simp) _
  · have hO : turnOut turnWr ⟨st, sts⟩ = ⟨0, []⟩ := by simp only [turnOut, hE]; exact if_neg hz
    rw [hO, hE]
    have HE := Lib.hid hE
    have hEb : (E != 0) = true := by simp [hz]
    clear hO hE hz
    go_enter Try.func47, Try.ntmps47
    go_wp2_with fail
    refine (core_Check_as E _ ⟨st, sts⟩ _ (HM.out.mono (by repeat' (first | (with_reducible exact Below.refl _ _) | (with_reducible assumption) | (with_reducible refine Below.dr ?_ _) | (with_reducible refine Below.d1 ?_) | (with_reducible refine Below.al ?_ _) | (with_reducible refine Below.tr ?_ (by assumption)) | (with_reducible refine Below.drewN ?_ _) | (with_reducible refine Below.drew ?_) | (with_reducible refine Below.alloc ?_ ?_ _) | (with_reducible refine Below.setCell ?_ ?_ _) | (with_reducible refine Below.trans ?_ (Below.mono (by assumption) ?_)) | omega | (simp; done) | (simp; omega) | (simp [*]; done)))) HE.out).mono ?_
    rintro e w1 ⟨rfl, b1⟩
    have R1 := Blk.to (Blk.new' _ _ _ (n := w.heap.size + 1) (by simp)) b1
    have r0 := R1.cell 0 rfl; have r1 := R1.cell 1 rfl; have rf0 := R1.free 0; have rf1 := R1.free 1; have rz := R1.lt
    have hb1 : Below w.heap.size w w1 := (by repeat' (first | (with_reducible exact Below.refl _ _) | (with_reducible assumption) | (with_reducible refine Below.dr ?_ _) | (with_reducible refine Below.d1 ?_) | (with_reducible refine Below.al ?_ _) | (with_reducible refine Below.tr ?_ (by assumption)) | (with_reducible refine Below.drewN ?_ _) | (with_reducible refine Below.drew ?_) | (with_reducible refine Below.alloc ?_ ?_ _) | (with_reducible refine Below.setCell ?_ ?_ _) | (with_reducible refine Below.trans ?_ (Below.mono (by assumption) ?_)) | omega | (simp; done) | (simp; omega) | (simp [*]; done)))
    go_wp2_with fail
    have R3 := (R1.set 0 (.int .i64 0)).set 1 (.slice none 0 0)
    refine bodyPost_ret (v := .tuple #[.agg #[.int .i64 0, .slice none 0 0], .int .i64 E]) ?_ rfl ⟨_, rfl, MachNew.nil _ _ _, ?_⟩
    · have x0 := R3.cell 0 rfl; have x1 := R3.cell 1 rfl; have xf0 := R3.free 0; have xf1 := R3.free 1; have xz := R3.lt
      simp [results, Try.results47, go_sem, x0, x1]
    · exact (hb1.setCell (by simp) _).setCell (by simp) _

theorem turn_Writes (v : Value) (m : Mach) (w : World) (h : MachAt w v m) : Calls Try.prog 21 #[v] w fun e w' => ∃ mv, e = .returned (.tuple #[mv, .int .i64 (machE m)]) ∧ MachNew w' w.heap.size mv (turnOut turnWr m) ∧ Below w.heap.size w w' := by
  have HM := Lib.hid h
  obtain ⟨a, len, cap, hv, hl, -, -⟩ := MachAt.opens h
  subst hv
  clear h
  go_enter Try.func21, Try.ntmps21
  go_wp2_with fail
  refine (turn_each_Writes _ m _ (HM.out.mono (by repeat' (first | (with_reducible exact Below.refl _ _) | (with_reducible assumption) | (with_reducible refine Below.dr ?_ _) | (with_reducible refine Below.d1 ?_) | (with_reducible refine Below.al ?_ _) | (with_reducible refine Below.tr ?_ (by assumption)) | (with_reducible refine Below.drewN ?_ _) | (with_reducible refine Below.drew ?_) | (with_reducible refine Below.alloc ?_ ?_ _) | (with_reducible refine Below.setCell ?_ ?_ _) | (with_reducible refine Below.trans ?_ (Below.mono (by assumption) ?_)) | omega | (simp; done) | (simp; omega) | (simp [*]; done))))).mono ?_
  rintro e w1 ⟨mv, rfl, hm, hb⟩
  obtain ⟨a1, len1, cap1, hmv, hl1, -⟩ := hm.opens
  subst hmv
  have HN := Lib.hid hm
  clear hm
  have R1 := Blk.to (Blk.new' _ _ _ (n := w.heap.size + 1) (by simp)) hb
  have hb1 : Below w.heap.size w w1 := (by repeat' (first | (with_reducible exact Below.refl _ _) | (with_reducible assumption) | (with_reducible refine Below.dr ?_ _) | (with_reducible refine Below.d1 ?_) | (with_reducible refine Below.al ?_ _) | (with_reducible refine Below.tr ?_ (by assumption)) | (with_reducible refine Below.drewN ?_ _) | (with_reducible refine Below.drew ?_) | (with_reducible refine Below.alloc ?_ ?_ _) | (with_reducible refine Below.setCell ?_ ?_ _) | (with_reducible refine Below.trans ?_ (Below.mono (by assumption) ?_)) | omega | (simp; done) | (simp; omega) | (simp [*]; done)))
  have r0 := R1.cell 0 rfl; have r1 := R1.cell 1 rfl; have rf0 := R1.free 0; have rf1 := R1.free 1; have rz := R1.lt
  go_wp2_with fail
  have R3 := (R1.set 0 (.int .i64 (turnOut turnWr m).start)).set 1 (.slice a1 len1 cap1)
  have HM2 : MachNew ((w1.setCell ⟨w.heap.size + 1, 0, none⟩ (.int .i64 (turnOut turnWr m).start)).setCell ⟨w.heap.size + 1, 1, none⟩ (.slice a1 len1 cap1)) w.heap.size (.agg #[.int .i64 (turnOut turnWr m).start, .slice a1 len1 cap1]) (turnOut turnWr m) :=
    ((HN.out.stored (by simp) _).stored (by simp) _).lower (by simp)
  refine bodyPost_ret (v := .tuple #[.agg #[.int .i64 (turnOut turnWr m).start, .slice a1 len1 cap1], .int .i64 (machE m)]) ?_ rfl ⟨_, rfl, HM2, ?_⟩
  · have x0 := R3.cell 0 rfl; have x1 := R3.cell 1 rfl; have xf0 := R3.free 0; have xf1 := R3.free 1; have xz := R3.lt
    simp [results, Try.results21, go_sem, x0, x1]
  · exact (hb1.setCell (by simp) _).setCell (by simp) _
end Go.Proofs.Ytnnmdcagbcdfpaa
