/- ref.Chained: one behind the other. -/
import Derived.Test.YtnnmdcagbcdfpaaBldX
namespace Go.Proofs.Ytnnmdcagbcdfpaa
open Go.RowKit
set_option linter.unusedSimpArgs false
set_option linter.unusedVariables false

theorem hops_chain {st st2 fin : Int} {sts sts2 : List St} {len : Nat} (hl : sts.length = len) : hopsL (chainTo ⟨st, sts⟩ ⟨st2, sts2⟩) 0 fin = hopsL st2 len fin := by
  unfold hopsL chainTo
  simp only [hl]
  by_cases h : st2 < 0
  · rw [if_pos h, if_pos h]; simp
  · rw [if_neg h, if_neg h, if_neg (by omega), Int.add_zero]

set_option maxRecDepth 100000 in
set_option maxHeartbeats 8000000 in
theorem ref_Chained (v u : Value) (m n : Mach) (w : World) (h : MachAt w v m) (g : MachAt w u n) : Calls Try.prog 39 #[v, u] w fun e w' => ∃ mv, e = .returned (.tuple #[mv, .int .i64 (concatE m n)]) ∧ MachNew w' w.heap.size mv (concatOut m n) ∧ Below w.heap.size w w' := by
  have HM := Lib.hid h
  have GM := Lib.hid g
  obtain ⟨a, len, cap, rfl, hl, H, Hl⟩ := MachAt.opens h
  obtain ⟨a2, len2, cap2, rfl, hl2, G, Gl⟩ := MachAt.opens g
  clear h g
  obtain ⟨E, hE⟩ : ∃ E, twoE m n = E := ⟨_, rfl⟩
  obtain ⟨st, sts⟩ := m
  obtain ⟨st2, sts2⟩ := n
  simp only at H Hl HM G Gl GM hE ⊢
  by_cases hz : E = 0
  · subst hz
    obtain ⟨hEa, hEb⟩ := twoE_zero hE
    have hO : concatOut ⟨st, sts⟩ ⟨st2, sts2⟩ = fitsM (chainedM ⟨st, sts⟩ ⟨st2, sts2⟩) := by unfold concatOut; rw [if_pos hE]
    have hO2 : concatE ⟨st, sts⟩ ⟨st2, sts2⟩ = fitsE (chainedM ⟨st, sts⟩ ⟨st2, sts2⟩) := by unfold concatE; rw [if_pos hE]
    rw [hO, hO2]
    obtain ⟨bm, hbm⟩ : ∃ bm, fitsM (chainedM ⟨st, sts⟩ ⟨st2, sts2⟩) = bm := ⟨_, rfl⟩
    obtain ⟨be, hbe⟩ : ∃ be, fitsE (chainedM ⟨st, sts⟩ ⟨st2, sts2⟩) = be := ⟨_, rfl⟩
    rw [hbm, hbe]
    have HBM := Lib.hid hbm
    have HBE := Lib.hid hbe
    clear hbm hbe
    have HG := Lib.hid (good_arcs hEa)
    have HG2 := Lib.hid (good_arcs hEb)
    have HEa := Lib.hid hEa
    have HEb := Lib.hid hEb
    have h60 : len ≤ 60 := by have := HG.out.1; rw [Hl.out] at this; exact this
    have h62 : len2 ≤ 60 := by have := HG2.out.1; rw [Gl.out] at this; exact this
    have hst1 : -1 ≤ st2 := HG2.out.2.2.2.2.1
    have hst2 : st2 < len2 := by have := HG2.out.2.2.2.2.2; rw [Gl.out] at this; exact this
    clear hO hO2 hE hEa hEb
    go_enter Try.func39, Try.ntmps39
    go_wp2_with fail
    refine (ref_Fault_as 0 _ ⟨st, sts⟩ _ (HM.out.mono (by repeat' (first | (with_reducible exact Below.refl _ _) | (with_reducible assumption) | (with_reducible refine Below.dr ?_ _) | (with_reducible refine Below.d1 ?_) | (with_reducible refine Below.al ?_ _) | (with_reducible refine Below.tr ?_ (by assumption)) | (with_reducible refine Below.drewN ?_ _) | (with_reducible refine Below.drew ?_) | (with_reducible refine Below.alloc ?_ ?_ _) | (with_reducible refine Below.setCell ?_ ?_ _) | (with_reducible refine Below.trans ?_ (Below.mono (by assumption) ?_)) | omega | (simp; done) | (simp; omega) | (simp [*]; done)))) HEa.out).mono ?_
    rintro e wa ⟨rfl, ba⟩
    have Na := Lib.hid (Blk.to ((Blk.new' (w.alloc _) _ _ (n := w.heap.size + 1) (by simp)).al _) ba)
    have Ma := Lib.hid (Blk.to (((Blk.new w _ _).al _).al _) ba)
    have Ra := Lib.hid (Blk.to (Blk.new' _ _ _ (n := w.heap.size + 1 + 1) (by simp)) ba)
    have q0 := Na.out.cell 0 rfl; have q1 := Na.out.cell 1 rfl; have qf0 := Na.out.free 0; have qf1 := Na.out.free 1; have qz := Na.out.lt
    go_wp2_with fail
    refine (ref_Fault_as 0 _ ⟨st2, sts2⟩ _ (GM.out.mono (by repeat' (first | (with_reducible exact Below.refl _ _) | (with_reducible assumption) | (with_reducible refine Below.dr ?_ _) | (with_reducible refine Below.d1 ?_) | (with_reducible refine Below.al ?_ _) | (with_reducible refine Below.tr ?_ (by assumption)) | (with_reducible refine Below.drewN ?_ _) | (with_reducible refine Below.drew ?_) | (with_reducible refine Below.alloc ?_ ?_ _) | (with_reducible refine Below.setCell ?_ ?_ _) | (with_reducible refine Below.trans ?_ (Below.mono (by assumption) ?_)) | omega | (simp; done) | (simp; omega) | (simp [*]; done)))) HEb.out).mono ?_
    rintro e w1 ⟨rfl, b1⟩
    have hb1 : Below w.heap.size w w1 := (by repeat' (first | (with_reducible exact Below.refl _ _) | (with_reducible assumption) | (with_reducible refine Below.dr ?_ _) | (with_reducible refine Below.d1 ?_) | (with_reducible refine Below.al ?_ _) | (with_reducible refine Below.tr ?_ (by assumption)) | (with_reducible refine Below.drewN ?_ _) | (with_reducible refine Below.drew ?_) | (with_reducible refine Below.alloc ?_ ?_ _) | (with_reducible refine Below.setCell ?_ ?_ _) | (with_reducible refine Below.trans ?_ (Below.mono (by assumption) ?_)) | omega | (simp; done) | (simp; omega) | (simp [*]; done)))
    have M1 := Lib.hid (Ma.out.to b1)
    have N1 := Lib.hid (Na.out.to b1)
    have R1 := Lib.hid (Ra.out.to b1)
    have hs1 : w.heap.size + 1 + 1 < w1.heap.size := R1.out.lt
    have B1 := Lib.hid hb1
    clear b1 hb1 ba q0 q1 qf0 qf1 qz
    have p0 := M1.out.cell 0 rfl; have p1 := M1.out.cell 1 rfl; have pf0 := M1.out.free 0; have pf1 := M1.out.free 1; have pz := M1.out.lt
    go_wp2_with fail
    clear p0 p1 pf0 pf1 pz
    go_loopw [9] (fun i wr => ∃ (k : Nat) (sv : Value) (ts : List (Int × Value × List Ar)), k ≤ len ∧ i = .int .i64 k ∧ Blk wr w1.heap.size #[.int .i64 st, sv] 24 ∧
      BldX wr w1.heap.size w1.heap.size sv ts ∧ ts.length = k ∧ forgets ts = ((sts.take k).map (shiftSt 0)).map (looseSt (chainTo ⟨st, sts⟩ ⟨st2, sts2⟩)) ∧ Below w1.heap.size w1 wr) (fun i _ => len - (intOf i).toNat)
    case atStart => exact ⟨0, _, [], Nat.zero_le _, rfl, Blk.new _ _ _, BldX.nil _ _ _, rfl, rfl, (by repeat' (first | (with_reducible exact Below.refl _ _) | (with_reducible assumption) | (with_reducible refine Below.dr ?_ _) | (with_reducible refine Below.d1 ?_) | (with_reducible refine Below.al ?_ _) | (with_reducible refine Below.tr ?_ (by assumption)) | (with_reducible refine Below.drewN ?_ _) | (with_reducible refine Below.drew ?_) | (with_reducible refine Below.alloc ?_ ?_ _) | (with_reducible refine Below.setCell ?_ ?_ _) | (with_reducible refine Below.trans ?_ (Below.mono (by assumption) ?_)) | omega | (simp; done) | (simp; omega) | (simp [*]; done)))⟩
    case round =>
      obtain ⟨wz, rfl⟩ : ∃ wz : World, wz = wr := ⟨_, rfl⟩
      obtain ⟨k, sv, ts, hk, rfl, hO, hB, hn', hst', hbel⟩ := hrel
      have O := Lib.hid hO
      have HB := Lib.hid hB
      have Hn := Lib.hid hn'
      have Hst := Lib.hid hst'
      have Hbel := Lib.hid hbel
      have hOz := hO.lt
      have hsz := hbel.size
      have htl : ts.length ≤ 130 := by omega
      obtain ⟨sv3, sv4, hsv⟩ := HB.out.bld.own.slice
      subst hsv
      have Mz := Lib.hid (M1.out.to hbel)
      clear hO hB hn' hst'
      have p0 := Mz.out.cell 0 rfl; have p1 := Mz.out.cell 1 rfl; have pf0 := Mz.out.free 0; have pf1 := Mz.out.free 1; have pz := Mz.out.lt
      have c0 := O.out.cell 0 rfl; have c1 := O.out.cell 1 rfl; have cf0 := O.out.free 0; have cf1 := O.out.free 1; have cz := O.out.lt
      by_cases hlt : k < len
      · have hWz : Below w.heap.size w wz := B1.out.trans (hbel.mono B1.out.size)
        have HWz := Lib.hid hWz
        obtain ⟨b, oo, x, xv, rfl, hx, dw0, dw1, dA⟩ := StatesAt.at H.out hlt
        have DW0 := Lib.hid dw0
        obtain ⟨a', len', cap', rfl, hl', HA, Hl'⟩ := ArcsAt.opens (ArcsAt.mono dA hWz)
        have DW1 := Lib.hid dw1
        have d0 := Below.cellTo hWz dw0
        have d1 := Below.cellTo hWz dw1
        clear dw0 dw1
        have hb0 := blt d0
        have Hx := Lib.hid hx
        have hxm := List.mem_of_getElem? hx
        have HGx := Lib.hid (HG.out.2.2.1 x hxm)
        have h4 : x.arcs.length ≤ 400 := HG.out.2.2.2.1 x hxm
        have hfo := ((machE_zero HEa.out).2.2.2 x hxm).1
        simp only [finOk, decide_eq_true_eq] at hfo
        clear hx dA hxm hbel hWz
        obtain ⟨fin, arcs⟩ := x
        simp only at d0 Hl' h4 hfo HA HGx DW0
        have Nz := Lib.hid (N1.out.to Hbel.out)
        by_cases hfin : fin = 1000000001
        · subst hfin
          have hloose : looseSt (chainTo ⟨st, sts⟩ ⟨st2, sts2⟩) (shiftSt 0 ⟨1000000001, arcs⟩) = ⟨1000000001, arcs.map (shiftAr 0) ++ []⟩ := by unfold looseSt shiftSt; simp
          have HLO := Lib.hid hloose
          clear hloose
          have HMo : Hid (ArcsAt wz (.slice none 0 0) []) := SlAt.nil _ _ _ _
          go_wp2_with fail
          refine region_any_w (fun w' => w'.cell? ⟨w1.heap.size, 1, none⟩ = some (.slice sv3 ts.length sv4) ∧ w'.cell? ⟨w.heap.size, 1, none⟩ = some (.slice (some ⟨b, oo, none⟩) len cap) ∧ w'.cell? ⟨b, oo + k * 2, none⟩ = some (.int .i64 1000000001) ∧ w'.cell? ⟨b, oo + k * 2 + 1, none⟩ = some (.slice a' len' cap') ∧ w'.frozen? ⟨w1.heap.size, 1, none⟩ = false) 12 13 rfl (by kernel_rfl) ⟨c1, p1, d0, d1, cf1⟩ (fun wd hwd hS => ?_)
          have bd : Below wz.heap.size wz wd := by rw [hwd]; exact (by repeat' (first | (with_reducible exact Below.refl _ _) | (with_reducible assumption) | (with_reducible refine Below.dr ?_ _) | (with_reducible refine Below.d1 ?_) | (with_reducible refine Below.al ?_ _) | (with_reducible refine Below.tr ?_ (by assumption)) | (with_reducible refine Below.drewN ?_ _) | (with_reducible refine Below.drew ?_) | (with_reducible refine Below.alloc ?_ ?_ _) | (with_reducible refine Below.setCell ?_ ?_ _) | (with_reducible refine Below.trans ?_ (Below.mono (by assumption) ?_)) | omega | (simp; done) | (simp; omega) | (simp [*]; done)))
          have Bd := Lib.hid bd
          have Od := Lib.hid (O.out.to bd)
          have HAd := Lib.hid (HA.out.mono bd)
          have HMd := Lib.hid (SlAt.mono HMo.out bd (by omega) arCells_len)
          have hsd := bd.size
          clear hwd bd c0 c1 cf0 cf1 cz p0 p1 pf0 pf1 pz d0 d1
          (refine any_take 0 (v := ?_) (by kernel_rfl) rfl rfl (by kernel_rfl) (by kernel_rfl) (by kernel_rfl) (fun _ _ _ h => h) (Or.inl ⟨by rfl, ?_⟩) (by assumption) ?_; rotate_left; (focus (intro w' hS'; (try dsimp only at hS'); go_split_ands; go_simp; try with_reducible rfl)); try simp only [Act.put, List.setIfInBounds_toArray, List.set_cons_zero, List.set_cons_succ])
          (refine any_take 1 (v := ?_) (by kernel_rfl) rfl rfl (by kernel_rfl) (by kernel_rfl) (by kernel_rfl) (fun _ _ _ h => h) (Or.inl ⟨by rfl, ?_⟩) (by assumption) ?_; rotate_left; (focus (intro w' hS'; (try dsimp only at hS'); go_split_ands; go_simp; try with_reducible rfl)); try simp only [Act.put, List.setIfInBounds_toArray, List.set_cons_zero, List.set_cons_succ])
          (refine any_take 2 (v := ?_) (by kernel_rfl) rfl rfl (by kernel_rfl) (by kernel_rfl) (by kernel_rfl) (fun _ _ _ h => h) (Or.inl ⟨by rfl, ?_⟩) (by assumption) ?_; rotate_left; (focus (intro w' hS'; (try dsimp only at hS'); go_split_ands; go_simp; try with_reducible rfl)); try simp only [Act.put, List.setIfInBounds_toArray, List.set_cons_zero, List.set_cons_succ])
          (refine any_take 3 (v := ?_) (by kernel_rfl) rfl rfl (by kernel_rfl) (by kernel_rfl) (by kernel_rfl) (fun _ _ _ h => h) (Or.inl ⟨by rfl, ?_⟩) (by assumption) ?_; rotate_left; (focus (intro w' hS'; (try dsimp only at hS'); go_split_ands; go_simp; try with_reducible rfl)); try simp only [Act.put, List.setIfInBounds_toArray, List.set_cons_zero, List.set_cons_succ])
          (refine any_take 4 (v := ?_) (by kernel_rfl) rfl rfl (by kernel_rfl) (by kernel_rfl) (by kernel_rfl) (fun _ _ _ h => h) (Or.inl ⟨by rfl, ?_⟩) (by assumption) ?_; rotate_left; (focus (intro w' hS'; (try dsimp only at hS'); go_split_ands; go_simp; try with_reducible rfl)); try simp only [Act.put, List.setIfInBounds_toArray, List.set_cons_zero, List.set_cons_succ])
          (refine any_take 5 (v := ?_) (by kernel_rfl) rfl rfl (by kernel_rfl) (by kernel_rfl) (by kernel_rfl) (fun _ _ _ h => h) (Or.inl ⟨by rfl, ?_⟩) (by assumption) ?_; rotate_left; (focus (intro w' hS'; (try dsimp only at hS'); go_split_ands; go_simp; try with_reducible rfl)); try simp only [Act.put, List.setIfInBounds_toArray, List.set_cons_zero, List.set_cons_succ])
          (refine any_take 6 (v := ?_) (by kernel_rfl) rfl rfl (by kernel_rfl) (by kernel_rfl) (by kernel_rfl) (fun _ _ _ h => h) (Or.inl ⟨by rfl, ?_⟩) (by assumption) ?_; rotate_left; (focus (intro w' hS'; (try dsimp only at hS'); go_split_ands; go_simp; try with_reducible rfl)); try simp only [Act.put, List.setIfInBounds_toArray, List.set_cons_zero, List.set_cons_succ])
          (refine any_take 7 (v := ?_) (by kernel_rfl) rfl rfl (by kernel_rfl) (by kernel_rfl) (by kernel_rfl) (fun _ _ _ h => h) (Or.inl ⟨by rfl, ?_⟩) (by assumption) ?_; rotate_left; (focus (intro w' hS'; (try dsimp only at hS'); go_split_ands; go_simp; try with_reducible rfl)); try simp only [Act.put, List.setIfInBounds_toArray, List.set_cons_zero, List.set_cons_succ])
          refine any_one 8 (by kernel_rfl) rfl (fun K hK => ?_)
          go_wp2_with (go_at_call 64; refine (ref_shifted _ 0 1000000001 _ _ arcs (([] : List Ar)) _ HAd.out HMd.out (by omega) (by simp) (by omega) (fun a ha => by have := HGx.out a ha; omega)).mono ?_; rintro e w5 ⟨sv5, rfl, hs5, b5⟩)
          have hS5 : w5.cell? ⟨w1.heap.size, 1, none⟩ = some (.slice sv3 ts.length sv4) ∧ w5.cell? ⟨w.heap.size, 1, none⟩ = some (.slice (some ⟨b, oo, none⟩) len cap) ∧ w5.cell? ⟨b, oo + k * 2, none⟩ = some (.int .i64 1000000001) ∧ w5.cell? ⟨b, oo + k * 2 + 1, none⟩ = some (.slice a' len' cap') ∧ w5.frozen? ⟨w1.heap.size, 1, none⟩ = false := ⟨Below.cellTo b5 hS.1, Below.cellTo b5 hS.2.1, Below.cellTo b5 hS.2.2.1, Below.cellTo b5 hS.2.2.2.1, (Od.out.to b5).free 1⟩
          have B5 := Lib.hid (Below.tr Bd.out b5)
          have O5 := Lib.hid (Od.out.to b5)
          have hb5s := b5.size
          obtain ⟨a5, cap5, hsv5, Own5⟩ := hs5.opens
          subst hsv5
          simp only at Own5 ⊢
          obtain ⟨n5, hn5⟩ : ∃ n5, (arcs.map (shiftAr 0) ++ (([] : List Ar))).length = n5 := ⟨_, rfl⟩
          have hn5b : n5 ≤ 1000 := by rw [← hn5, List.length_append, List.length_map]; have hml5 : (([] : List Ar)).length ≤ 1 := (by simp); omega
          rw [hn5] at Own5 ⊢
          have HN5 := Lib.hid hn5
          clear hS hs5 b5 hn5
          refine any_hand hK (fun _ => hS5) (fun hx => ?_)
          clear hx hK K
          refine any_one 9 (by kernel_rfl) rfl (fun K hK => ?_)
          rw [if_pos (by rfl)]
          go_simp
          refine any_hand hK (fun _ => ⟨cell_al hS5.1 _, cell_al hS5.2.1 _, cell_al hS5.2.2.1 _, cell_al hS5.2.2.2.1 _, (O5.out.al _).free 1⟩) (fun hx => ?_)
          clear hx hK K
          refine any_one 10 (by kernel_rfl) rfl (fun K hK => ?_)
          have bW5 : Below wz.heap.size wz (w5.alloc (.cells #[.int .i64 1000000001, .slice a5 n5 cap5] 55)) := Below.al B5.out _
          refine step_append_n rfl _ _ 22 rfl w1.heap.size 55 2 32 (.agg #[.int .i64 0, .slice none 0 0]) Try.underlying22 (by kernel_rfl) rfl (by omega) (by omega) stCells stCells_len _ ts ts.length rfl rfl (Bld.own (BldX.below HB.out bW5).bld) (1000000001, .slice a5 n5 cap5, arcs.map (shiftAr 0) ++ (([] : List Ar))) (stCells_one _ _ _ _ _) ⟨w5.heap.size, 0, none⟩ 1 rfl (new_row_cells' _ (stCells (1000000001, .slice a5 n5 cap5, arcs.map (shiftAr 0) ++ (([] : List Ar)))) _ _ (by simp)) (by omega) (by simp; omega) ?_
          intro v6 w6 hown6 hv6 hgrow6
          have hps := BldX.push (x := (1000000001, .slice a5 n5 cap5, arcs.map (shiftAr 0) ++ (([] : List Ar)))) (by omega) hOz HB.out bW5 (by rw [HN5.out]; exact ((Own5.out.lower (by omega)).alloc _)) (by rw [HN5.out]; omega) (by intro kk hkk; have := (Own5.out.lt kk hkk).1; omega) hown6 hv6 hgrow6
          obtain ⟨g6, cap6, rfl, -, -⟩ := hv6
          obtain ⟨b6, hB6, hO6⟩ := hps
          have O6 := Lib.hid (O.out.same hO6)
          have HB6 := Lib.hid hB6
          have b66 := Lib.hid b6
          have hM6 := Lib.hid (Mz.out.under b6 (by omega))
          have hst6 := Lib.hid (HWz.out.trans (b6.mono (by omega)))
          clear hown6 hgrow6 bW5 hB6 b6 hO6
          have hS : w6.cell? ⟨w1.heap.size, 1, none⟩ = some (.slice sv3 ts.length sv4) ∧ w6.cell? ⟨w.heap.size, 1, none⟩ = some (.slice (some ⟨b, oo, none⟩) len cap) ∧ w6.cell? ⟨b, oo + k * 2, none⟩ = some (.int .i64 1000000001) ∧ w6.cell? ⟨b, oo + k * 2 + 1, none⟩ = some (.slice a' len' cap') ∧ w6.frozen? ⟨w1.heap.size, 1, none⟩ = false := ⟨O6.out.cell 1 rfl, hM6.out.cell 1 rfl, Below.cellTo hst6.out DW0.out, Below.cellTo hst6.out DW1.out, O6.out.free 1⟩
          refine any_hand hK (fun _ => hS) (fun hx => ?_)
          clear hx hK K
          (refine any_take 11 (v := ?_) (by kernel_rfl) rfl rfl (by kernel_rfl) (by kernel_rfl) (by kernel_rfl) (fun _ _ _ h => h) (Or.inl ⟨by rfl, ?_⟩) (by assumption) ?_; rotate_left; (focus (intro w' hS'; (try dsimp only at hS'); go_split_ands; go_simp; try with_reducible rfl)); try simp only [Act.put, List.setIfInBounds_toArray, List.set_cons_zero, List.set_cons_succ])
          clear hS
          refine any_one 12 (by kernel_rfl) rfl (fun K hK => ?_)
          have y1 := O6.out.cell 1 rfl
          have yf1 := O6.out.free 1
          rw [if_pos (by rfl)]
          go_simp
          refine any_hand hK (fun h => absurd rfl h) (fun hx => ?_)
          clear hx hK K
          refine any_done (by kernel_rfl) ?_
          go_wp2_with fail
          go_roundw
          case rel => exact ⟨k + 1, _, ts ++ [(1000000001, .slice a5 n5 cap5, arcs.map (shiftAr 0) ++ (([] : List Ar)))], by omega, by go_num, O6.out.set 1 _, HB6.out.stored 1 _, by simp [Hn.out]; try omega, by
            have h1 := Hst.out
            unfold forgets at h1 ⊢
            rw [take_snoc Hx.out]
            rw [List.map_append, List.map_append, List.map_append, h1]
            simp only [List.map_cons, List.map_nil, HLO.out], (Hbel.out.trans b66.out).setCell (by first | exact Nat.le_refl _ | (simp; omega) | omega) _⟩
          case measure => simp [intOf]; omega
        · have hloose : looseSt (chainTo ⟨st, sts⟩ ⟨st2, sts2⟩) (shiftSt 0 ⟨fin, arcs⟩) = ⟨1000000001, arcs.map (shiftAr 0) ++ hopsL st2 len fin⟩ := by
            unfold looseSt shiftSt; simp only [if_neg hfin, hops_chain Hl.out]
          have HLO := Lib.hid hloose
          have hfb : (fin != 1000000001) = true := by simp [hfin]
          clear hloose hfin
          have n0 := Nz.out.cell 0 rfl; have n1 := Nz.out.cell 1 rfl; have nf0 := Nz.out.free 0; have nf1 := Nz.out.free 1; have nz := Nz.out.lt
          go_wp2_with fail
          refine region_any_w (fun w' => w'.cell? ⟨w.heap.size + 1, 0, none⟩ = some (.int .i64 st2) ∧ w'.cell? ⟨w.heap.size, 1, none⟩ = some (.slice (some ⟨b, oo, none⟩) len cap) ∧ w'.cell? ⟨b, oo + k * 2, none⟩ = some (.int .i64 fin)) 10 11 rfl (by kernel_rfl) ⟨n0, p1, d0⟩ (fun wd hwd hS => ?_)
          have bd : Below wz.heap.size wz wd := by rw [hwd]; exact (by repeat' (first | (with_reducible exact Below.refl _ _) | (with_reducible assumption) | (with_reducible refine Below.dr ?_ _) | (with_reducible refine Below.d1 ?_) | (with_reducible refine Below.al ?_ _) | (with_reducible refine Below.tr ?_ (by assumption)) | (with_reducible refine Below.drewN ?_ _) | (with_reducible refine Below.drew ?_) | (with_reducible refine Below.alloc ?_ ?_ _) | (with_reducible refine Below.setCell ?_ ?_ _) | (with_reducible refine Below.trans ?_ (Below.mono (by assumption) ?_)) | omega | (simp; done) | (simp; omega) | (simp [*]; done)))
          have Bd := Lib.hid bd
          clear hwd bd
          (refine any_take 0 (v := ?_) (by kernel_rfl) rfl rfl (by kernel_rfl) (by kernel_rfl) (by kernel_rfl) (fun _ _ _ h => h) (Or.inl ⟨by rfl, ?_⟩) (by assumption) ?_; rotate_left; (focus (intro w' hS'; (try dsimp only at hS'); go_split_ands; go_simp; try with_reducible rfl)); try simp only [Act.put, List.setIfInBounds_toArray, List.set_cons_zero, List.set_cons_succ])
          (refine any_take 1 (v := ?_) (by kernel_rfl) rfl rfl (by kernel_rfl) (by kernel_rfl) (by kernel_rfl) (fun _ _ _ h => h) (Or.inl ⟨by rfl, ?_⟩) (by assumption) ?_; rotate_left; (focus (intro w' hS'; (try dsimp only at hS'); go_split_ands; go_simp; try with_reducible rfl)); try simp only [Act.put, List.setIfInBounds_toArray, List.set_cons_zero, List.set_cons_succ])
          (refine any_take 2 (v := ?_) (by kernel_rfl) rfl rfl (by kernel_rfl) (by kernel_rfl) (by kernel_rfl) (fun _ _ _ h => h) (Or.inl ⟨by rfl, ?_⟩) (by assumption) ?_; rotate_left; (focus (intro w' hS'; (try dsimp only at hS'); go_split_ands; go_simp; try with_reducible rfl)); try simp only [Act.put, List.setIfInBounds_toArray, List.set_cons_zero, List.set_cons_succ])
          (refine any_take 3 (v := ?_) (by kernel_rfl) rfl rfl (by kernel_rfl) (by kernel_rfl) (by kernel_rfl) (fun _ _ _ h => h) (Or.inl ⟨by rfl, ?_⟩) (by assumption) ?_; rotate_left; (focus (intro w' hS'; (try dsimp only at hS'); go_split_ands; go_simp; try with_reducible rfl)); try simp only [Act.put, List.setIfInBounds_toArray, List.set_cons_zero, List.set_cons_succ])
          (refine any_take 4 (v := ?_) (by kernel_rfl) rfl rfl (by kernel_rfl) (by kernel_rfl) (by kernel_rfl) (fun _ _ _ h => h) (Or.inl ⟨by rfl, ?_⟩) (by assumption) ?_; rotate_left; (focus (intro w' hS'; (try dsimp only at hS'); go_split_ands; go_simp; try with_reducible rfl)); try simp only [Act.put, List.setIfInBounds_toArray, List.set_cons_zero, List.set_cons_succ])
          (refine any_take 5 (v := ?_) (by kernel_rfl) rfl rfl (by kernel_rfl) (by kernel_rfl) (by kernel_rfl) (fun _ _ _ h => h) (Or.inl ⟨by rfl, ?_⟩) (by assumption) ?_; rotate_left; (focus (intro w' hS'; (try dsimp only at hS'); go_split_ands; go_simp; try with_reducible rfl)); try simp only [Act.put, List.setIfInBounds_toArray, List.set_cons_zero, List.set_cons_succ])
          (refine any_take 6 (v := ?_) (by kernel_rfl) rfl rfl (by kernel_rfl) (by kernel_rfl) (by kernel_rfl) (fun _ _ _ h => h) (Or.inl ⟨by rfl, ?_⟩) (by assumption) ?_; rotate_left; (focus (intro w' hS'; (try dsimp only at hS'); go_split_ands; go_simp; try with_reducible rfl)); try simp only [Act.put, List.setIfInBounds_toArray, List.set_cons_zero, List.set_cons_succ])
          (refine any_take 7 (v := ?_) (by kernel_rfl) rfl rfl (by kernel_rfl) (by kernel_rfl) (by kernel_rfl) (fun _ _ _ h => h) (Or.inl ⟨by rfl, ?_⟩) (by assumption) ?_; rotate_left; (focus (intro w' hS'; (try dsimp only at hS'); go_split_ands; go_simp; try with_reducible rfl)); try simp only [Act.put, List.setIfInBounds_toArray, List.set_cons_zero, List.set_cons_succ])
          (refine any_take 8 (v := ?_) (by kernel_rfl) rfl rfl (by kernel_rfl) (by kernel_rfl) (by kernel_rfl) (fun _ _ _ h => h) (Or.inl ⟨by rfl, ?_⟩) (by assumption) ?_; rotate_left; (focus (intro w' hS'; (try dsimp only at hS'); go_split_ands; go_simp; try with_reducible rfl)); try simp only [Act.put, List.setIfInBounds_toArray, List.set_cons_zero, List.set_cons_succ])
          refine any_one 9 (by kernel_rfl) rfl (fun K hK => ?_)
          go_wp2_with (go_at_call 63; refine (ref_hops _ _ _ _ (by omega) (by omega)).mono ?_; rintro e w3 ⟨hv3, rfl, ho3, b3'⟩)
          have hS3 : w3.cell? ⟨w.heap.size + 1, 0, none⟩ = some (.int .i64 st2) ∧ w3.cell? ⟨w.heap.size, 1, none⟩ = some (.slice (some ⟨b, oo, none⟩) len cap) ∧ w3.cell? ⟨b, oo + k * 2, none⟩ = some (.int .i64 fin) := ⟨Below.cellTo b3' hS.1, Below.cellTo b3' hS.2.1, Below.cellTo b3' hS.2.2⟩
          clear hS
          refine any_hand hK (fun _ => hS3) (fun hx => ?_)
          clear hx hK K hS3
          refine any_one 10 (by kernel_rfl) rfl (fun K hK => ?_)
          rw [if_pos (by rfl)]
          go_simp
          refine any_hand hK (fun h => absurd rfl h) (fun hx => ?_)
          clear hx hK K
          refine any_done (by kernel_rfl) ?_
          have hml : (hopsL st2 len fin).length ≤ 1 := by unfold hopsL; split <;> simp
          have HMo := Lib.hid (SlAt.of_owns (bytes := 32) arCells_len ho3 (by omega))
          have b3 : Below wz.heap.size wz w3 := Below.tr Bd.out b3'
          clear ho3 b3' n0 n1 nf0 nf1 nz
          have hs3 := b3.size
          have O3 := Lib.hid (O.out.to b3)
          have d0' := Below.cellTo b3 d0
          have d1' := Below.cellTo b3 d1
          have M3 := Lib.hid (Mz.out.to b3)
          have HA3 := Lib.hid (HA.out.mono b3)
          have HB3 := Lib.hid (HB.out.below b3)
          have Hbel3 := Lib.hid (Hbel.out.trans (b3.mono hsz))
          have hsz3 : w1.heap.size ≤ w3.heap.size := by omega
          have hOz3 := O3.out.lt
          have hb03 := blt d0'
          have HW3 := Lib.hid (HWz.out.trans (b3.mono HWz.out.size))
          clear b3 O HB Mz HA Hbel hsz hOz hb0 d0 d1 HWz c0 c1 cf0 cf1 cz p0 p1 pf0 pf1 pz
          have O := O3
          have HB := HB3
          have Mz := M3
          have HA := HA3
          have Hbel := Hbel3
          have hsz := hsz3
          have hOz := hOz3
          have hb0 := hb03
          have d0 := d0'
          have d1 := d1'
          have HWz := HW3
          clear O3 HB3 M3 HA3 Hbel3 hsz3 hOz3 hb03 d0' d1' HW3
          have p0 := Mz.out.cell 0 rfl; have p1 := Mz.out.cell 1 rfl; have pf0 := Mz.out.free 0; have pf1 := Mz.out.free 1; have pz := Mz.out.lt
          have c0 := O.out.cell 0 rfl; have c1 := O.out.cell 1 rfl; have cf0 := O.out.free 0; have cf1 := O.out.free 1; have cz := O.out.lt
          go_wp2_with fail
          refine region_any_w (fun w' => w'.cell? ⟨w1.heap.size, 1, none⟩ = some (.slice sv3 ts.length sv4) ∧ w'.cell? ⟨w.heap.size, 1, none⟩ = some (.slice (some ⟨b, oo, none⟩) len cap) ∧ w'.cell? ⟨b, oo + k * 2, none⟩ = some (.int .i64 fin) ∧ w'.cell? ⟨b, oo + k * 2 + 1, none⟩ = some (.slice a' len' cap') ∧ w'.frozen? ⟨w1.heap.size, 1, none⟩ = false) 12 13 rfl (by kernel_rfl) ⟨c1, p1, d0, d1, cf1⟩ (fun wd hwd hS => ?_)
          have bd : Below w3.heap.size w3 wd := by rw [hwd]; exact (by repeat' (first | (with_reducible exact Below.refl _ _) | (with_reducible assumption) | (with_reducible refine Below.dr ?_ _) | (with_reducible refine Below.d1 ?_) | (with_reducible refine Below.al ?_ _) | (with_reducible refine Below.tr ?_ (by assumption)) | (with_reducible refine Below.drewN ?_ _) | (with_reducible refine Below.drew ?_) | (with_reducible refine Below.alloc ?_ ?_ _) | (with_reducible refine Below.setCell ?_ ?_ _) | (with_reducible refine Below.trans ?_ (Below.mono (by assumption) ?_)) | omega | (simp; done) | (simp; omega) | (simp [*]; done)))
          have Bd := Lib.hid bd
          have Od := Lib.hid (O.out.to bd)
          have HAd := Lib.hid (HA.out.mono bd)
          have HMd := Lib.hid (SlAt.mono HMo.out bd (by omega) arCells_len)
          have hsd := bd.size
          clear hwd bd c0 c1 cf0 cf1 cz p0 p1 pf0 pf1 pz d0 d1
          (refine any_take 0 (v := ?_) (by kernel_rfl) rfl rfl (by kernel_rfl) (by kernel_rfl) (by kernel_rfl) (fun _ _ _ h => h) (Or.inl ⟨by rfl, ?_⟩) (by assumption) ?_; rotate_left; (focus (intro w' hS'; (try dsimp only at hS'); go_split_ands; go_simp; try with_reducible rfl)); try simp only [Act.put, List.setIfInBounds_toArray, List.set_cons_zero, List.set_cons_succ])
          (refine any_take 1 (v := ?_) (by kernel_rfl) rfl rfl (by kernel_rfl) (by kernel_rfl) (by kernel_rfl) (fun _ _ _ h => h) (Or.inl ⟨by rfl, ?_⟩) (by assumption) ?_; rotate_left; (focus (intro w' hS'; (try dsimp only at hS'); go_split_ands; go_simp; try with_reducible rfl)); try simp only [Act.put, List.setIfInBounds_toArray, List.set_cons_zero, List.set_cons_succ])
          (refine any_take 2 (v := ?_) (by kernel_rfl) rfl rfl (by kernel_rfl) (by kernel_rfl) (by kernel_rfl) (fun _ _ _ h => h) (Or.inl ⟨by rfl, ?_⟩) (by assumption) ?_; rotate_left; (focus (intro w' hS'; (try dsimp only at hS'); go_split_ands; go_simp; try with_reducible rfl)); try simp only [Act.put, List.setIfInBounds_toArray, List.set_cons_zero, List.set_cons_succ])
          (refine any_take 3 (v := ?_) (by kernel_rfl) rfl rfl (by kernel_rfl) (by kernel_rfl) (by kernel_rfl) (fun _ _ _ h => h) (Or.inl ⟨by rfl, ?_⟩) (by assumption) ?_; rotate_left; (focus (intro w' hS'; (try dsimp only at hS'); go_split_ands; go_simp; try with_reducible rfl)); try simp only [Act.put, List.setIfInBounds_toArray, List.set_cons_zero, List.set_cons_succ])
          (refine any_take 4 (v := ?_) (by kernel_rfl) rfl rfl (by kernel_rfl) (by kernel_rfl) (by kernel_rfl) (fun _ _ _ h => h) (Or.inl ⟨by rfl, ?_⟩) (by assumption) ?_; rotate_left; (focus (intro w' hS'; (try dsimp only at hS'); go_split_ands; go_simp; try with_reducible rfl)); try simp only [Act.put, List.setIfInBounds_toArray, List.set_cons_zero, List.set_cons_succ])
          (refine any_take 5 (v := ?_) (by kernel_rfl) rfl rfl (by kernel_rfl) (by kernel_rfl) (by kernel_rfl) (fun _ _ _ h => h) (Or.inl ⟨by rfl, ?_⟩) (by assumption) ?_; rotate_left; (focus (intro w' hS'; (try dsimp only at hS'); go_split_ands; go_simp; try with_reducible rfl)); try simp only [Act.put, List.setIfInBounds_toArray, List.set_cons_zero, List.set_cons_succ])
          (refine any_take 6 (v := ?_) (by kernel_rfl) rfl rfl (by kernel_rfl) (by kernel_rfl) (by kernel_rfl) (fun _ _ _ h => h) (Or.inl ⟨by rfl, ?_⟩) (by assumption) ?_; rotate_left; (focus (intro w' hS'; (try dsimp only at hS'); go_split_ands; go_simp; try with_reducible rfl)); try simp only [Act.put, List.setIfInBounds_toArray, List.set_cons_zero, List.set_cons_succ])
          (refine any_take 7 (v := ?_) (by kernel_rfl) rfl rfl (by kernel_rfl) (by kernel_rfl) (by kernel_rfl) (fun _ _ _ h => h) (Or.inl ⟨by rfl, ?_⟩) (by assumption) ?_; rotate_left; (focus (intro w' hS'; (try dsimp only at hS'); go_split_ands; go_simp; try with_reducible rfl)); try simp only [Act.put, List.setIfInBounds_toArray, List.set_cons_zero, List.set_cons_succ])
          refine any_one 8 (by kernel_rfl) rfl (fun K hK => ?_)
          go_wp2_with (go_at_call 64; refine (ref_shifted _ 0 1000000001 _ _ arcs (hopsL st2 len fin) _ HAd.out HMd.out (by omega) (by omega) (by omega) (fun a ha => by have := HGx.out a ha; omega)).mono ?_; rintro e w5 ⟨sv5, rfl, hs5, b5⟩)
          have hS5 : w5.cell? ⟨w1.heap.size, 1, none⟩ = some (.slice sv3 ts.length sv4) ∧ w5.cell? ⟨w.heap.size, 1, none⟩ = some (.slice (some ⟨b, oo, none⟩) len cap) ∧ w5.cell? ⟨b, oo + k * 2, none⟩ = some (.int .i64 fin) ∧ w5.cell? ⟨b, oo + k * 2 + 1, none⟩ = some (.slice a' len' cap') ∧ w5.frozen? ⟨w1.heap.size, 1, none⟩ = false := ⟨Below.cellTo b5 hS.1, Below.cellTo b5 hS.2.1, Below.cellTo b5 hS.2.2.1, Below.cellTo b5 hS.2.2.2.1, (Od.out.to b5).free 1⟩
          have B5 := Lib.hid (Below.tr Bd.out b5)
          have O5 := Lib.hid (Od.out.to b5)
          have hb5s := b5.size
          obtain ⟨a5, cap5, hsv5, Own5⟩ := hs5.opens
          subst hsv5
          simp only at Own5 ⊢
          obtain ⟨n5, hn5⟩ : ∃ n5, (arcs.map (shiftAr 0) ++ (hopsL st2 len fin)).length = n5 := ⟨_, rfl⟩
          have hn5b : n5 ≤ 1000 := by rw [← hn5, List.length_append, List.length_map]; have hml5 : (hopsL st2 len fin).length ≤ 1 := hml; omega
          rw [hn5] at Own5 ⊢
          have HN5 := Lib.hid hn5
          clear hS hs5 b5 hn5
          refine any_hand hK (fun _ => hS5) (fun hx => ?_)
          clear hx hK K
          refine any_one 9 (by kernel_rfl) rfl (fun K hK => ?_)
          rw [if_pos (by rfl)]
          go_simp
          refine any_hand hK (fun _ => ⟨cell_al hS5.1 _, cell_al hS5.2.1 _, cell_al hS5.2.2.1 _, cell_al hS5.2.2.2.1 _, (O5.out.al _).free 1⟩) (fun hx => ?_)
          clear hx hK K
          refine any_one 10 (by kernel_rfl) rfl (fun K hK => ?_)
          have bW5 : Below w3.heap.size w3 (w5.alloc (.cells #[.int .i64 1000000001, .slice a5 n5 cap5] 55)) := Below.al B5.out _
          refine step_append_n rfl _ _ 22 rfl w1.heap.size 55 2 32 (.agg #[.int .i64 0, .slice none 0 0]) Try.underlying22 (by kernel_rfl) rfl (by omega) (by omega) stCells stCells_len _ ts ts.length rfl rfl (Bld.own (BldX.below HB.out bW5).bld) (1000000001, .slice a5 n5 cap5, arcs.map (shiftAr 0) ++ (hopsL st2 len fin)) (stCells_one _ _ _ _ _) ⟨w5.heap.size, 0, none⟩ 1 rfl (new_row_cells' _ (stCells (1000000001, .slice a5 n5 cap5, arcs.map (shiftAr 0) ++ (hopsL st2 len fin))) _ _ (by simp)) (by omega) (by simp; omega) ?_
          intro v6 w6 hown6 hv6 hgrow6
          have hps := BldX.push (x := (1000000001, .slice a5 n5 cap5, arcs.map (shiftAr 0) ++ (hopsL st2 len fin))) (by omega) hOz HB.out bW5 (by rw [HN5.out]; exact ((Own5.out.lower (by omega)).alloc _)) (by rw [HN5.out]; omega) (by intro kk hkk; have := (Own5.out.lt kk hkk).1; omega) hown6 hv6 hgrow6
          obtain ⟨g6, cap6, rfl, -, -⟩ := hv6
          obtain ⟨b6, hB6, hO6⟩ := hps
          have O6 := Lib.hid (O.out.same hO6)
          have HB6 := Lib.hid hB6
          have b66 := Lib.hid b6
          have hM6 := Lib.hid (Mz.out.under b6 (by omega))
          have hst6 := Lib.hid (HWz.out.trans (b6.mono (by omega)))
          clear hown6 hgrow6 bW5 hB6 b6 hO6
          have hS : w6.cell? ⟨w1.heap.size, 1, none⟩ = some (.slice sv3 ts.length sv4) ∧ w6.cell? ⟨w.heap.size, 1, none⟩ = some (.slice (some ⟨b, oo, none⟩) len cap) ∧ w6.cell? ⟨b, oo + k * 2, none⟩ = some (.int .i64 fin) ∧ w6.cell? ⟨b, oo + k * 2 + 1, none⟩ = some (.slice a' len' cap') ∧ w6.frozen? ⟨w1.heap.size, 1, none⟩ = false := ⟨O6.out.cell 1 rfl, hM6.out.cell 1 rfl, Below.cellTo hst6.out DW0.out, Below.cellTo hst6.out DW1.out, O6.out.free 1⟩
          refine any_hand hK (fun _ => hS) (fun hx => ?_)
          clear hx hK K
          (refine any_take 11 (v := ?_) (by kernel_rfl) rfl rfl (by kernel_rfl) (by kernel_rfl) (by kernel_rfl) (fun _ _ _ h => h) (Or.inl ⟨by rfl, ?_⟩) (by assumption) ?_; rotate_left; (focus (intro w' hS'; (try dsimp only at hS'); go_split_ands; go_simp; try with_reducible rfl)); try simp only [Act.put, List.setIfInBounds_toArray, List.set_cons_zero, List.set_cons_succ])
          clear hS
          refine any_one 12 (by kernel_rfl) rfl (fun K hK => ?_)
          have y1 := O6.out.cell 1 rfl
          have yf1 := O6.out.free 1
          rw [if_pos (by rfl)]
          go_simp
          refine any_hand hK (fun h => absurd rfl h) (fun hx => ?_)
          clear hx hK K
          refine any_done (by kernel_rfl) ?_
          go_wp2_with fail
          go_roundw
          case rel => exact ⟨k + 1, _, ts ++ [(1000000001, .slice a5 n5 cap5, arcs.map (shiftAr 0) ++ (hopsL st2 len fin))], by omega, by go_num, O6.out.set 1 _, HB6.out.stored 1 _, by simp [Hn.out]; try omega, by
            have h1 := Hst.out
            unfold forgets at h1 ⊢
            rw [take_snoc Hx.out]
            rw [List.map_append, List.map_append, List.map_append, h1]
            simp only [List.map_cons, List.map_nil, HLO.out], (Hbel.out.trans b66.out).setCell (by first | exact Nat.le_refl _ | (simp; omega) | omega) _⟩
          case measure => simp [intOf]; omega
      · have hfull : sts.take k = sts := List.take_of_length_le (by rw [Hl.out]; omega)
        rw [hfull] at Hst
        obtain rfl : k = len := by omega
        clear hfull p0 p1 pf0 pf1 pz c0 c1 cf0 cf1 cz Mz hbel
        obtain ⟨wy, rfl⟩ : ∃ wy : World, wy = wz := ⟨_, rfl⟩
        go_wp2_with fail
        go_loopw [11] (fun i wr => ∃ (q : Nat) (sv : Value) (ts : List (Int × Value × List Ar)), q ≤ len2 ∧ i = .int .i64 q ∧ Blk wr w1.heap.size #[.int .i64 st, sv] 24 ∧
          BldX wr w1.heap.size w1.heap.size sv ts ∧ ts.length = k + q ∧ forgets ts = (sts.map (shiftSt 0)).map (looseSt (chainTo ⟨st, sts⟩ ⟨st2, sts2⟩)) ++ (sts2.take q).map (shiftSt k) ∧ Below w1.heap.size w1 wr) (fun i _ => len2 - (intOf i).toNat)
        case atStart => exact ⟨0, _, ts, Nat.zero_le _, rfl, O.out, HB.out, Hn.out, by simpa using Hst.out, Hbel.out⟩
        case round =>
          clear hk O HB Hn Hst Hbel hOz hsz htl hlt
          obtain ⟨wz, rfl⟩ : ∃ wz : World, wz = wr := ⟨_, rfl⟩
          obtain ⟨q, sv, ts, hq, rfl, hO, hB, hn', hst', hbel⟩ := hrel
          have O := Lib.hid hO
          have HB := Lib.hid hB
          have Hn := Lib.hid hn'
          have Hst := Lib.hid hst'
          have Hbel := Lib.hid hbel
          have hOz := hO.lt
          have hsz := hbel.size
          have htl : ts.length ≤ 130 := by omega
          obtain ⟨sv3, sv4, hsv⟩ := HB.out.bld.own.slice
          subst hsv
          have Mz := Lib.hid (N1.out.to hbel)
          clear hO hB hn' hst'
          have p0 := Mz.out.cell 0 rfl; have p1 := Mz.out.cell 1 rfl; have pf0 := Mz.out.free 0; have pf1 := Mz.out.free 1; have pz := Mz.out.lt
          have c0 := O.out.cell 0 rfl; have c1 := O.out.cell 1 rfl; have cf0 := O.out.free 0; have cf1 := O.out.free 1; have cz := O.out.lt
          by_cases hlt : q < len2
          · have hWz : Below w.heap.size w wz := B1.out.trans (hbel.mono B1.out.size)
            have HWz := Lib.hid hWz
            obtain ⟨b, oo, x, xv, rfl, hx, dw0, dw1, dA⟩ := StatesAt.at G.out hlt
            have DW0 := Lib.hid dw0
            obtain ⟨a', len', cap', rfl, hl', HA, Hl'⟩ := ArcsAt.opens (ArcsAt.mono dA hWz)
            have DW1 := Lib.hid dw1
            have d0 := Below.cellTo hWz dw0
            have d1 := Below.cellTo hWz dw1
            clear dw0 dw1
            have hb0 := blt d0
            have Hx := Lib.hid hx
            have hxm := List.mem_of_getElem? hx
            have HGx := Lib.hid (HG2.out.2.2.1 x hxm)
            have h4 : x.arcs.length ≤ 400 := HG2.out.2.2.2.1 x hxm
            have hfo := ((machE_zero HEb.out).2.2.2 x hxm).1
            simp only [finOk, decide_eq_true_eq] at hfo
            clear hx dA hxm hbel hWz
            obtain ⟨fin, arcs⟩ := x
            simp only at d0 Hl' h4 hfo HA HGx DW0
            have HMo : Hid (ArcsAt wz (.slice none 0 0) []) := SlAt.nil _ _ _ _
            go_wp2_with fail
            refine region_any_w (fun w' => w'.cell? ⟨w1.heap.size, 1, none⟩ = some (.slice sv3 ts.length sv4) ∧ w'.cell? ⟨w.heap.size + 1, 1, none⟩ = some (.slice (some ⟨b, oo, none⟩) len2 cap2) ∧ w'.cell? ⟨b, oo + q * 2, none⟩ = some (.int .i64 fin) ∧ w'.cell? ⟨b, oo + q * 2 + 1, none⟩ = some (.slice a' len' cap') ∧ w'.frozen? ⟨w1.heap.size, 1, none⟩ = false) 18 19 rfl (by kernel_rfl) ⟨c1, p1, d0, d1, cf1⟩ (fun wd hwd hS => ?_)
            have bd : Below wz.heap.size wz wd := by rw [hwd]; exact (by repeat' (first | (with_reducible exact Below.refl _ _) | (with_reducible assumption) | (with_reducible refine Below.dr ?_ _) | (with_reducible refine Below.d1 ?_) | (with_reducible refine Below.al ?_ _) | (with_reducible refine Below.tr ?_ (by assumption)) | (with_reducible refine Below.drewN ?_ _) | (with_reducible refine Below.drew ?_) | (with_reducible refine Below.alloc ?_ ?_ _) | (with_reducible refine Below.setCell ?_ ?_ _) | (with_reducible refine Below.trans ?_ (Below.mono (by assumption) ?_)) | omega | (simp; done) | (simp; omega) | (simp [*]; done)))
            have Bd := Lib.hid bd
            have Od := Lib.hid (O.out.to bd)
            have HAd := Lib.hid (HA.out.mono bd)
            have HMd := Lib.hid (SlAt.mono HMo.out bd (by omega) arCells_len)
            have hsd := bd.size
            clear hwd bd c0 c1 cf0 cf1 cz p0 p1 pf0 pf1 pz d0 d1
            (refine any_take 0 (v := ?_) (by kernel_rfl) rfl rfl (by kernel_rfl) (by kernel_rfl) (by kernel_rfl) (fun _ _ _ h => h) (Or.inl ⟨by rfl, ?_⟩) (by assumption) ?_; rotate_left; (focus (intro w' hS'; (try dsimp only at hS'); go_split_ands; go_simp; try with_reducible rfl)); try simp only [Act.put, List.setIfInBounds_toArray, List.set_cons_zero, List.set_cons_succ])
            (refine any_take 1 (v := ?_) (by kernel_rfl) rfl rfl (by kernel_rfl) (by kernel_rfl) (by kernel_rfl) (fun _ _ _ h => h) (Or.inl ⟨by rfl, ?_⟩) (by assumption) ?_; rotate_left; (focus (intro w' hS'; (try dsimp only at hS'); go_split_ands; go_simp; try with_reducible rfl)); try simp only [Act.put, List.setIfInBounds_toArray, List.set_cons_zero, List.set_cons_succ])
            (refine any_take 2 (v := ?_) (by kernel_rfl) rfl rfl (by kernel_rfl) (by kernel_rfl) (by kernel_rfl) (fun _ _ _ h => h) (Or.inl ⟨by rfl, ?_⟩) (by assumption) ?_; rotate_left; (focus (intro w' hS'; (try dsimp only at hS'); go_split_ands; go_simp; try with_reducible rfl)); try simp only [Act.put, List.setIfInBounds_toArray, List.set_cons_zero, List.set_cons_succ])
            (refine any_take 3 (v := ?_) (by kernel_rfl) rfl rfl (by kernel_rfl) (by kernel_rfl) (by kernel_rfl) (fun _ _ _ h => h) (Or.inl ⟨by rfl, ?_⟩) (by assumption) ?_; rotate_left; (focus (intro w' hS'; (try dsimp only at hS'); go_split_ands; go_simp; try with_reducible rfl)); try simp only [Act.put, List.setIfInBounds_toArray, List.set_cons_zero, List.set_cons_succ])
            (refine any_take 4 (v := ?_) (by kernel_rfl) rfl rfl (by kernel_rfl) (by kernel_rfl) (by kernel_rfl) (fun _ _ _ h => h) (Or.inl ⟨by rfl, ?_⟩) (by assumption) ?_; rotate_left; (focus (intro w' hS'; (try dsimp only at hS'); go_split_ands; go_simp; try with_reducible rfl)); try simp only [Act.put, List.setIfInBounds_toArray, List.set_cons_zero, List.set_cons_succ])
            (refine any_take 5 (v := ?_) (by kernel_rfl) rfl rfl (by kernel_rfl) (by kernel_rfl) (by kernel_rfl) (fun _ _ _ h => h) (Or.inl ⟨by rfl, ?_⟩) (by assumption) ?_; rotate_left; (focus (intro w' hS'; (try dsimp only at hS'); go_split_ands; go_simp; try with_reducible rfl)); try simp only [Act.put, List.setIfInBounds_toArray, List.set_cons_zero, List.set_cons_succ])
            (refine any_take 6 (v := ?_) (by kernel_rfl) rfl rfl (by kernel_rfl) (by kernel_rfl) (by kernel_rfl) (fun _ _ _ h => h) (Or.inl ⟨by rfl, ?_⟩) (by assumption) ?_; rotate_left; (focus (intro w' hS'; (try dsimp only at hS'); go_split_ands; go_simp; try with_reducible rfl)); try simp only [Act.put, List.setIfInBounds_toArray, List.set_cons_zero, List.set_cons_succ])
            (refine any_take 7 (v := ?_) (by kernel_rfl) rfl rfl (by kernel_rfl) (by kernel_rfl) (by kernel_rfl) (fun _ _ _ h => h) (Or.inl ⟨by rfl, ?_⟩) (by assumption) ?_; rotate_left; (focus (intro w' hS'; (try dsimp only at hS'); go_split_ands; go_simp; try with_reducible rfl)); try simp only [Act.put, List.setIfInBounds_toArray, List.set_cons_zero, List.set_cons_succ])
            (refine any_take 8 (v := ?_) (by kernel_rfl) rfl rfl (by kernel_rfl) (by kernel_rfl) (by kernel_rfl) (fun _ _ _ h => h) (Or.inl ⟨by rfl, ?_⟩) (by assumption) ?_; rotate_left; (focus (intro w' hS'; (try dsimp only at hS'); go_split_ands; go_simp; try with_reducible rfl)); try simp only [Act.put, List.setIfInBounds_toArray, List.set_cons_zero, List.set_cons_succ])
            (refine any_take 9 (v := ?_) (by kernel_rfl) rfl rfl (by kernel_rfl) (by kernel_rfl) (by kernel_rfl) (fun _ _ _ h => h) (Or.inl ⟨by rfl, ?_⟩) (by assumption) ?_; rotate_left; (focus (intro w' hS'; (try dsimp only at hS'); go_split_ands; go_simp; try with_reducible rfl)); try simp only [Act.put, List.setIfInBounds_toArray, List.set_cons_zero, List.set_cons_succ])
            (refine any_take 10 (v := ?_) (by kernel_rfl) rfl rfl (by kernel_rfl) (by kernel_rfl) (by kernel_rfl) (fun _ _ _ h => h) (Or.inl ⟨by rfl, ?_⟩) (by assumption) ?_; rotate_left; (focus (intro w' hS'; (try dsimp only at hS'); go_split_ands; go_simp; try with_reducible rfl)); try simp only [Act.put, List.setIfInBounds_toArray, List.set_cons_zero, List.set_cons_succ])
            (refine any_take 11 (v := ?_) (by kernel_rfl) rfl rfl (by kernel_rfl) (by kernel_rfl) (by kernel_rfl) (fun _ _ _ h => h) (Or.inl ⟨by rfl, ?_⟩) (by assumption) ?_; rotate_left; (focus (intro w' hS'; (try dsimp only at hS'); go_split_ands; go_simp; try with_reducible rfl)); try simp only [Act.put, List.setIfInBounds_toArray, List.set_cons_zero, List.set_cons_succ])
            (refine any_take 12 (v := ?_) (by kernel_rfl) rfl rfl (by kernel_rfl) (by kernel_rfl) (by kernel_rfl) (fun _ _ _ h => h) (Or.inl ⟨by rfl, ?_⟩) (by assumption) ?_; rotate_left; (focus (intro w' hS'; (try dsimp only at hS'); go_split_ands; go_simp; try with_reducible rfl)); try simp only [Act.put, List.setIfInBounds_toArray, List.set_cons_zero, List.set_cons_succ])
            (refine any_take 13 (v := ?_) (by kernel_rfl) rfl rfl (by kernel_rfl) (by kernel_rfl) (by kernel_rfl) (fun _ _ _ h => h) (Or.inl ⟨by rfl, ?_⟩) (by assumption) ?_; rotate_left; (focus (intro w' hS'; (try dsimp only at hS'); go_split_ands; go_simp; try with_reducible rfl)); try simp only [Act.put, List.setIfInBounds_toArray, List.set_cons_zero, List.set_cons_succ])
            refine any_one 14 (by kernel_rfl) rfl (fun K hK => ?_)
            go_wp2_with (go_at_call 64; refine (ref_shifted _ (k : Int) fin _ _ arcs (([] : List Ar)) _ HAd.out HMd.out (by omega) (by simp) (by omega) (fun a ha => by have := HGx.out a ha; omega)).mono ?_; rintro e w5 ⟨sv5, rfl, hs5, b5⟩)
            have hS5 : w5.cell? ⟨w1.heap.size, 1, none⟩ = some (.slice sv3 ts.length sv4) ∧ w5.cell? ⟨w.heap.size + 1, 1, none⟩ = some (.slice (some ⟨b, oo, none⟩) len2 cap2) ∧ w5.cell? ⟨b, oo + q * 2, none⟩ = some (.int .i64 fin) ∧ w5.cell? ⟨b, oo + q * 2 + 1, none⟩ = some (.slice a' len' cap') ∧ w5.frozen? ⟨w1.heap.size, 1, none⟩ = false := ⟨Below.cellTo b5 hS.1, Below.cellTo b5 hS.2.1, Below.cellTo b5 hS.2.2.1, Below.cellTo b5 hS.2.2.2.1, (Od.out.to b5).free 1⟩
            have B5 := Lib.hid (Below.tr Bd.out b5)
            have O5 := Lib.hid (Od.out.to b5)
            have hb5s := b5.size
            obtain ⟨a5, cap5, hsv5, Own5⟩ := hs5.opens
            subst hsv5
            simp only at Own5 ⊢
            obtain ⟨n5, hn5⟩ : ∃ n5, (arcs.map (shiftAr (k : Int)) ++ (([] : List Ar))).length = n5 := ⟨_, rfl⟩
            have hn5b : n5 ≤ 1000 := by rw [← hn5, List.length_append, List.length_map]; have hml5 : (([] : List Ar)).length ≤ 1 := (by simp); omega
            rw [hn5] at Own5 ⊢
            have HN5 := Lib.hid hn5
            clear hS hs5 b5 hn5
            refine any_hand hK (fun _ => hS5) (fun hx => ?_)
            clear hx hK K
            refine any_one 15 (by kernel_rfl) rfl (fun K hK => ?_)
            rw [if_pos (by rfl)]
            go_simp
            refine any_hand hK (fun _ => ⟨cell_al hS5.1 _, cell_al hS5.2.1 _, cell_al hS5.2.2.1 _, cell_al hS5.2.2.2.1 _, (O5.out.al _).free 1⟩) (fun hx => ?_)
            clear hx hK K
            refine any_one 16 (by kernel_rfl) rfl (fun K hK => ?_)
            have bW5 : Below wz.heap.size wz (w5.alloc (.cells #[.int .i64 fin, .slice a5 n5 cap5] 55)) := Below.al B5.out _
            refine step_append_n rfl _ _ 22 rfl w1.heap.size 55 2 32 (.agg #[.int .i64 0, .slice none 0 0]) Try.underlying22 (by kernel_rfl) rfl (by omega) (by omega) stCells stCells_len _ ts ts.length rfl rfl (Bld.own (BldX.below HB.out bW5).bld) (fin, .slice a5 n5 cap5, arcs.map (shiftAr (k : Int)) ++ (([] : List Ar))) (stCells_one _ _ _ _ _) ⟨w5.heap.size, 0, none⟩ 1 rfl (new_row_cells' _ (stCells (fin, .slice a5 n5 cap5, arcs.map (shiftAr (k : Int)) ++ (([] : List Ar)))) _ _ (by simp)) (by omega) (by simp; omega) ?_
            intro v6 w6 hown6 hv6 hgrow6
            have hps := BldX.push (x := (fin, .slice a5 n5 cap5, arcs.map (shiftAr (k : Int)) ++ (([] : List Ar)))) (by omega) hOz HB.out bW5 (by rw [HN5.out]; exact ((Own5.out.lower (by omega)).alloc _)) (by rw [HN5.out]; omega) (by intro kk hkk; have := (Own5.out.lt kk hkk).1; omega) hown6 hv6 hgrow6
            obtain ⟨g6, cap6, rfl, -, -⟩ := hv6
            obtain ⟨b6, hB6, hO6⟩ := hps
            have O6 := Lib.hid (O.out.same hO6)
            have HB6 := Lib.hid hB6
            have b66 := Lib.hid b6
            have hM6 := Lib.hid (Mz.out.under b6 (by omega))
            have hst6 := Lib.hid (HWz.out.trans (b6.mono (by omega)))
            clear hown6 hgrow6 bW5 hB6 b6 hO6
            have hS : w6.cell? ⟨w1.heap.size, 1, none⟩ = some (.slice sv3 ts.length sv4) ∧ w6.cell? ⟨w.heap.size + 1, 1, none⟩ = some (.slice (some ⟨b, oo, none⟩) len2 cap2) ∧ w6.cell? ⟨b, oo + q * 2, none⟩ = some (.int .i64 fin) ∧ w6.cell? ⟨b, oo + q * 2 + 1, none⟩ = some (.slice a' len' cap') ∧ w6.frozen? ⟨w1.heap.size, 1, none⟩ = false := ⟨O6.out.cell 1 rfl, hM6.out.cell 1 rfl, Below.cellTo hst6.out DW0.out, Below.cellTo hst6.out DW1.out, O6.out.free 1⟩
            refine any_hand hK (fun _ => hS) (fun hx => ?_)
            clear hx hK K
            (refine any_take 17 (v := ?_) (by kernel_rfl) rfl rfl (by kernel_rfl) (by kernel_rfl) (by kernel_rfl) (fun _ _ _ h => h) (Or.inl ⟨by rfl, ?_⟩) (by assumption) ?_; rotate_left; (focus (intro w' hS'; (try dsimp only at hS'); go_split_ands; go_simp; try with_reducible rfl)); try simp only [Act.put, List.setIfInBounds_toArray, List.set_cons_zero, List.set_cons_succ])
            clear hS
            refine any_one 18 (by kernel_rfl) rfl (fun K hK => ?_)
            have y1 := O6.out.cell 1 rfl
            have yf1 := O6.out.free 1
            rw [if_pos (by rfl)]
            go_simp
            refine any_hand hK (fun h => absurd rfl h) (fun hx => ?_)
            clear hx hK K
            refine any_done (by kernel_rfl) ?_
            go_wp2_with fail
            go_roundw
            case rel => exact ⟨q + 1, _, ts ++ [(fin, .slice a5 n5 cap5, arcs.map (shiftAr (k : Int)) ++ (([] : List Ar)))], by omega, by go_num, O6.out.set 1 _, HB6.out.stored 1 _, by simp [Hn.out]; try omega, by
              have h1 := Hst.out
              unfold forgets at h1 ⊢
              rw [take_snoc Hx.out]
              rw [List.map_append, List.map_append, h1, List.append_assoc]
              simp only [List.map_cons, List.map_nil, List.append_nil, shiftSt], (Hbel.out.trans b66.out).setCell (by first | exact Nat.le_refl _ | (simp; omega) | omega) _⟩
            case measure => simp [intOf]; omega
          · have hfull : sts2.take q = sts2 := List.take_of_length_le (by rw [Gl.out]; omega)
            rw [hfull] at Hst
            have hMN : MachNew wz w1.heap.size (.agg #[.int .i64 st, .slice sv3 ts.length sv4]) (chainedM ⟨st, sts⟩ ⟨st2, sts2⟩) := ⟨_, ts, rfl, HB.out.bld, by rw [show ts.map (fun x => (⟨x.1, x.2.2⟩ : St)) = forgets ts from rfl, Hst.out]; unfold chainedM; simp only [Hl.out], by omega⟩
            have HMN := Lib.hid hMN
            have Rz := Lib.hid (R1.out.to hbel)
            clear hfull hMN
            go_wp2_with fail
            refine (ref_Fits _ (chainedM ⟨st, sts⟩ ⟨st2, sts2⟩) _ _ HMN.out).mono ?_
            rintro e w6 ⟨mv, rfl, hm, b6⟩
            rw [HBM.out] at hm
            rw [HBE.out]
            obtain ⟨a6, len6, cap6, hmv, -, -⟩ := hm.opens
            subst hmv
            have HN := Lib.hid hm
            have R6 := Lib.hid (Rz.out.to b6)
            have hs6 := b6.size
            have b7 := Lib.hid (Below.tr (B1.out.trans (hbel.mono B1.out.size)) b6)
            have hR6 := R6.out.lt
            clear hm b6
            have r0 := R6.out.cell 0 rfl; have r1 := R6.out.cell 1 rfl; have rf0 := R6.out.free 0; have rf1 := R6.out.free 1; have rz := R6.out.lt
            go_wp2_with fail
            have R7 := (R6.out.set 0 (.int .i64 bm.start)).set 1 (.slice a6 len6 cap6)
            have HN7 := ((HN.out.stored (p := ⟨w.heap.size + 1 + 1, 0, none⟩) (by simp; omega) (.int .i64 bm.start)).stored (p := ⟨w.heap.size + 1 + 1, 1, none⟩) (by simp; omega) (.slice a6 len6 cap6)).lower (b := w.heap.size) (by omega)
            have R8 := R7.al (.cells #[.int .i64 bm.start, .slice a6 len6 cap6] 24)
            refine bodyPost_ret (v := .tuple #[.agg #[.int .i64 bm.start, .slice a6 len6 cap6], .int .i64 be]) ?_ rfl ⟨_, rfl, HN7.below (Below.al (Below.refl _ _) _), Below.alloc ((b7.out.setCell (by simp) _).setCell (by simp) _) (by simp [World.setCell]; omega) _⟩
            have x0 := R8.cell 0 rfl; have x1 := R8.cell 1 rfl; have xf0 := R8.free 0; have xf1 := R8.free 1; have xz := R8.lt
            simp [results, Try.results39, go_sem, x0, x1]
  · have hO : concatOut ⟨st, sts⟩ ⟨st2, sts2⟩ = ⟨0, []⟩ := by unfold concatOut; rw [hE]; exact if_neg hz
    have hO2 : concatE ⟨st, sts⟩ ⟨st2, sts2⟩ = E := by unfold concatE; rw [hE]; exact if_neg hz
    rw [hO, hO2]
    clear hO hO2
    obtain ⟨F, hF⟩ : ∃ F, machE ⟨st, sts⟩ = F := ⟨_, rfl⟩
    by_cases hFz : F = 0
    · subst hFz
      have hE2 : machE ⟨st2, sts2⟩ = E := by unfold twoE at hE; rw [if_pos hF] at hE; exact hE
      have HF := Lib.hid hF
      have HE2 := Lib.hid hE2
      have hEb : (E != 0) = true := by simp [hz]
      clear hE hF hE2 hz
      go_enter Try.func39, Try.ntmps39
      go_wp2_with fail
      refine (ref_Fault_as 0 _ ⟨st, sts⟩ _ (HM.out.mono (by repeat' (first | (with_reducible exact Below.refl _ _) | (with_reducible assumption) | (with_reducible refine Below.dr ?_ _) | (with_reducible refine Below.d1 ?_) | (with_reducible refine Below.al ?_ _) | (with_reducible refine Below.tr ?_ (by assumption)) | (with_reducible refine Below.drewN ?_ _) | (with_reducible refine Below.drew ?_) | (with_reducible refine Below.alloc ?_ ?_ _) | (with_reducible refine Below.setCell ?_ ?_ _) | (with_reducible refine Below.trans ?_ (Below.mono (by assumption) ?_)) | omega | (simp; done) | (simp; omega) | (simp [*]; done)))) HF.out).mono ?_
      rintro e wa ⟨rfl, ba⟩
      have Na := Lib.hid (Blk.to ((Blk.new' (w.alloc _) _ _ (n := w.heap.size + 1) (by simp)).al _) ba)
      have Ra := Lib.hid (Blk.to (Blk.new' _ _ _ (n := w.heap.size + 1 + 1) (by simp)) ba)
      have q0 := Na.out.cell 0 rfl; have q1 := Na.out.cell 1 rfl; have qf0 := Na.out.free 0; have qf1 := Na.out.free 1; have qz := Na.out.lt
      go_wp2_with fail
      refine (ref_Fault_as E _ ⟨st2, sts2⟩ _ (GM.out.mono (by repeat' (first | (with_reducible exact Below.refl _ _) | (with_reducible assumption) | (with_reducible refine Below.dr ?_ _) | (with_reducible refine Below.d1 ?_) | (with_reducible refine Below.al ?_ _) | (with_reducible refine Below.tr ?_ (by assumption)) | (with_reducible refine Below.drewN ?_ _) | (with_reducible refine Below.drew ?_) | (with_reducible refine Below.alloc ?_ ?_ _) | (with_reducible refine Below.setCell ?_ ?_ _) | (with_reducible refine Below.trans ?_ (Below.mono (by assumption) ?_)) | omega | (simp; done) | (simp; omega) | (simp [*]; done)))) HE2.out).mono ?_
      rintro e w1 ⟨rfl, b1⟩
      have R1 := Ra.out.to b1
      have r0 := R1.cell 0 rfl; have r1 := R1.cell 1 rfl; have rf0 := R1.free 0; have rf1 := R1.free 1; have rz := R1.lt
      have hb1 : Below w.heap.size w w1 := (by repeat' (first | (with_reducible exact Below.refl _ _) | (with_reducible assumption) | (with_reducible refine Below.dr ?_ _) | (with_reducible refine Below.d1 ?_) | (with_reducible refine Below.al ?_ _) | (with_reducible refine Below.tr ?_ (by assumption)) | (with_reducible refine Below.drewN ?_ _) | (with_reducible refine Below.drew ?_) | (with_reducible refine Below.alloc ?_ ?_ _) | (with_reducible refine Below.setCell ?_ ?_ _) | (with_reducible refine Below.trans ?_ (Below.mono (by assumption) ?_)) | omega | (simp; done) | (simp; omega) | (simp [*]; done)))
      go_wp2_with fail
      have R3 := (R1.set 0 (.int .i64 0)).set 1 (.slice none 0 0)
      refine bodyPost_ret (v := .tuple #[.agg #[.int .i64 0, .slice none 0 0], .int .i64 E]) ?_ rfl ⟨_, rfl, MachNew.nil _ _ _, ?_⟩
      · have x0 := R3.cell 0 rfl; have x1 := R3.cell 1 rfl; have xf0 := R3.free 0; have xf1 := R3.free 1; have xz := R3.lt
        simp [results, Try.results39, go_sem, x0, x1]
      · exact (hb1.setCell (by simp) _).setCell (by simp) _
    · obtain rfl : F = E := by unfold twoE at hE; rw [hF] at hE; rw [if_neg hFz] at hE; exact hE
      have HF := Lib.hid hF
      have hEb : (F != 0) = true := by simp [hz]
      have hEc : (F == 0) = false := by simp [hz]
      clear hE hF hz hFz
      go_enter Try.func39, Try.ntmps39
      go_wp2_with fail
      refine (ref_Fault_as F _ ⟨st, sts⟩ _ (HM.out.mono (by repeat' (first | (with_reducible exact Below.refl _ _) | (with_reducible assumption) | (with_reducible refine Below.dr ?_ _) | (with_reducible refine Below.d1 ?_) | (with_reducible refine Below.al ?_ _) | (with_reducible refine Below.tr ?_ (by assumption)) | (with_reducible refine Below.drewN ?_ _) | (with_reducible refine Below.drew ?_) | (with_reducible refine Below.alloc ?_ ?_ _) | (with_reducible refine Below.setCell ?_ ?_ _) | (with_reducible refine Below.trans ?_ (Below.mono (by assumption) ?_)) | omega | (simp; done) | (simp; omega) | (simp [*]; done)))) HF.out).mono ?_
      rintro e w1 ⟨rfl, ba⟩
      have R1 := Blk.to (Blk.new' _ _ _ (n := w.heap.size + 1 + 1) (by simp)) ba
      have r0 := R1.cell 0 rfl; have r1 := R1.cell 1 rfl; have rf0 := R1.free 0; have rf1 := R1.free 1; have rz := R1.lt
      have hb1 : Below w.heap.size w w1 := (by repeat' (first | (with_reducible exact Below.refl _ _) | (with_reducible assumption) | (with_reducible refine Below.dr ?_ _) | (with_reducible refine Below.d1 ?_) | (with_reducible refine Below.al ?_ _) | (with_reducible refine Below.tr ?_ (by assumption)) | (with_reducible refine Below.drewN ?_ _) | (with_reducible refine Below.drew ?_) | (with_reducible refine Below.alloc ?_ ?_ _) | (with_reducible refine Below.setCell ?_ ?_ _) | (with_reducible refine Below.trans ?_ (Below.mono (by assumption) ?_)) | omega | (simp; done) | (simp; omega) | (simp [*]; done)))
      go_wp2_with fail
      have R3 := (R1.set 0 (.int .i64 0)).set 1 (.slice none 0 0)
      refine bodyPost_ret (v := .tuple #[.agg #[.int .i64 0, .slice none 0 0], .int .i64 F]) ?_ rfl ⟨_, rfl, MachNew.nil _ _ _, ?_⟩
      · have x0 := R3.cell 0 rfl; have x1 := R3.cell 1 rfl; have xf0 := R3.free 0; have xf1 := R3.free 1; have xz := R3.lt
        simp [results, Try.results39, go_sem, x0, x1]
      · exact (hb1.setCell (by simp) _).setCell (by simp) _
end Go.Proofs.Ytnnmdcagbcdfpaa
