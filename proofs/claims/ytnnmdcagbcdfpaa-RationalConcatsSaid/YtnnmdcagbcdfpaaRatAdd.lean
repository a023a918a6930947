/- The builder of package rational: a machine's states are added. -/
import Derived.Test.YtnnmdcagbcdfpaaBld2
import Derived.Test.YtnnmdcagbcdfpaaRatPlain
namespace Go.Proofs.Ytnnmdcagbcdfpaa
open Go.RowKit
set_option linter.unusedSimpArgs false
set_option linter.unusedVariables false

set_option maxRecDepth 100000 in
set_option maxHeartbeats 4000000 in
theorem rational_addY (X : Nat) (s : Int) (sv : Value) (l : List St) (v : Value) (m : Mach) (w0 w : World) (hX : Blk w X #[.int .i64 s, sv] 70) (hB : BldM w (X + 1) sv l) (h : MachAt w0 v m)
    (h0 : Below w0.heap.size w0 w) (hX0 : w0.heap.size ≤ X) (hl : l.length ≤ 1000) (hm : m.states.length ≤ 60) (h400 : arcN m.states ≤ 400) (hgood : ∀ s ∈ m.states, ∀ a ∈ s.arcs, 0 ≤ a.t ∧ a.t ≤ 60) :
    Calls Try.prog 60 #[.pointer (some ⟨X, 0, none⟩), v] w fun e w' => e = .returned (.int .i64 l.length) ∧
      (∃ sv', Blk w' X #[.int .i64 s, sv'] 70 ∧ BldM w' (X + 1) sv' (l ++ m.states.map (shiftSt l.length))) ∧ Below X w w' ∧ (∀ Y, Y < w.heap.size → Y ≠ X → some Y ≠ sv.ownBlock → w'.heap[Y]? = w.heap[Y]?) := by
  obtain ⟨ts0, hB, hts⟩ := hB
  obtain ⟨a, len, cap, rfl, hlb, H, Hl⟩ := MachAt.opens h
  clear h
  obtain ⟨st, sts⟩ := m
  simp only at H Hl hm h400 hgood ⊢
  have hlen : len ≤ 60 := by have := Hl.out; omega
  obtain ⟨sv1, sv2, hsv⟩ := hB.own.slice
  subst hsv
  have hn0 : l.length = ts0.length := by rw [← hts, forgets_len]
  have hn1 : ts0.length ≤ 1000 := by omega
  have HN := Lib.hid hn0
  have Hts := Lib.hid hts
  have H400 := Lib.hid h400
  have HG := Lib.hid hgood
  have H0 := Lib.hid h0
  have hXl := hX.lt
  have hX' := Lib.hid hX
  have HB0 := Lib.hid hB
  have c0 := hX'.out.cell 0 rfl; have c1 := hX'.out.cell 1 rfl; have cf0 := hX'.out.free 0; have cf1 := hX'.out.free 1; have cz := hX'.out.lt
  clear hX hB hts hn0 hm h400 hgood h0 hl
  go_enter Try.func60, Try.ntmps60
  go_wp2_with fail
  go_loopw [20] (fun i wr => ∃ (k : Nat) (sv : Value) (ts : List (Int × Value × List Ar)), k ≤ len ∧ i = .int .i64 k ∧ Blk wr X #[.int .i64 s, sv] 70 ∧
    Bld wr (X + 1) sv ts ∧ ts.length = ts0.length + k ∧ forgets ts = l ++ (sts.take k).map (shiftSt ts0.length) ∧ Below X w wr ∧ (∀ Y, Y < w.heap.size → Y ≠ X → some Y ≠ (Value.slice sv1 ts0.length sv2).ownBlock → some Y ≠ sv.ownBlock ∧ wr.heap[Y]? = w.heap[Y]?)) (fun i _ => len - (intOf i).toNat)
  case atStart => exact ⟨0, _, ts0, Nat.zero_le _, rfl, hX'.out.al _, HB0.out.below (by repeat' (first | (with_reducible exact Below.refl _ _) | (with_reducible assumption) | (with_reducible refine Below.dr ?_ _) | (with_reducible refine Below.d1 ?_) | (with_reducible refine Below.al ?_ _) | (with_reducible refine Below.tr ?_ (by assumption)) | (with_reducible refine Below.drewN ?_ _) | (with_reducible refine Below.drew ?_) | (with_reducible refine Below.alloc ?_ ?_ _) | (with_reducible refine Below.setCell ?_ ?_ _) | (with_reducible refine Below.trans ?_ (Below.mono (by assumption) ?_)) | omega | (simp; done) | (simp; omega) | (simp [*]; done))), rfl, by rw [Hts.out]; simp, (Below.refl _ _).alloc (by omega) _, fun Y h1 _ h3 => ⟨h3, Below.heap_alloc _ _ _ h1⟩⟩
  case round =>
    obtain ⟨wz, rfl⟩ : ∃ wz : World, wz = wr := ⟨_, rfl⟩
    obtain ⟨k, sv, ts, hk, rfl, hO, hB, hn, hst, hbel, hY⟩ := hrel
    have HY := Lib.hid hY
    clear hY
    have hwz := hbel.size
    have O := Lib.hid hO
    have HB := Lib.hid hB
    have Hn := Lib.hid hn
    have Hst := Lib.hid hst
    have hXz := hO.lt
    have hn2 : ts.length ≤ 1060 := by omega
    clear hO hB hn hst c0 c1 cf0 cf1 cz
    obtain ⟨sv3, sv4, hsv⟩ := HB.out.own.slice
    subst hsv
    have c0 := O.out.cell 0 rfl; have c1 := O.out.cell 1 rfl; have cf0 := O.out.free 0; have cf1 := O.out.free 1; have cz := O.out.lt
    have Hbel := Lib.hid hbel
    by_cases hlt : k < len
    · have hW : Below w0.heap.size w0 wz := H0.out.trans (hbel.mono hX0)
      clear hbel
      obtain ⟨b, oo, x, xv, rfl, hx, d0, d1, dA⟩ := StatesAt.at (StatesAt.mono H.out hW) hlt
      obtain ⟨a', len', cap', rfl, hl', HA, Hl'⟩ := ArcsAt.opens dA
      have hb0 := blt d0
      have Hx := Lib.hid hx
      have h4 : len' ≤ 400 := by
        have h5 := arcs_le H400.out hx
        rw [Hl'.out] at h5
        exact h5
      have HGx := Lib.hid (HG.out x (List.mem_of_getElem? hx))
      clear hx dA hW
      go_wp2_with fail
      obtain ⟨wo, hwo⟩ : ∃ wo : World, wo = ((wz.alloc (.cells #[.int .i64 x.fin, .slice a' len' cap'] 55)).alloc (.cells #[.int .i64 x.fin, .slice none 0 0] 55)) := ⟨_, rfl⟩
      have hso : wo.heap.size = wz.heap.size + 1 + 1 := by rw [hwo]; simp
      have bo : Below wz.heap.size wz wo := by rw [hwo]; exact (by repeat' (first | (with_reducible exact Below.refl _ _) | (with_reducible assumption) | (with_reducible refine Below.dr ?_ _) | (with_reducible refine Below.d1 ?_) | (with_reducible refine Below.al ?_ _) | (with_reducible refine Below.tr ?_ (by assumption)) | (with_reducible refine Below.drewN ?_ _) | (with_reducible refine Below.drew ?_) | (with_reducible refine Below.alloc ?_ ?_ _) | (with_reducible refine Below.setCell ?_ ?_ _) | (with_reducible refine Below.trans ?_ (Below.mono (by assumption) ?_)) | omega | (simp; done) | (simp; omega) | (simp [*]; done)))
      have To : Blk wo (wz.heap.size + 1) #[.int .i64 x.fin, .slice none 0 0] 55 := by rw [hwo]; exact Blk.new' _ _ _ (by simp)
      rw [← hwo]
      have Hso := Lib.hid hso
      clear hwo hso
      go_loopw [30] (fun i wi => ∃ (j : Nat) (av1 : Option Addr) (av2 : Nat), j ≤ len' ∧ i = .int .i64 j ∧ Blk wi (wz.heap.size + 1) #[.int .i64 x.fin, .slice av1 j av2] 55 ∧ wi.ownsRow (wz.heap.size + 1 + 1) 59 4 (.slice av1 j av2) j (((x.arcs.take j).map (shiftAr ts0.length)).flatMap arCells) ∧
        Below (wz.heap.size + 1) wo wi) (fun i _ => len' - (intOf i).toNat)
      case atStart => exact ⟨0, none, 0, Nat.zero_le _, rfl, To, World.ownsRow_nil _ _ _ _, Below.refl _ _⟩
      case round =>
        obtain ⟨wi, rfl⟩ : ∃ wi : World, wi = wr := ⟨_, rfl⟩
        obtain ⟨j, av1, av2, hj, rfl, hT, hown, hbi⟩ := hrel
        have T := Lib.hid hT
        have Hown := Lib.hid hown
        have hsi := hbi.size
        rw [Hso.out] at hsi
        have bi : Below wz.heap.size wz wi := bo.trans (hbi.mono (by omega))
        have Hbi := Lib.hid hbi
        clear hT hown hbi
        have t0 := T.out.cell 0 rfl; have t1 := T.out.cell 1 rfl; have tf0 := T.out.free 0; have tf1 := T.out.free 1; have tz := T.out.lt
        by_cases hlj : j < len'
        · obtain ⟨b', o', y, rfl, hy, e0, e1, e2, e3⟩ := ArcsAt.at (ArcsAt.mono HA.out bi) hlj
          have hb2 := blt e0
          have Hy := Lib.hid hy
          have hyt := HGx.out y (List.mem_of_getElem? hy)
          have hlen : ((x.arcs.take j).map (shiftAr ts0.length)).length = j := by
            rw [List.length_map, List.length_take, Hl'.out]; omega
          have Hlen := Lib.hid hlen
          clear hy hlen
          obtain ⟨yi, yo, yw, yt⟩ := y
          simp only at e0 e1 e2 e3 hyt
          go_wp2_with (at_builtin; refine Mark.intro ?_)
          refine Mark.out ?_
          refine wpList_append_n rfl _ _ 53 rfl (wz.heap.size + 1 + 1) 59 4 32 (.agg #[.int .i64 0, .int .i64 0, .int .i64 0, .int .i64 0]) Try.underlying53 (by kernel_rfl) rfl (by omega) (by omega) arCells arCells_len _ ((x.arcs.take j).map (shiftAr ts0.length)) j Hlen.out rfl (World.ownsRow.below Hown.out (by repeat' (first | (with_reducible exact Below.refl _ _) | (with_reducible assumption) | (with_reducible refine Below.dr ?_ _) | (with_reducible refine Below.d1 ?_) | (with_reducible refine Below.al ?_ _) | (with_reducible refine Below.tr ?_ (by assumption)) | (with_reducible refine Below.drewN ?_ _) | (with_reducible refine Below.drew ?_) | (with_reducible refine Below.alloc ?_ ?_ _) | (with_reducible refine Below.setCell ?_ ?_ _) | (with_reducible refine Below.trans ?_ (Below.mono (by assumption) ?_)) | omega | (simp; done) | (simp; omega) | (simp [*]; done)))) (shiftAr ts0.length ⟨yi, yo, yw, yt⟩) (arCells_one _) ⟨wi.heap.size + 1, 0, none⟩ 1 rfl (new_row_cells' _ (arCells (shiftAr ts0.length ⟨yi, yo, yw, yt⟩)) _ _ (by simp)) (by omega) (by simp; omega) ?_
          intro v3 w3 own3 hv3 gr3
          have hst := arc_step (y := shiftAr ts0.length ⟨yi, yo, yw, yt⟩) (by omega) hsi T.out Hown.out Hbi.out (by repeat' (first | (with_reducible exact Below.refl _ _) | (with_reducible assumption) | (with_reducible refine Below.dr ?_ _) | (with_reducible refine Below.d1 ?_) | (with_reducible refine Below.al ?_ _) | (with_reducible refine Below.tr ?_ (by assumption)) | (with_reducible refine Below.drewN ?_ _) | (with_reducible refine Below.drew ?_) | (with_reducible refine Below.alloc ?_ ?_ _) | (with_reducible refine Below.setCell ?_ ?_ _) | (with_reducible refine Below.trans ?_ (Below.mono (by assumption) ?_)) | omega | (simp; done) | (simp; omega) | (simp [*]; done))) own3 gr3
          obtain ⟨g3, cap3, rfl, -, -⟩ := hv3
          obtain ⟨k1, k2, k3, k4, k5⟩ := hst
          have K1 := Lib.hid k1
          have K2 := Lib.hid k2
          have K3 := Lib.hid k3
          have t1' := k5.cell 1 rfl
          have t1f := k5.free 1
          clear k1 k2 k3 k5 own3 gr3
          go_wp2_with fail
          go_roundw
          case rel => exact ⟨j + 1, _, _, by omega, by go_num, K1.out, by rw [take_snoc Hy.out, List.map_append]; exact K2.out, K3.out⟩
          case measure => simp [intOf]; omega
        · have hfull : x.arcs.take j = x.arcs := List.take_of_length_le (by rw [Hl'.out]; omega)
          rw [hfull] at Hown
          obtain rfl : len' = j := by omega
          have hlen : (x.arcs.map (shiftAr ts0.length)).length = len' := by rw [List.length_map]; exact Hl'.out
          have Hlen := Lib.hid hlen
          clear hfull hlen
          have Oi := Lib.hid (O.out.to bi)
          have Bi := Lib.hid bi
          clear bi
          have z1 := Oi.out.cell 1 rfl
          have zf1 := Oi.out.free 1
          go_wp2_with fail
          refine region_any_w (fun w' => w'.cell? ⟨X, 1, none⟩ = some (.slice sv3 ts.length sv4) ∧ w'.cell? ⟨wz.heap.size + 1, 0, none⟩ = some (.int .i64 x.fin) ∧ w'.cell? ⟨wz.heap.size + 1, 1, none⟩ = some (.slice av1 len' av2) ∧ w'.frozen? ⟨X, 1, none⟩ = false) 12 13 rfl (by kernel_rfl) ⟨z1, t0, t1, zf1⟩ (fun wd hwd hS => ?_)
          have bd : Below wi.heap.size wi wd := by rw [hwd]; exact (by repeat' (first | (with_reducible exact Below.refl _ _) | (with_reducible assumption) | (with_reducible refine Below.dr ?_ _) | (with_reducible refine Below.d1 ?_) | (with_reducible refine Below.al ?_ _) | (with_reducible refine Below.tr ?_ (by assumption)) | (with_reducible refine Below.drewN ?_ _) | (with_reducible refine Below.drew ?_) | (with_reducible refine Below.alloc ?_ ?_ _) | (with_reducible refine Below.setCell ?_ ?_ _) | (with_reducible refine Below.trans ?_ (Below.mono (by assumption) ?_)) | omega | (simp; done) | (simp; omega) | (simp [*]; done)))
          have Od := Lib.hid (Oi.out.to bd)
          have Td := Lib.hid (T.out.to bd)
          have Hbd := Lib.hid (Below.trans Bi.out (bd.mono (by omega)))
          have hownd := Lib.hid (Hown.out.below bd)
          clear hwd t0 t1 tf0 tf1 z1 zf1
          (refine any_take 0 (v := ?_) (by kernel_rfl) rfl rfl (by kernel_rfl) (by kernel_rfl) (by kernel_rfl) (fun _ _ _ h => h) (Or.inl ⟨by rfl, ?_⟩) (by assumption) ?_; rotate_left; (focus (intro w' hS'; (try dsimp only at hS'); go_split_ands; go_simp; try with_reducible rfl)); try simp only [Act.put, List.setIfInBounds_toArray, List.set_cons_zero, List.set_cons_succ])
          (refine any_take 1 (v := ?_) (by kernel_rfl) rfl rfl (by kernel_rfl) (by kernel_rfl) (by kernel_rfl) (fun _ _ _ h => h) (Or.inl ⟨by rfl, ?_⟩) (by assumption) ?_; rotate_left; (focus (intro w' hS'; (try dsimp only at hS'); go_split_ands; go_simp; try with_reducible rfl)); try simp only [Act.put, List.setIfInBounds_toArray, List.set_cons_zero, List.set_cons_succ])
          (refine any_take 2 (v := ?_) (by kernel_rfl) rfl rfl (by kernel_rfl) (by kernel_rfl) (by kernel_rfl) (fun _ _ _ h => h) (Or.inl ⟨by rfl, ?_⟩) (by assumption) ?_; rotate_left; (focus (intro w' hS'; (try dsimp only at hS'); go_split_ands; go_simp; try with_reducible rfl)); try simp only [Act.put, List.setIfInBounds_toArray, List.set_cons_zero, List.set_cons_succ])
          (refine any_take 3 (v := ?_) (by kernel_rfl) rfl rfl (by kernel_rfl) (by kernel_rfl) (by kernel_rfl) (fun _ _ _ h => h) (Or.inl ⟨by rfl, ?_⟩) (by assumption) ?_; rotate_left; (focus (intro w' hS'; (try dsimp only at hS'); go_split_ands; go_simp; try with_reducible rfl)); try simp only [Act.put, List.setIfInBounds_toArray, List.set_cons_zero, List.set_cons_succ])
          (refine any_take 4 (v := ?_) (by kernel_rfl) rfl rfl (by kernel_rfl) (by kernel_rfl) (by kernel_rfl) (fun _ _ _ h => h) (Or.inl ⟨by rfl, ?_⟩) (by assumption) ?_; rotate_left; (focus (intro w' hS'; (try dsimp only at hS'); go_split_ands; go_simp; try with_reducible rfl)); try simp only [Act.put, List.setIfInBounds_toArray, List.set_cons_zero, List.set_cons_succ])
          (refine any_take 5 (v := ?_) (by kernel_rfl) rfl rfl (by kernel_rfl) (by kernel_rfl) (by kernel_rfl) (fun _ _ _ h => h) (Or.inl ⟨by rfl, ?_⟩) (by assumption) ?_; rotate_left; (focus (intro w' hS'; (try dsimp only at hS'); go_split_ands; go_simp; try with_reducible rfl)); try simp only [Act.put, List.setIfInBounds_toArray, List.set_cons_zero, List.set_cons_succ])
          (refine any_take 6 (v := ?_) (by kernel_rfl) rfl rfl (by kernel_rfl) (by kernel_rfl) (by kernel_rfl) (fun _ _ _ h => h) (Or.inl ⟨by rfl, ?_⟩) (by assumption) ?_; rotate_left; (focus (intro w' hS'; (try dsimp only at hS'); go_split_ands; go_simp; try with_reducible rfl)); try simp only [Act.put, List.setIfInBounds_toArray, List.set_cons_zero, List.set_cons_succ])
          refine any_one 7 (by kernel_rfl) rfl (fun K hK => ?_)
          rw [if_pos (by rfl)]
          go_simp
          refine any_hand hK (fun _ => ⟨cell_al hS.1 _, cell_al hS.2.1 _, cell_al hS.2.2.1 _, (Od.out.al _).free 1⟩) (fun hx => ?_)
          clear hx hK K hS
          refine any_one 8 (by kernel_rfl) rfl (fun K hK => ?_)
          have bW : Below wz.heap.size wz (wd.alloc (.cells #[.int .i64 x.fin, .slice av1 len' av2] 55)) := Below.al Hbd.out _
          have hsd := bd.size
          refine step_append_n rfl _ _ 22 rfl (X + 1) 55 2 32 (.agg #[.int .i64 0, .slice none 0 0]) Try.underlying22 (by kernel_rfl) rfl (by omega) (by omega) stCells stCells_len _ ts ts.length rfl rfl (Bld.own (Bld.below HB.out bW)) (x.fin, .slice av1 len' av2, x.arcs.map (shiftAr ts0.length)) (stCells_one _ _ _ _ _) ⟨wd.heap.size, 0, none⟩ 1 rfl (new_row_cells' _ (stCells (x.fin, .slice av1 len' av2, x.arcs.map (shiftAr ts0.length))) _ _ (by simp)) (by omega) (by simp; omega) ?_
          intro v2 w2 hown2 hv2 hgrow2
          have hps := push_step2 (x := (x.fin, .slice av1 len' av2, x.arcs.map (shiftAr ts0.length))) (by omega) HB.out bW (by rw [Hlen.out]; exact ((hownd.out.lower (by omega)).alloc _)) (by rw [Hlen.out]; omega) (by intro kk hkk; have := (hownd.out.lt kk hkk).1; omega) hown2 hv2 hgrow2
          have T2 := (Td.out.al (.cells #[.int .i64 x.fin, .slice av1 len' av2] 55)).grown hgrow2 (fun e => by have := (HB.out.own.lt _ e.symm).2; omega)
          have hY2 : ∀ Y, Y < w.heap.size → Y ≠ X → some Y ≠ (Value.slice sv1 ts0.length sv2).ownBlock → some Y ≠ v2.ownBlock ∧ w2.heap[Y]? = w.heap[Y]? := by
            intro Y h1 h2 h3
            obtain ⟨y1, y2⟩ := HY.out Y h1 h2 h3
            refine ⟨?_, ((hgrow2.block Y (by simp; omega) y1).trans (bW.block Y (by omega))).trans y2⟩
            obtain ⟨g, cap, rfl, hg, _⟩ := hv2
            rcases hg with hg | hg
            · intro e; exact y1 (e.trans hg.symm)
            · simp only [Value.ownBlock, ne_eq, Option.some.injEq]
              simp only [World.size_alloc] at hg
              omega
          have HY2 := Lib.hid hY2
          clear hY2 hown2 hgrow2 bW
          obtain ⟨g2, cap2, rfl, -, -⟩ := hv2
          obtain ⟨hb2, hB2⟩ := hps
          have O2 := O.out.under hb2 (by omega)
          have HT2 := Lib.hid T2
          have HO2 := Lib.hid O2
          have HB2 := Lib.hid hB2
          have Hb2 := Lib.hid hb2
          clear T2 O2 hB2 hb2
          have hS : w2.cell? ⟨X, 1, none⟩ = some (.slice sv3 ts.length sv4) ∧ w2.cell? ⟨wz.heap.size + 1, 0, none⟩ = some (.int .i64 x.fin) ∧ w2.cell? ⟨wz.heap.size + 1, 1, none⟩ = some (.slice av1 len' av2) ∧ w2.frozen? ⟨X, 1, none⟩ = false := ⟨HO2.out.cell 1 rfl, HT2.out.cell 0 rfl, HT2.out.cell 1 rfl, HO2.out.free 1⟩
          refine any_hand hK (fun _ => hS) (fun hx => ?_)
          clear hx hK K
          refine any_one 9 (by kernel_rfl) rfl (fun K hK => ?_)
          rw [if_pos (by rfl)]
          go_simp
          refine any_hand hK (fun _ => hS) (fun hx => ?_)
          clear hx hK K
          refine any_one 10 (by kernel_rfl) rfl (fun K hK => ?_)
          rw [if_pos (by rfl)]
          go_simp
          refine any_hand hK (fun _ => hS) (fun hx => ?_)
          clear hx hK K
          refine any_one 11 (by kernel_rfl) rfl (fun K hK => ?_)
          rw [if_pos (by rfl)]
          go_simp
          refine any_hand hK (fun _ => hS) (fun hx => ?_)
          clear hx hK K
          clear hS
          refine any_one 12 (by kernel_rfl) rfl (fun K hK => ?_)
          have y1 := HO2.out.cell 1 rfl
          have yf1 := HO2.out.free 1
          rw [if_pos (by rfl)]
          go_simp
          refine any_hand hK (fun h => absurd rfl h) (fun hx => ?_)
          clear hx hK K
          refine any_done (by kernel_rfl) ?_
          go_wp2_with fail
          go_roundw
          case rel => exact ⟨k + 1, _, ts ++ [(x.fin, .slice av1 len' av2, x.arcs.map (shiftAr ts0.length))], by omega, by go_num, HO2.out.set 1 _, HB2.out.stored (by simp) _, by simp [Hn.out]; omega, by
            have h1 := Hst.out
            unfold forgets at h1 ⊢
            rw [take_snoc Hx.out, List.map_append, List.map_append, h1, List.append_assoc]
            rfl, (Hbel.out.trans (Hb2.out.mono (by omega))).setCell (Nat.le_refl _) _, fun Y h1 h2 h3 => ⟨(HY2.out Y h1 h2 h3).1, (Below.heap_setCell _ _ _ _ h2).trans (HY2.out Y h1 h2 h3).2⟩⟩
          case measure => simp [intOf]; omega
    · have hfull : sts.take k = sts := List.take_of_length_le (by rw [Hl.out]; omega)
      rw [hfull] at Hst
      go_wp2_with fail
      go_ret
      exact ⟨ret1i (by rw [HN.out]), ⟨_, O.out, ts, HB.out, by rw [Hst.out, HN.out]⟩, hbel, fun Y h1 h2 h3 => (HY.out Y h1 h2 h3).2⟩
theorem rational_add (X : Nat) (s : Int) (sv : Value) (l : List St) (v : Value) (m : Mach) (w0 w : World) (hX : Blk w X #[.int .i64 s, sv] 70) (hB : BldM w (X + 1) sv l) (h : MachAt w0 v m)
    (h0 : Below w0.heap.size w0 w) (hX0 : w0.heap.size ≤ X) (hl : l.length ≤ 1000) (hm : m.states.length ≤ 60) (h400 : arcN m.states ≤ 400) (hgood : ∀ s ∈ m.states, ∀ a ∈ s.arcs, 0 ≤ a.t ∧ a.t ≤ 60) :
    Calls Try.prog 60 #[.pointer (some ⟨X, 0, none⟩), v] w fun e w' => e = .returned (.int .i64 l.length) ∧
      (∃ sv', Blk w' X #[.int .i64 s, sv'] 70 ∧ BldM w' (X + 1) sv' (l ++ m.states.map (shiftSt l.length))) ∧ Below X w w':=
  (rational_addY X s sv l v m w0 w hX hB h h0 hX0 hl hm h400 hgood).mono fun _ _ ⟨h1, h2, h3, _⟩ => ⟨h1, h2, h3⟩
end Go.Proofs.Ytnnmdcagbcdfpaa
