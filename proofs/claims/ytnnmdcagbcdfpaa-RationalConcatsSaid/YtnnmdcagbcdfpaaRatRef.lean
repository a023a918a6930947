/- The reference's helpers for package rational: an empty arc or none; a shifted state; is there room? -/
import Derived.Test.YtnnmdcagbcdfpaaBld2
import Derived.Test.YtnnmdcagbcdfpaaRatPlain
namespace Go.Proofs.Ytnnmdcagbcdfpaa
open Go.RowKit
set_option linter.unusedSimpArgs false
set_option linter.unusedVariables false

theorem ref_hops (st b wt : Int) (w : World) (h : -1 ≤ st ∧ st ≤ 1000) (hb : 0 ≤ b ∧ b ≤ 1000) : Calls Try.prog 63 #[.int .i64 st, .int .i64 b, .int .i64 wt] w fun e w' => ∃ v, e = .returned v ∧ w'.ownsRow w.heap.size 59 4 v (hopsL st b wt).length ((hopsL st b wt).flatMap arCells) ∧ Below w.heap.size w w' := by
  by_cases hs : st < 0
  · have h1 : hopsL st b wt = [] := by unfold hopsL; rw [if_pos hs]
    rw [h1]
    go_enter Try.func63, Try.ntmps63
    go_wp2_with fail
    go_ret
    exact ⟨_, rfl, World.ownsRow_nil _ _ _ _, (by repeat' (first | (with_reducible exact Below.refl _ _) | (with_reducible assumption) | (with_reducible refine Below.dr ?_ _) | (with_reducible refine Below.d1 ?_) | (with_reducible refine Below.al ?_ _) | (with_reducible refine Below.tr ?_ (by assumption)) | (with_reducible refine Below.drewN ?_ _) | (with_reducible refine Below.drew ?_) | (with_reducible refine Below.alloc ?_ ?_ _) | (with_reducible refine Below.setCell ?_ ?_ _) | (with_reducible refine Below.trans ?_ (Below.mono (by assumption) ?_)) | omega | (simp; done) | (simp; omega) | (simp [*]; done)))⟩
  · have h1 : hopsL st b wt = [⟨0, 0, wt, st + b⟩] := by unfold hopsL; rw [if_neg hs]
    rw [h1]
    go_enter Try.func63, Try.ntmps63
    go_wp2_with fail
    go_ret
    exact ⟨_, rfl, owns_one w w.heap.size w.heap.size ⟨0, 0, wt, st + b⟩ (Nat.le_refl _) rfl, (by repeat' (first | (with_reducible exact Below.refl _ _) | (with_reducible assumption) | (with_reducible refine Below.dr ?_ _) | (with_reducible refine Below.d1 ?_) | (with_reducible refine Below.al ?_ _) | (with_reducible refine Below.tr ?_ (by assumption)) | (with_reducible refine Below.drewN ?_ _) | (with_reducible refine Below.drew ?_) | (with_reducible refine Below.alloc ?_ ?_ _) | (with_reducible refine Below.setCell ?_ ?_ _) | (with_reducible refine Below.trans ?_ (Below.mono (by assumption) ?_)) | omega | (simp; done) | (simp; omega) | (simp [*]; done)))⟩

theorem ref_Fits (v : Value) (m : Mach) (base : Nat) (w : World) (h : MachNew w base v m) : Calls Try.prog 54 #[v] w fun e w' => ∃ mv, e = .returned (.tuple #[mv, .int .i64 (fitsE m)]) ∧ MachNew w' base mv (fitsM m) ∧ Below w.heap.size w w' := by
  have HN := Lib.hid h
  obtain ⟨a, len, cap, hv, hl, Hl⟩ := h.opens
  subst hv
  clear h
  obtain ⟨st, sts⟩ := m
  simp only at Hl HN ⊢
  by_cases h60 : 60 < len
  · have h1 : fitsE ⟨st, sts⟩ = 5 := by unfold fitsE; rw [if_pos (Or.inl (by rw [Hl.out]; exact h60))]
    have h2 : fitsM ⟨st, sts⟩ = ⟨0, []⟩ := by unfold fitsM; rw [if_pos (Or.inl (by rw [Hl.out]; exact h60))]
    rw [h1, h2]
    clear h1 h2
    go_enter Try.func54, Try.ntmps54
    go_wp2_with fail
    refine bodyPost_ret (v := .tuple #[.agg #[.int .i64 0, .slice none 0 0], .int .i64 5]) (by simp [results, Try.results54, go_sem]) rfl ⟨_, rfl, MachNew.nil _ _ _, (by repeat' (first | (with_reducible exact Below.refl _ _) | (with_reducible assumption) | (with_reducible refine Below.dr ?_ _) | (with_reducible refine Below.d1 ?_) | (with_reducible refine Below.al ?_ _) | (with_reducible refine Below.tr ?_ (by assumption)) | (with_reducible refine Below.drewN ?_ _) | (with_reducible refine Below.drew ?_) | (with_reducible refine Below.alloc ?_ ?_ _) | (with_reducible refine Below.setCell ?_ ?_ _) | (with_reducible refine Below.trans ?_ (Below.mono (by assumption) ?_)) | omega | (simp; done) | (simp; omega) | (simp [*]; done)))⟩
  · obtain ⟨s, hs⟩ : ∃ s, arcN sts = s := ⟨_, rfl⟩
    have HL60 : Hid (sts.length ≤ 60) := by rw [Hid, Hl.out]; omega
    by_cases hs4 : 400 < s
    · have h1 : fitsE ⟨st, sts⟩ = 5 := by unfold fitsE; rw [if_pos (Or.inr (by rw [hs]; exact hs4))]
      have h2 : fitsM ⟨st, sts⟩ = ⟨0, []⟩ := by unfold fitsM; rw [if_pos (Or.inr (by rw [hs]; exact hs4))]
      rw [h1, h2]
      have Hs := Lib.hid hs
      clear h1 h2 hs
      go_enter Try.func54, Try.ntmps54
      go_wp2_with fail
      refine (ref_ArcCount _ ⟨st, sts⟩ _ (HN.out.at.mono (by repeat' (first | (with_reducible exact Below.refl _ _) | (with_reducible assumption) | (with_reducible refine Below.dr ?_ _) | (with_reducible refine Below.d1 ?_) | (with_reducible refine Below.al ?_ _) | (with_reducible refine Below.tr ?_ (by assumption)) | (with_reducible refine Below.drewN ?_ _) | (with_reducible refine Below.drew ?_) | (with_reducible refine Below.alloc ?_ ?_ _) | (with_reducible refine Below.setCell ?_ ?_ _) | (with_reducible refine Below.trans ?_ (Below.mono (by assumption) ?_)) | omega | (simp; done) | (simp; omega) | (simp [*]; done)))) HL60.out).mono ?_
      rintro e w1 ⟨rfl, b1⟩
      simp only [Hs.out]
      have R1 := Blk.to (Blk.new' (w.alloc _) _ _ (n := w.heap.size + 1) (by simp)) b1
      have r0 := R1.cell 0 rfl; have r1 := R1.cell 1 rfl; have rf0 := R1.free 0; have rf1 := R1.free 1; have rz := R1.lt
      have hb1 : Below w.heap.size w w1 := (by repeat' (first | (with_reducible exact Below.refl _ _) | (with_reducible assumption) | (with_reducible refine Below.dr ?_ _) | (with_reducible refine Below.d1 ?_) | (with_reducible refine Below.al ?_ _) | (with_reducible refine Below.tr ?_ (by assumption)) | (with_reducible refine Below.drewN ?_ _) | (with_reducible refine Below.drew ?_) | (with_reducible refine Below.alloc ?_ ?_ _) | (with_reducible refine Below.setCell ?_ ?_ _) | (with_reducible refine Below.trans ?_ (Below.mono (by assumption) ?_)) | omega | (simp; done) | (simp; omega) | (simp [*]; done)))
      go_wp2_with fail
      have R3 := (R1.set 0 (.int .i64 0)).set 1 (.slice none 0 0)
      refine bodyPost_ret (v := .tuple #[.agg #[.int .i64 0, .slice none 0 0], .int .i64 5]) ?_ rfl ⟨_, rfl, MachNew.nil _ _ _, (hb1.setCell (by simp) _).setCell (by simp) _⟩
      have z0 := R3.cell 0 rfl; have z1 := R3.cell 1 rfl; have zf0 := R3.free 0; have zf1 := R3.free 1; have zz := R3.lt
      simp [results, Try.results54, go_sem, z0, z1]
    · have h1 : fitsE ⟨st, sts⟩ = 0 := by unfold fitsE; rw [if_neg (by simp only; rw [hs, Hl.out]; omega)]
      have h2 : fitsM ⟨st, sts⟩ = ⟨st, sts⟩ := by unfold fitsM; rw [if_neg (by simp only; rw [hs, Hl.out]; omega)]
      rw [h1, h2]
      have Hs := Lib.hid hs
      clear h1 h2 hs
      go_enter Try.func54, Try.ntmps54
      go_wp2_with fail
      refine (ref_ArcCount _ ⟨st, sts⟩ _ (HN.out.at.mono (by repeat' (first | (with_reducible exact Below.refl _ _) | (with_reducible assumption) | (with_reducible refine Below.dr ?_ _) | (with_reducible refine Below.d1 ?_) | (with_reducible refine Below.al ?_ _) | (with_reducible refine Below.tr ?_ (by assumption)) | (with_reducible refine Below.drewN ?_ _) | (with_reducible refine Below.drew ?_) | (with_reducible refine Below.alloc ?_ ?_ _) | (with_reducible refine Below.setCell ?_ ?_ _) | (with_reducible refine Below.trans ?_ (Below.mono (by assumption) ?_)) | omega | (simp; done) | (simp; omega) | (simp [*]; done)))) HL60.out).mono ?_
      rintro e w1 ⟨rfl, b1⟩
      simp only [Hs.out]
      have R1 := Blk.to (Blk.new' (w.alloc _) _ _ (n := w.heap.size + 1) (by simp)) b1
      have M1 := Blk.to (Blk.al (Blk.new w _ _) _) b1
      have r0 := R1.cell 0 rfl; have r1 := R1.cell 1 rfl; have rf0 := R1.free 0; have rf1 := R1.free 1; have rz := R1.lt
      have p0 := M1.cell 0 rfl; have p1 := M1.cell 1 rfl; have pf0 := M1.free 0; have pf1 := M1.free 1; have pz := M1.lt
      have hb1 : Below w.heap.size w w1 := (by repeat' (first | (with_reducible exact Below.refl _ _) | (with_reducible assumption) | (with_reducible refine Below.dr ?_ _) | (with_reducible refine Below.d1 ?_) | (with_reducible refine Below.al ?_ _) | (with_reducible refine Below.tr ?_ (by assumption)) | (with_reducible refine Below.drewN ?_ _) | (with_reducible refine Below.drew ?_) | (with_reducible refine Below.alloc ?_ ?_ _) | (with_reducible refine Below.setCell ?_ ?_ _) | (with_reducible refine Below.trans ?_ (Below.mono (by assumption) ?_)) | omega | (simp; done) | (simp; omega) | (simp [*]; done)))
      go_wp2_with fail
      have R3 := (R1.set 0 (.int .i64 st)).set 1 (.slice a len cap)
      have hb3 : Below w.heap.size w ((w1.setCell ⟨w.heap.size + 1, 0, none⟩ (.int .i64 st)).setCell ⟨w.heap.size + 1, 1, none⟩ (.slice a len cap)) := (hb1.setCell (by simp) _).setCell (by simp) _
      refine bodyPost_ret (v := .tuple #[.agg #[.int .i64 st, .slice a len cap], .int .i64 0]) ?_ rfl ⟨_, rfl, HN.out.below hb3, hb3⟩
      have z0 := R3.cell 0 rfl; have z1 := R3.cell 1 rfl; have zf0 := R3.free 0; have zf1 := R3.free 1; have zz := R3.lt
      simp [results, Try.results54, go_sem, z0, z1]

/-- A state that a call has made: its arcs' row is new. -/
def StNew (w : World) (base : Nat) (v : Value) (s : St) : Prop := ∃ a cap, v = .agg #[.int .i64 s.fin, .slice a s.arcs.length cap] ∧ w.ownsRow base 59 4 (.slice a s.arcs.length cap) s.arcs.length (s.arcs.flatMap arCells)

set_option maxRecDepth 100000 in
set_option maxHeartbeats 4000000 in
theorem ref_shifted (fin b f : Int) (av mv : Value) (arcs more : List Ar) (w : World) (h : ArcsAt w av arcs) (g : ArcsAt w mv more) (hn : arcs.length ≤ 1000) (hm : more.length ≤ 1000) (hb : 0 ≤ b ∧ b ≤ 1000) (ht : ∀ a ∈ arcs, 0 ≤ a.t ∧ a.t ≤ 1000) :
    Calls Try.prog 64 #[.agg #[.int .i64 fin, av], .int .i64 b, .int .i64 f, mv] w fun e w' => ∃ v, e = .returned v ∧ StNew w' w.heap.size v ⟨f, arcs.map (shiftAr b) ++ more⟩ ∧ Below w.heap.size w w' := by
  obtain ⟨a1, n1, cap1, rfl, hl1, H, Hl⟩ := ArcsAt.opens h
  obtain ⟨a2, n2, cap2, rfl, hl2, G, Gl⟩ := ArcsAt.opens g
  have HT := Lib.hid ht
  have hn1 : n1 ≤ 1000 := by have := Hl.out; omega
  have hn2 : n2 ≤ 1000 := by have := Gl.out; omega
  clear h g ht hn hm
  go_enter Try.func64, Try.ntmps64
  go_wp2_with fail
  obtain ⟨wo, hwo⟩ : ∃ wo : World, wo = (((w.alloc (.cells #[.int .i64 fin, .slice a1 n1 cap1] 55)).alloc (.cells #[.int .i64 0, .slice none 0 0] 55)).alloc (.cells #[.int .i64 f, .slice none 0 0] 55)) := ⟨_, rfl⟩
  have hso : wo.heap.size = w.heap.size + 1 + 1 + 1 := by rw [hwo]; simp
  have bo : Below w.heap.size w wo := by rw [hwo]; exact (by repeat' (first | (with_reducible exact Below.refl _ _) | (with_reducible assumption) | (with_reducible refine Below.dr ?_ _) | (with_reducible refine Below.d1 ?_) | (with_reducible refine Below.al ?_ _) | (with_reducible refine Below.tr ?_ (by assumption)) | (with_reducible refine Below.drewN ?_ _) | (with_reducible refine Below.drew ?_) | (with_reducible refine Below.alloc ?_ ?_ _) | (with_reducible refine Below.setCell ?_ ?_ _) | (with_reducible refine Below.trans ?_ (Below.mono (by assumption) ?_)) | omega | (simp; done) | (simp; omega) | (simp [*]; done)))
  have To : Blk wo (w.heap.size + 1 + 1) #[.int .i64 f, .slice none 0 0] 55 := by rw [hwo]; exact Blk.new' _ _ _ (by simp)
  have So : Blk wo w.heap.size #[.int .i64 fin, .slice a1 n1 cap1] 55 := by rw [hwo]; exact ((Blk.new w _ _).al _).al _
  have Ro : Blk wo (w.heap.size + 1) #[.int .i64 0, .slice none 0 0] 55 := by rw [hwo]; exact (Blk.new' _ _ _ (by simp)).al _
  rw [← hwo]
  have Hso := Lib.hid hso
  have HSo := Lib.hid So
  have HRo := Lib.hid Ro
  clear hwo hso So Ro
  go_loopw [10] (fun i wi => ∃ (j : Nat) (av1 : Option Addr) (av2 : Nat), j ≤ n1 ∧ i = .int .i64 j ∧ Blk wi (w.heap.size + 1 + 1) #[.int .i64 f, .slice av1 j av2] 55 ∧ wi.ownsRow (w.heap.size + 1 + 1 + 1) 59 4 (.slice av1 j av2) j (((arcs.take j).map (shiftAr b)).flatMap arCells) ∧
    Below (w.heap.size + 1 + 1) wo wi) (fun i _ => n1 - (intOf i).toNat)
  case atStart => exact ⟨0, none, 0, Nat.zero_le _, rfl, To, World.ownsRow_nil _ _ _ _, Below.refl _ _⟩
  case round =>
    obtain ⟨wi, rfl⟩ : ∃ wi : World, wi = wr := ⟨_, rfl⟩
    obtain ⟨j, av1, av2, hj, rfl, hT, hown, hbi⟩ := hrel
    have T := Lib.hid hT
    have Hown := Lib.hid hown
    have hsi := hbi.size
    rw [Hso.out] at hsi
    have bi : Below w.heap.size w wi := bo.trans (hbi.mono (by omega))
    have Hbi := Lib.hid hbi
    have Si := Lib.hid (HSo.out.under hbi (by omega))
    have s1 := Si.out.cell 1 rfl
    have sz := Si.out.lt
    clear hT hown hbi
    have t0 := T.out.cell 0 rfl; have t1 := T.out.cell 1 rfl; have tf0 := T.out.free 0; have tf1 := T.out.free 1; have tz := T.out.lt
    by_cases hlj : j < n1
    · obtain ⟨b', o', y, rfl, hy, e0, e1, e2, e3⟩ := ArcsAt.at (ArcsAt.mono H.out bi) hlj
      have hb2 := blt e0
      have Hy := Lib.hid hy
      have hyt := HT.out y (List.mem_of_getElem? hy)
      have hlen : ((arcs.take j).map (shiftAr b)).length = j := by
        rw [List.length_map, List.length_take, Hl.out]; omega
      have Hlen := Lib.hid hlen
      clear hy hlen
      obtain ⟨yi, yo, yw, yt⟩ := y
      simp only at e0 e1 e2 e3 hyt
      go_wp2_with (at_builtin; refine Mark.intro ?_)
      refine Mark.out ?_
      refine wpList_append_n rfl _ _ 53 rfl (w.heap.size + 1 + 1 + 1) 59 4 32 (.agg #[.int .i64 0, .int .i64 0, .int .i64 0, .int .i64 0]) Try.underlying53 (by kernel_rfl) rfl (by omega) (by omega) arCells arCells_len _ ((arcs.take j).map (shiftAr b)) j Hlen.out rfl (World.ownsRow.below Hown.out (by repeat' (first | (with_reducible exact Below.refl _ _) | (with_reducible assumption) | (with_reducible refine Below.dr ?_ _) | (with_reducible refine Below.d1 ?_) | (with_reducible refine Below.al ?_ _) | (with_reducible refine Below.tr ?_ (by assumption)) | (with_reducible refine Below.drewN ?_ _) | (with_reducible refine Below.drew ?_) | (with_reducible refine Below.alloc ?_ ?_ _) | (with_reducible refine Below.setCell ?_ ?_ _) | (with_reducible refine Below.trans ?_ (Below.mono (by assumption) ?_)) | omega | (simp; done) | (simp; omega) | (simp [*]; done)))) (shiftAr b ⟨yi, yo, yw, yt⟩) (arCells_one _) ⟨wi.heap.size + 1, 0, none⟩ 1 rfl (new_row_cells' _ (arCells (shiftAr b ⟨yi, yo, yw, yt⟩)) _ _ (by simp)) (by omega) (by simp; omega) ?_
      intro v3 w3 own3 hv3 gr3
      have hst := arc_step (y := shiftAr b ⟨yi, yo, yw, yt⟩) (by omega) hsi T.out Hown.out Hbi.out (by repeat' (first | (with_reducible exact Below.refl _ _) | (with_reducible assumption) | (with_reducible refine Below.dr ?_ _) | (with_reducible refine Below.d1 ?_) | (with_reducible refine Below.al ?_ _) | (with_reducible refine Below.tr ?_ (by assumption)) | (with_reducible refine Below.drewN ?_ _) | (with_reducible refine Below.drew ?_) | (with_reducible refine Below.alloc ?_ ?_ _) | (with_reducible refine Below.setCell ?_ ?_ _) | (with_reducible refine Below.trans ?_ (Below.mono (by assumption) ?_)) | omega | (simp; done) | (simp; omega) | (simp [*]; done))) own3 gr3
      obtain ⟨g3, cap3, rfl, -, -⟩ := hv3
      obtain ⟨k1, k2, k3, k4, k5⟩ := hst
      have K1 := Lib.hid k1
      have K2 := Lib.hid k2
      have K3 := Lib.hid k3
      have t1' := k5.cell 1 rfl
      have t1f := k5.free 1
      clear k1 k2 k3 k5 own3 gr3
      go_wp2_with fail
      go_roundw
      case rel => exact ⟨j + 1, _, _, by omega, by go_num, K1.out, by rw [take_snoc Hy.out, List.map_append]; exact K2.out, K3.out⟩
      case measure => simp [intOf]; omega
    · have hfull : arcs.take j = arcs := List.take_of_length_le (by rw [Hl.out]; omega)
      rw [hfull] at Hown
      obtain rfl : n1 = j := by omega
      have Bi := Lib.hid bi
      clear bi hfull t0 t1 tf0 tf1 tz
      obtain ⟨wp, rfl⟩ : ∃ wp : World, wp = wi := ⟨_, rfl⟩
      go_wp2_with fail
      go_loopw [12] (fun i wi => ∃ (j : Nat) (av1 : Option Addr) (av2 : Nat), j ≤ n2 ∧ i = .int .i64 j ∧ Blk wi (w.heap.size + 1 + 1) #[.int .i64 f, .slice av1 (n1 + j) av2] 55 ∧ wi.ownsRow (w.heap.size + 1 + 1 + 1) 59 4 (.slice av1 (n1 + j) av2) (n1 + j) ((arcs.map (shiftAr b) ++ more.take j).flatMap arCells) ∧
        Below (w.heap.size + 1 + 1) wo wi) (fun i _ => n2 - (intOf i).toNat)
      case atStart => exact ⟨0, _, _, Nat.zero_le _, rfl, T.out, by simpa using Hown.out, Hbi.out⟩
      case round =>
        obtain ⟨wi, rfl⟩ : ∃ wi : World, wi = wr := ⟨_, rfl⟩
        clear hj T Hown
        obtain ⟨j, av1, av2, hj, rfl, hT, hown, hbi⟩ := hrel
        have T := Lib.hid hT
        have Hown := Lib.hid hown
        have hsi2 := hbi.size
        rw [Hso.out] at hsi2
        have bi : Below w.heap.size w wi := bo.trans (hbi.mono (by omega))
        have hbt := Lib.hid hbi
        clear hT hown hbi
        have t0 := T.out.cell 0 rfl; have t1 := T.out.cell 1 rfl; have tf0 := T.out.free 0; have tf1 := T.out.free 1; have tz := T.out.lt
        by_cases hlj : j < n2
        · obtain ⟨b', o', y, rfl, hy, e0, e1, e2, e3⟩ := ArcsAt.at (ArcsAt.mono G.out bi) hlj
          have hb2 := blt e0
          have Hy := Lib.hid hy
          have hlen : (arcs.map (shiftAr b) ++ more.take j).length = n1 + j := by
            rw [List.length_append, List.length_map, List.length_take, Gl.out, Hl.out]; omega
          have Hlen := Lib.hid hlen
          clear hy hlen
          obtain ⟨yi, yo, yw, yt⟩ := y
          simp only at e0 e1 e2 e3
          go_wp2_with fail
          refine region_any_w (fun w' => w'.cell? ⟨w.heap.size + 1 + 1, 1, none⟩ = some (.slice av1 (n1 + j) av2) ∧ w'.cell? ⟨b', o' + j * 4, none⟩ = some (.int .i64 yi) ∧ w'.cell? ⟨b', o' + j * 4 + 1, none⟩ = some (.int .i64 yo) ∧ w'.cell? ⟨b', o' + j * 4 + 2, none⟩ = some (.int .i64 yw) ∧ w'.cell? ⟨b', o' + j * 4 + 3, none⟩ = some (.int .i64 yt) ∧ w'.frozen? ⟨w.heap.size + 1 + 1, 1, none⟩ = false) 9 10 rfl (by kernel_rfl) ⟨t1, e0, e1, e2, e3, tf1⟩ (fun wd hwd hS => ?_)
          have bd : Below wi.heap.size wi wd := by rw [hwd]; exact (by repeat' (first | (with_reducible exact Below.refl _ _) | (with_reducible assumption) | (with_reducible refine Below.dr ?_ _) | (with_reducible refine Below.d1 ?_) | (with_reducible refine Below.al ?_ _) | (with_reducible refine Below.tr ?_ (by assumption)) | (with_reducible refine Below.drewN ?_ _) | (with_reducible refine Below.drew ?_) | (with_reducible refine Below.alloc ?_ ?_ _) | (with_reducible refine Below.setCell ?_ ?_ _) | (with_reducible refine Below.trans ?_ (Below.mono (by assumption) ?_)) | omega | (simp; done) | (simp; omega) | (simp [*]; done)))
          have Td := Lib.hid (T.out.to bd)
          have hbd := Lib.hid (bi.trans (bd.mono (by omega)))
          have ownd := Lib.hid (Hown.out.below bd)
          have hsd := bd.size
          clear hwd t0 t1 tf0 tf1 tz
          (refine any_take 0 (v := ?_) (by kernel_rfl) rfl rfl (by kernel_rfl) (by kernel_rfl) (by kernel_rfl) (fun _ _ _ h => h) (Or.inl ⟨by rfl, ?_⟩) (by assumption) ?_; rotate_left; (focus (intro w' hS'; (try dsimp only at hS'); go_split_ands; go_simp; try with_reducible rfl)); try simp only [Act.put, List.setIfInBounds_toArray, List.set_cons_zero, List.set_cons_succ])
          (refine any_take 1 (v := ?_) (by kernel_rfl) rfl rfl (by kernel_rfl) (by kernel_rfl) (by kernel_rfl) (fun _ _ _ h => h) (Or.inl ⟨by rfl, ?_⟩) (by assumption) ?_; rotate_left; (focus (intro w' hS'; (try dsimp only at hS'); go_split_ands; go_simp; try with_reducible rfl)); try simp only [Act.put, List.setIfInBounds_toArray, List.set_cons_zero, List.set_cons_succ])
          (refine any_take 2 (v := ?_) (by kernel_rfl) rfl rfl (by kernel_rfl) (by kernel_rfl) (by kernel_rfl) (fun _ _ _ h => h) (Or.inl ⟨by rfl, ?_⟩) (by assumption) ?_; rotate_left; (focus (intro w' hS'; (try dsimp only at hS'); go_split_ands; go_simp; try with_reducible rfl)); try simp only [Act.put, List.setIfInBounds_toArray, List.set_cons_zero, List.set_cons_succ])
          (refine any_take 3 (v := ?_) (by kernel_rfl) rfl rfl (by kernel_rfl) (by kernel_rfl) (by kernel_rfl) (fun _ _ _ h => h) (Or.inl ⟨by rfl, ?_⟩) (by assumption) ?_; rotate_left; (focus (intro w' hS'; (try dsimp only at hS'); go_split_ands; go_simp; try with_reducible rfl)); try simp only [Act.put, List.setIfInBounds_toArray, List.set_cons_zero, List.set_cons_succ])
          (refine any_take 4 (v := ?_) (by kernel_rfl) rfl rfl (by kernel_rfl) (by kernel_rfl) (by kernel_rfl) (fun _ _ _ h => h) (Or.inl ⟨by rfl, ?_⟩) (by assumption) ?_; rotate_left; (focus (intro w' hS'; (try dsimp only at hS'); go_split_ands; go_simp; try with_reducible rfl)); try simp only [Act.put, List.setIfInBounds_toArray, List.set_cons_zero, List.set_cons_succ])
          (refine any_take 5 (v := ?_) (by kernel_rfl) rfl rfl (by kernel_rfl) (by kernel_rfl) (by kernel_rfl) (fun _ _ _ h => h) (Or.inl ⟨by rfl, ?_⟩) (by assumption) ?_; rotate_left; (focus (intro w' hS'; (try dsimp only at hS'); go_split_ands; go_simp; try with_reducible rfl)); try simp only [Act.put, List.setIfInBounds_toArray, List.set_cons_zero, List.set_cons_succ])
          refine any_one 6 (by kernel_rfl) rfl (fun K hK => ?_)
          rw [if_pos (by rfl)]
          go_simp
          refine any_hand hK (fun _ => ⟨cell_al hS.1 _, cell_al hS.2.1 _, cell_al hS.2.2.1 _, cell_al hS.2.2.2.1 _, cell_al hS.2.2.2.2.1 _, frozen_al hS.1 hS.2.2.2.2.2 _⟩) (fun hx => ?_)
          clear hx hK K
          refine any_one 7 (by kernel_rfl) rfl (fun K hK => ?_)
          refine step_append_n rfl _ _ 53 rfl (w.heap.size + 1 + 1 + 1) 59 4 32 (.agg #[.int .i64 0, .int .i64 0, .int .i64 0, .int .i64 0]) Try.underlying53 (by kernel_rfl) rfl (by omega) (by omega) arCells arCells_len _ (arcs.map (shiftAr b) ++ more.take j) (n1 + j) Hlen.out rfl (ownd.out.alloc _) (⟨yi, yo, yw, yt⟩ : Ar) (arCells_one _) ⟨wd.heap.size, 0, none⟩ 1 rfl (new_row_cells' _ (arCells ⟨yi, yo, yw, yt⟩) _ _ (by simp)) (by omega) (by simp; omega) ?_
          intro v3 w3 own3 hv3 gr3
          have hst := arc_step (y := (⟨yi, yo, yw, yt⟩ : Ar)) (by omega) (by omega) T.out Hown.out hbt.out (Below.al bd _) own3 gr3
          have hmore : w3.cell? ⟨b', o' + j * 4, none⟩ = some (.int .i64 yi) ∧ w3.cell? ⟨b', o' + j * 4 + 1, none⟩ = some (.int .i64 yo) ∧ w3.cell? ⟨b', o' + j * 4 + 2, none⟩ = some (.int .i64 yw) ∧ w3.cell? ⟨b', o' + j * 4 + 3, none⟩ = some (.int .i64 yt) := by
            have key : w3.heap[b']? = wd.heap[b']? := by
              refine (gr3.block b' (by have := blt hS.2.1; simp; omega) ?_).trans (Below.heap_alloc _ _ _ (blt hS.2.1))
              exact arc_far G.out hlj Hown.out (by omega)
            exact ⟨(World.cell?_of_block (w := wd) (a := ⟨b', _, none⟩) key).trans hS.2.1, (World.cell?_of_block (w := wd) (a := ⟨b', _, none⟩) key).trans hS.2.2.1, (World.cell?_of_block (w := wd) (a := ⟨b', _, none⟩) key).trans hS.2.2.2.1, (World.cell?_of_block (w := wd) (a := ⟨b', _, none⟩) key).trans hS.2.2.2.2.1⟩
          obtain ⟨g3, cap3, rfl, -, -⟩ := hv3
          obtain ⟨k1, k2, k3, k4, k5⟩ := hst
          have K1 := Lib.hid k1
          have K2 := Lib.hid k2
          have K3 := Lib.hid k3
          have K5 := Lib.hid k5
          clear k1 k2 k3 k5 own3 gr3 hS
          have hS := And.intro (K5.out.cell 1 rfl) (And.intro hmore.1 (And.intro hmore.2.1 (And.intro hmore.2.2.1 (And.intro hmore.2.2.2 (K5.out.free 1)))))
          refine any_hand hK (fun _ => hS) (fun hx => ?_)
          clear hx hK K
          (refine any_take 8 (v := ?_) (by kernel_rfl) rfl rfl (by kernel_rfl) (by kernel_rfl) (by kernel_rfl) (fun _ _ _ h => h) (Or.inl ⟨by rfl, ?_⟩) (by assumption) ?_; rotate_left; (focus (intro w' hS'; (try dsimp only at hS'); go_split_ands; go_simp; try with_reducible rfl)); try simp only [Act.put, List.setIfInBounds_toArray, List.set_cons_zero, List.set_cons_succ])
          clear hS hmore
          refine any_one 9 (by kernel_rfl) rfl (fun K hK => ?_)
          have t1' := K5.out.cell 1 rfl
          have t1f := K5.out.free 1
          rw [if_pos (by rfl)]
          go_simp
          refine any_hand hK (fun h => absurd rfl h) (fun hx => ?_)
          clear hx hK K
          refine any_done (by kernel_rfl) ?_
          go_wp2_with fail
          go_roundw
          case rel => exact ⟨j + 1, _, _, by omega, by go_num, K1.out, by rw [take_snoc Hy.out, ← List.append_assoc]; exact K2.out, K3.out⟩
          case measure => simp [intOf]; omega
        · have hfull : more.take j = more := List.take_of_length_le (by rw [Gl.out]; omega)
          rw [hfull] at Hown
          obtain rfl : n2 = j := by omega
          have Ri := HRo.out.under hbt.out (by omega)
          have r0 := Ri.cell 0 rfl; have r1 := Ri.cell 1 rfl; have rf0 := Ri.free 0; have rf1 := Ri.free 1; have rz := Ri.lt
          go_wp2_with fail
          have R3 := (Ri.set 0 (.int .i64 f)).set 1 (.slice av1 (n1 + n2) av2)
          have hlen : (arcs.map (shiftAr b) ++ more).length = n1 + n2 := by rw [List.length_append, List.length_map, Gl.out, Hl.out]
          have ownR := ((Hown.out.stored' (p := ⟨w.heap.size + 1, 0, none⟩) (by simp) (.int .i64 f)).stored' (p := ⟨w.heap.size + 1, 1, none⟩) (by simp) (.slice av1 (n1 + n2) av2)).lower (b := w.heap.size) (by omega)
          refine bodyPost_ret (v := .agg #[.int .i64 f, .slice av1 (n1 + n2) av2]) ?_ rfl ⟨_, rfl, ⟨av1, av2, by rw [hlen], by simp only [hlen]; exact ownR⟩, (bi.setCell (by simp) _).setCell (by simp) _⟩
          have x0 := R3.cell 0 rfl; have x1 := R3.cell 1 rfl; have xf0 := R3.free 0; have xf1 := R3.free 1; have xz := R3.lt
          simp [results, Try.results64, go_sem, x0, x1]
end Go.Proofs.Ytnnmdcagbcdfpaa
