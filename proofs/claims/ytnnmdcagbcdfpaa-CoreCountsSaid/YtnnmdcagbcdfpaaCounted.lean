/- ref.Counted: what a machine has. -/
import Derived.Test.YtnnmdcagbcdfpaaCount
import Derived.Test.YtnnmdcagbcdfpaaOrder
namespace Go.Proofs.Ytnnmdcagbcdfpaa
open Go.RowKit
set_option linter.unusedSimpArgs false
set_option linter.unusedVariables false


set_option maxHeartbeats 2000000 in
theorem ref_Counted (v : Value) (m : Mach) (w : World) (h : MachAt w v m) : Calls Try.prog 17 #[v] w fun e w' => e = .returned (.tuple #[.agg #[.int .i64 (cnt0 m), .int .i64 (cnt1 m), .int .i64 (cnt2 m)], .int .i64 (machE m)]) ∧ Below w.heap.size w w' := by
  have HM := Lib.hid h
  obtain ⟨a, len, cap, rfl, hl, H, Hl⟩ := MachAt.opens h
  clear h
  obtain ⟨E, hE⟩ : ∃ E, machE m = E := ⟨_, rfl⟩
  obtain ⟨st, sts⟩ := m
  simp only at H Hl HM hE ⊢
  by_cases hz : E = 0
  · subst hz
    have h0 : cnt0 ⟨st, sts⟩ = len := by simp only [cnt0, hE, if_true, Hl.out]
    have h1 : cnt1 ⟨st, sts⟩ = arcN sts := by simp only [cnt1, hE, if_true]
    have h2 : cnt2 ⟨st, sts⟩ = finN sts := by simp only [cnt2, hE, if_true]
    rw [h0, h1, h2, hE]
    have hg := machE_zero hE
    simp only at hg
    have HE := Lib.hid hE
    clear h0 h1 h2 hE
    have h60 : len ≤ 60 := by have := hg.1; rw [Hl.out] at this; exact this
    have HG := Lib.hid hg
    clear hg
    go_enter Try.func17, Try.ntmps17
    go_wp2_with fail
    refine (ref_Fault_as 0 _ ⟨st, sts⟩ _ (HM.out.mono (by repeat' (first | (with_reducible exact Below.refl _ _) | (with_reducible assumption) | (with_reducible refine Below.dr ?_ _) | (with_reducible refine Below.d1 ?_) | (with_reducible refine Below.al ?_ _) | (with_reducible refine Below.tr ?_ (by assumption)) | (with_reducible refine Below.drewN ?_ _) | (with_reducible refine Below.drew ?_) | (with_reducible refine Below.alloc ?_ ?_ _) | (with_reducible refine Below.setCell ?_ ?_ _) | (with_reducible refine Below.trans ?_ (Below.mono (by assumption) ?_)) | omega | (simp; done) | (simp; omega) | (simp [*]; done)))) HE.out).mono ?_
    rintro e w1 ⟨rfl, b1⟩
    have hb1 : Below w.heap.size w w1 := (by repeat' (first | (with_reducible exact Below.refl _ _) | (with_reducible assumption) | (with_reducible refine Below.dr ?_ _) | (with_reducible refine Below.d1 ?_) | (with_reducible refine Below.al ?_ _) | (with_reducible refine Below.tr ?_ (by assumption)) | (with_reducible refine Below.drewN ?_ _) | (with_reducible refine Below.drew ?_) | (with_reducible refine Below.alloc ?_ ?_ _) | (with_reducible refine Below.setCell ?_ ?_ _) | (with_reducible refine Below.trans ?_ (Below.mono (by assumption) ?_)) | omega | (simp; done) | (simp; omega) | (simp [*]; done)))
    have M1 := Blk.to (Blk.al (Blk.new w _ _) _) b1
    have R1 := Lib.hid (Blk.to (Blk.new' _ _ _ (n := w.heap.size + 1) (by simp)) b1)
    have p0 := M1.cell 0 rfl; have p1 := M1.cell 1 rfl; have pf0 := M1.free 0; have pf1 := M1.free 1; have pz := M1.lt
    go_wp2_with fail
    go_loop [5, 6] (fun t i => ∃ (k f : Nat), k ≤ len ∧ i = .int .i64 k ∧ t = .int .i64 f ∧ f = finN (sts.take k) ∧ f ≤ k) (fun _ i => len - (intOf i).toNat)
    case atStart => exact ⟨0, 0, Nat.zero_le _, rfl, rfl, rfl, by omega⟩
    case round =>
      obtain ⟨k, f, hk, rfl, rfl, hf, hfk⟩ := hrel
      have Hf := Lib.hid hf
      clear hf
      by_cases hlt : k < len
      · obtain ⟨b, o, x, av, rfl, hx, d0, d1, dA⟩ := StatesAt.at (StatesAt.mono H.out hb1) hlt
        have hb0 := blt d0
        have Hx := Lib.hid hx
        have hxf := (HG.out.2.2.2 x (List.mem_of_getElem? hx)).1
        simp only [finOk, decide_eq_true_eq] at hxf
        clear hx dA
        obtain ⟨fin, arcs⟩ := x
        simp only at d0 hxf
        by_cases hfin : fin = 1000000001
        · subst hfin
          go_wp2_with fail
          go_round
          case rel => exact ⟨k + 1, f, by omega, by go_num, rfl, by rw [take_snoc Hx.out, finN_no _ _ rfl, Hf.out], by omega⟩
          case measure => simp [intOf]; omega
        · have hlf : fin < 1000000001 := by omega
          have HF := Lib.hid hfin
          clear hfin
          go_wp2_with fail
          go_round
          case rel => exact ⟨k + 1, f + 1, by omega, by go_num, by go_num, by rw [take_snoc Hx.out, finN_yes _ _ HF.out, Hf.out], by omega⟩
          case measure => simp [intOf]; omega
      · have hfull : sts.take k = sts := List.take_of_length_le (by rw [Hl.out]; omega)
        rw [hfull] at Hf
        have HL60 : Hid (sts.length ≤ 60) := by rw [Hid, Hl.out]; exact h60
        go_wp2_with fail
        refine region_any (fun w' => w'.cell? ⟨w.heap.size, 0, none⟩ = some (.int .i64 st) ∧ w'.cell? ⟨w.heap.size, 1, none⟩ = some (.slice a len cap) ∧ ∃ x y z, Blk w' (w.heap.size + 1) #[x, y, z] 26) 8 9 rfl (by kernel_rfl) ⟨p0, p1, _, _, _, R1.out⟩ (fun hS => ?_)
        (refine any_take 0 (v := ?_) (by kernel_rfl) rfl rfl (by kernel_rfl) (by kernel_rfl) (by kernel_rfl) (fun _ _ _ h => h) (Or.inl ⟨by rfl, ?_⟩) (by assumption) ?_; rotate_left; (focus (intro w' hS'; (try dsimp only at hS'); go_split_ands; go_simp; try with_reducible rfl)); try simp only [Act.put, List.setIfInBounds_toArray, List.set_cons_zero, List.set_cons_succ])
        (refine any_take 1 (v := ?_) (by kernel_rfl) rfl rfl (by kernel_rfl) (by kernel_rfl) (by kernel_rfl) (fun _ _ _ h => h) (Or.inl ⟨by rfl, ?_⟩) (by assumption) ?_; rotate_left; (focus (intro w' hS'; (try dsimp only at hS'); go_split_ands; go_simp; try with_reducible rfl)); try simp only [Act.put, List.setIfInBounds_toArray, List.set_cons_zero, List.set_cons_succ])
        (refine any_take 2 (v := ?_) (by kernel_rfl) rfl rfl (by kernel_rfl) (by kernel_rfl) (by kernel_rfl) (fun _ _ _ h => h) (Or.inl ⟨by rfl, ?_⟩) (by assumption) ?_; rotate_left; (focus (intro w' hS'; (try dsimp only at hS'); go_split_ands; go_simp; try with_reducible rfl)); try simp only [Act.put, List.setIfInBounds_toArray, List.set_cons_zero, List.set_cons_succ])
        (refine any_take 3 (v := ?_) (by kernel_rfl) rfl rfl (by kernel_rfl) (by kernel_rfl) (by kernel_rfl) (fun _ _ _ h => h) (Or.inl ⟨by rfl, ?_⟩) (by assumption) ?_; rotate_left; (focus (intro w' hS'; (try dsimp only at hS'); go_split_ands; go_simp; try with_reducible rfl)); try simp only [Act.put, List.setIfInBounds_toArray, List.set_cons_zero, List.set_cons_succ])
        (refine any_take 5 (v := ?_) (by kernel_rfl) rfl rfl (by kernel_rfl) (by kernel_rfl) (by kernel_rfl) (fun _ _ _ h => h) (Or.inl ⟨by rfl, ?_⟩) (by assumption) ?_; rotate_left; (focus (intro w' hS'; (try dsimp only at hS'); go_split_ands; go_simp; try with_reducible rfl)); try simp only [Act.put, List.setIfInBounds_toArray, List.set_cons_zero, List.set_cons_succ])
        refine any_one 4 (by kernel_rfl) rfl (fun K hK => ?_)
        go_wp2_with (go_at_call 46; refine (ref_ArcCount _ ⟨st, sts⟩ _ (HM.out.mono (by repeat' (first | (with_reducible exact Below.refl _ _) | (with_reducible assumption) | (with_reducible refine Below.dr ?_ _) | (with_reducible refine Below.d1 ?_) | (with_reducible refine Below.al ?_ _) | (with_reducible refine Below.tr ?_ (by assumption)) | (with_reducible refine Below.drewN ?_ _) | (with_reducible refine Below.drew ?_) | (with_reducible refine Below.alloc ?_ ?_ _) | (with_reducible refine Below.setCell ?_ ?_ _) | (with_reducible refine Below.trans ?_ (Below.mono (by assumption) ?_)) | omega | (simp; done) | (simp; omega) | (simp [*]; done)))) HL60.out).mono ?_; rintro e w2 ⟨rfl, b2⟩)
        have hb2 : Below w.heap.size w w2 := Below.tr (Below.d1 hb1) b2
        have R2 := Lib.hid (Blk.to R1.out.d1 b2)
        have p0' : w2.cell? ⟨w.heap.size, 0, none⟩ = some (.int .i64 st) := Below.cellTo b2 hS.1
        have p1' : w2.cell? ⟨w.heap.size, 1, none⟩ = some (.slice a len cap) := Below.cellTo b2 hS.2.1
        clear hS
        have hS : w2.cell? ⟨w.heap.size, 0, none⟩ = some (.int .i64 st) ∧ w2.cell? ⟨w.heap.size, 1, none⟩ = some (.slice a len cap) ∧ ∃ x y z, Blk w2 (w.heap.size + 1) #[x, y, z] 26 := ⟨p0', p1', _, _, _, R2.out⟩
        refine any_hand hK (fun _ => hS) (fun hx => ?_)
        clear hx hK K
        (refine any_take 6 (v := ?_) (by kernel_rfl) rfl rfl (by kernel_rfl) (by kernel_rfl) (by kernel_rfl) (fun _ _ _ h => h) (Or.inl ⟨by rfl, ?_⟩) (by assumption) ?_; rotate_left; (focus (intro w' hS'; (try dsimp only at hS'); go_split_ands; go_simp; try with_reducible rfl)); try simp only [Act.put, List.setIfInBounds_toArray, List.set_cons_zero, List.set_cons_succ])
        refine any_one 7 (by kernel_rfl) rfl (fun K hK => ?_)
        have r0 := R2.out.cell 0 rfl; have r1 := R2.out.cell 1 rfl; have r2 := R2.out.cell 2 rfl; have rf0 := R2.out.free 0; have rf1 := R2.out.free 1; have rf2 := R2.out.free 2; have rz := R2.out.lt
        rw [if_pos (by rfl)]
        go_simp
        have R3 := ((R2.out.set 0 (.int .i64 len)).set 1 (.int .i64 (arcN sts))).set 2 (.int .i64 f)
        refine any_hand hK (fun _ => ⟨by simp [go_sem, p0'], by simp [go_sem, p1'], _, _, _, R3⟩) (fun hx => ?_)
        clear hx hK K
        refine any_one 8 (by kernel_rfl) rfl (fun K hK => ?_)
        rw [if_pos (by rfl)]
        go_simp
        refine any_hand hK (fun h => absurd rfl h) (fun hx => ?_)
        clear hx hK K
        refine any_done (by kernel_rfl) ?_
        go_wp2_with fail
        refine bodyPost_ret (v := .tuple #[.agg #[.int .i64 len, .int .i64 (arcN sts), .int .i64 f], .int .i64 0]) ?_ rfl ⟨by rw [Hf.out], ?_⟩
        · have x0 := R3.cell 0 rfl; have x1 := R3.cell 1 rfl; have x2 := R3.cell 2 rfl; have xf0 := R3.free 0; have xf1 := R3.free 1; have xf2 := R3.free 2; have xz := R3.lt
          simp [results, Try.results17, go_sem, x0, x1, x2]
        · exact ((hb2.setCell (by simp) _).setCell (by simp) _).setCell (by simp) _
  · have h0 : cnt0 ⟨st, sts⟩ = 0 := by simp only [cnt0, hE]; exact if_neg hz
    have h1 : cnt1 ⟨st, sts⟩ = 0 := by simp only [cnt1, hE]; exact if_neg hz
    have h2 : cnt2 ⟨st, sts⟩ = 0 := by simp only [cnt2, hE]; exact if_neg hz
    rw [h0, h1, h2, hE]
    have HE := Lib.hid hE
    have hEb : (E != 0) = true := by simp [hz]
    clear h0 h1 h2 hE hz
    go_enter Try.func17, Try.ntmps17
    go_wp2_with fail
    refine (ref_Fault_as E _ ⟨st, sts⟩ _ (HM.out.mono (by repeat' (first | (with_reducible exact Below.refl _ _) | (with_reducible assumption) | (with_reducible refine Below.dr ?_ _) | (with_reducible refine Below.d1 ?_) | (with_reducible refine Below.al ?_ _) | (with_reducible refine Below.tr ?_ (by assumption)) | (with_reducible refine Below.drewN ?_ _) | (with_reducible refine Below.drew ?_) | (with_reducible refine Below.alloc ?_ ?_ _) | (with_reducible refine Below.setCell ?_ ?_ _) | (with_reducible refine Below.trans ?_ (Below.mono (by assumption) ?_)) | omega | (simp; done) | (simp; omega) | (simp [*]; done)))) HE.out).mono ?_
    rintro e w1 ⟨rfl, b1⟩
    have R1 := Blk.to (Blk.new' _ _ _ (n := w.heap.size + 1) (by simp)) b1
    have r0 := R1.cell 0 rfl; have r1 := R1.cell 1 rfl; have r2 := R1.cell 2 rfl; have rf0 := R1.free 0; have rf1 := R1.free 1; have rf2 := R1.free 2; have rz := R1.lt
    go_wp2_with fail
    have R3 := ((R1.set 0 (.int .i64 0)).set 1 (.int .i64 0)).set 2 (.int .i64 0)
    refine bodyPost_ret (v := .tuple #[.agg #[.int .i64 0, .int .i64 0, .int .i64 0], .int .i64 E]) ?_ rfl ⟨rfl, ?_⟩
    · have x0 := R3.cell 0 rfl; have x1 := R3.cell 1 rfl; have x2 := R3.cell 2 rfl; have xf0 := R3.free 0; have xf1 := R3.free 1; have xf2 := R3.free 2; have xz := R3.lt
      simp [results, Try.results17, go_sem, x0, x1, x2]
    · have hb1 : Below w.heap.size w w1 := (by repeat' (first | (with_reducible exact Below.refl _ _) | (with_reducible assumption) | (with_reducible refine Below.dr ?_ _) | (with_reducible refine Below.d1 ?_) | (with_reducible refine Below.al ?_ _) | (with_reducible refine Below.tr ?_ (by assumption)) | (with_reducible refine Below.drewN ?_ _) | (with_reducible refine Below.drew ?_) | (with_reducible refine Below.alloc ?_ ?_ _) | (with_reducible refine Below.setCell ?_ ?_ _) | (with_reducible refine Below.trans ?_ (Below.mono (by assumption) ?_)) | omega | (simp; done) | (simp; omega) | (simp [*]; done)))
      exact ((hb1.setCell (by simp) _).setCell (by simp) _).setCell (by simp) _

end Go.Proofs.Ytnnmdcagbcdfpaa
