/- core.Count and ref.Counted: what a machine has. -/
import Derived.Test.YtnnmdcagbcdfpaaCheck
import Derived.Test.YtnnmdcagbcdfpaaFault
import Derived.Test.YtnnmdcagbcdfpaaBlk
namespace Go.Proofs.Ytnnmdcagbcdfpaa
open Go.RowKit
set_option linter.unusedSimpArgs false
set_option linter.unusedVariables false

def finN (l : List St) : Nat := (l.filter fun s => decide (s.fin ≠ 1000000001)).length
theorem finN_yes (l : List St) (s : St) (h : s.fin ≠ 1000000001) : finN (l ++ [s]) = finN l + 1 := by simp [finN, h]
theorem finN_no (l : List St) (s : St) (h : s.fin = 1000000001) : finN (l ++ [s]) = finN l := by simp [finN, h]
def cnt0 (m : Mach) : Int := if machE m = 0 then m.states.length else 0
def cnt1 (m : Mach) : Int := if machE m = 0 then arcN m.states else 0
def cnt2 (m : Mach) : Int := if machE m = 0 then finN m.states else 0

theorem core_Check_as (E : Int) (v : Value) (m : Mach) (w : World) (h : MachAt w v m) (hE : machE m = E) : Calls Try.prog 44 #[v] w fun e w' => e = .returned (.int .i64 E) ∧ Below w.heap.size w w' := hE ▸ core_Check v m w h
theorem ref_Fault_as (E : Int) (v : Value) (m : Mach) (w : World) (h : MachAt w v m) (hE : machE m = E) : Calls Try.prog 45 #[v] w fun e w' => e = .returned (.int .i64 E) ∧ Below w.heap.size w w' := hE ▸ ref_Fault v m w h
theorem arcN_le {l : List St} {n : Nat} (h : arcN l ≤ n) (k : Nat) : arcN (l.take k) ≤ n := by
  have := arcN_app (l.take k) (l.drop k)
  rw [List.take_append_drop] at this
  omega
where arcN_app (a b : List St) : arcN (a ++ b) = arcN a + arcN b := by simp [arcN]

set_option maxHeartbeats 2000000 in
theorem core_Count (v : Value) (m : Mach) (w : World) (h : MachAt w v m) : Calls Try.prog 15 #[v] w fun e w' => e = .returned (.tuple #[.agg #[.int .i64 (cnt0 m), .int .i64 (cnt1 m), .int .i64 (cnt2 m)], .int .i64 (machE m)]) ∧ Below w.heap.size w w' := by
  have HM := Lib.hid h
  obtain ⟨a, len, cap, rfl, hl, H, Hl⟩ := MachAt.opens h
  clear h
  obtain ⟨E, hE⟩ : ∃ E, machE m = E := ⟨_, rfl⟩
  obtain ⟨st, sts⟩ := m
  simp only at H Hl HM hE ⊢
  by_cases hz : E = 0
  · subst hz
    have h0 : cnt0 ⟨st, sts⟩ = len := by simp only [cnt0, hE, if_true, Hl.out]
    have h1 : cnt1 ⟨st, sts⟩ = arcN sts := by simp only [cnt1, hE, if_true]
    have h2 : cnt2 ⟨st, sts⟩ = finN sts := by simp only [cnt2, hE, if_true]
    rw [h0, h1, h2, hE]
    have hg := machE_zero hE
    simp only at hg
    have HE := Lib.hid hE
    clear h0 h1 h2 hE
    have h60 : len ≤ 60 := by have := hg.1; rw [Hl.out] at this; exact this
    have H400 := Lib.hid hg.2.1
    clear hg
    go_enter Try.func15, Try.ntmps15
    go_wp2_with fail
    refine (core_Check_as 0 _ ⟨st, sts⟩ _ (HM.out.mono (by repeat' (first | (with_reducible exact Below.refl _ _) | (with_reducible assumption) | (with_reducible refine Below.dr ?_ _) | (with_reducible refine Below.d1 ?_) | (with_reducible refine Below.al ?_ _) | (with_reducible refine Below.tr ?_ (by assumption)) | (with_reducible refine Below.drewN ?_ _) | (with_reducible refine Below.drew ?_) | (with_reducible refine Below.alloc ?_ ?_ _) | (with_reducible refine Below.setCell ?_ ?_ _) | (with_reducible refine Below.trans ?_ (Below.mono (by assumption) ?_)) | omega | (simp; done) | (simp; omega) | (simp [*]; done)))) HE.out).mono ?_
    rintro e w1 ⟨rfl, b1⟩
    have M1 := Blk.to (Blk.al (Blk.new w _ _) _) b1
    have R1 := Blk.to (Blk.new' _ _ _ (n := w.heap.size + 1) (by simp)) b1
    have p0 := M1.cell 0 rfl; have p1 := M1.cell 1 rfl; have pf0 := M1.free 0; have pf1 := M1.free 1; have pz := M1.lt
    go_wp2_with fail
    go_loopw [21] (fun i wr => ∃ (k s f : Nat), k ≤ len ∧ i = .int .i64 k ∧ s = arcN (sts.take k) ∧ f = finN (sts.take k) ∧ s ≤ 400 ∧ f ≤ k ∧ Below w1.heap.size w1 wr ∧
      Blk wr w1.heap.size #[.int .i64 len, .int .i64 s, .int .i64 f] 26) (fun i _ => len - (intOf i).toNat)
    case atStart => exact ⟨0, 0, 0, Nat.zero_le _, rfl, rfl, rfl, by omega, by omega, (by repeat' (first | (with_reducible exact Below.refl _ _) | (with_reducible assumption) | (with_reducible refine Below.dr ?_ _) | (with_reducible refine Below.d1 ?_) | (with_reducible refine Below.al ?_ _) | (with_reducible refine Below.tr ?_ (by assumption)) | (with_reducible refine Below.drewN ?_ _) | (with_reducible refine Below.drew ?_) | (with_reducible refine Below.alloc ?_ ?_ _) | (with_reducible refine Below.setCell ?_ ?_ _) | (with_reducible refine Below.trans ?_ (Below.mono (by assumption) ?_)) | omega | (simp; done) | (simp; omega) | (simp [*]; done))), Blk.new _ _ _⟩
    case round =>
      obtain ⟨k, s, f, hk, rfl, hs, hf, hs4, hfk, hbel, hC⟩ := hrel
      have Hs := Lib.hid hs
      have Hf := Lib.hid hf
      have C := Lib.hid hC
      clear hs hf hC
      have c0 := C.out.cell 0 rfl; have c1 := C.out.cell 1 rfl; have c2 := C.out.cell 2 rfl; have cf0 := C.out.free 0; have cf1 := C.out.free 1; have cf2 := C.out.free 2; have cz := C.out.lt
      have q1 := Below.cellTo hbel p1
      have hsz := hbel.size
      by_cases hlt : k < len
      · have hb1 : Below w.heap.size w w1 := (by repeat' (first | (with_reducible exact Below.refl _ _) | (with_reducible assumption) | (with_reducible refine Below.dr ?_ _) | (with_reducible refine Below.d1 ?_) | (with_reducible refine Below.al ?_ _) | (with_reducible refine Below.tr ?_ (by assumption)) | (with_reducible refine Below.drewN ?_ _) | (with_reducible refine Below.drew ?_) | (with_reducible refine Below.alloc ?_ ?_ _) | (with_reducible refine Below.setCell ?_ ?_ _) | (with_reducible refine Below.trans ?_ (Below.mono (by assumption) ?_)) | omega | (simp; done) | (simp; omega) | (simp [*]; done)))
        have hW : Below w.heap.size w wr := hb1.trans (hbel.mono hb1.size)
        obtain ⟨b, o, x, av, rfl, hx, d0, d1, dA⟩ := StatesAt.at (StatesAt.mono H.out hW) hlt
        obtain ⟨a', len', cap', rfl, hl', -, Hl'⟩ := ArcsAt.opens dA
        have hb0 := blt d0
        have Hx := Lib.hid hx
        have hs5 : s + len' ≤ 400 := by
          have h5 := arcN_le H400.out (k + 1)
          rw [take_snoc Hx.out, arcN_snoc, Hl'.out, ← Hs.out] at h5
          exact h5
        clear hx dA
        obtain ⟨fin, arcs⟩ := x
        simp only at d0 Hl'
        by_cases hfin : fin = 1000000001
        · subst hfin
          go_wp2_with fail
          go_roundw
          case rel => exact ⟨k + 1, s + len', f, by omega, by go_num, by rw [take_snoc Hx.out, arcN_snoc, Hl'.out, Hs.out], by rw [take_snoc Hx.out, finN_no _ _ rfl, Hf.out], hs5, by omega, Below.al (hbel.setCell (by simp) _) _, (C.out.set 1 _).al _⟩
          case measure => simp [intOf]; omega
        · have hfb : (fin != 1000000001) = true := by simp [hfin]
          have HF := Lib.hid hfin
          clear hfin
          go_wp2_with fail
          go_roundw
          case rel => exact ⟨k + 1, s + len', f + 1, by omega, by go_num, by rw [take_snoc Hx.out, arcN_snoc, Hl'.out, Hs.out], by rw [take_snoc Hx.out, finN_yes _ _ HF.out, Hf.out], hs5, by omega, Below.al ((hbel.setCell (by simp) _).setCell (by simp) _) _, ((C.out.set 1 _).set 2 _).al _⟩
          case measure => simp [intOf]; omega
      · have hfull : sts.take k = sts := List.take_of_length_le (by rw [Hl.out]; omega)
        rw [hfull] at Hs Hf
        have R2 := R1.to hbel
        have r0 := R2.cell 0 rfl; have r1 := R2.cell 1 rfl; have r2 := R2.cell 2 rfl; have rf0 := R2.free 0; have rf1 := R2.free 1; have rf2 := R2.free 2; have rz := R2.lt
        clear R2
        go_wp2_with fail
        have R3 := (((R1.to hbel).set 0 (.int .i64 len)).set 1 (.int .i64 s)).set 2 (.int .i64 f)
        refine bodyPost_ret (v := .tuple #[.agg #[.int .i64 len, .int .i64 s, .int .i64 f], .int .i64 0]) ?_ rfl ⟨by rw [Hs.out, Hf.out], ?_⟩
        · have x0 := R3.cell 0 rfl; have x1 := R3.cell 1 rfl; have x2 := R3.cell 2 rfl; have xf0 := R3.free 0; have xf1 := R3.free 1; have xf2 := R3.free 2; have xz := R3.lt
          simp [results, Try.results15, go_sem, x0, x1, x2]
        · have hb1 : Below w.heap.size w w1 := (by repeat' (first | (with_reducible exact Below.refl _ _) | (with_reducible assumption) | (with_reducible refine Below.dr ?_ _) | (with_reducible refine Below.d1 ?_) | (with_reducible refine Below.al ?_ _) | (with_reducible refine Below.tr ?_ (by assumption)) | (with_reducible refine Below.drewN ?_ _) | (with_reducible refine Below.drew ?_) | (with_reducible refine Below.alloc ?_ ?_ _) | (with_reducible refine Below.setCell ?_ ?_ _) | (with_reducible refine Below.trans ?_ (Below.mono (by assumption) ?_)) | omega | (simp; done) | (simp; omega) | (simp [*]; done)))
          exact (((hb1.trans (hbel.mono hb1.size)).setCell (by simp) _).setCell (by simp) _).setCell (by simp) _
  · have h0 : cnt0 ⟨st, sts⟩ = 0 := by simp only [cnt0, hE]; exact if_neg hz
    have h1 : cnt1 ⟨st, sts⟩ = 0 := by simp only [cnt1, hE]; exact if_neg hz
    have h2 : cnt2 ⟨st, sts⟩ = 0 := by simp only [cnt2, hE]; exact if_neg hz
    rw [h0, h1, h2, hE]
    have HE := Lib.hid hE
    have hEb : (E != 0) = true := by simp [hz]
    clear h0 h1 h2 hE hz
    go_enter Try.func15, Try.ntmps15
    go_wp2_with fail
    refine (core_Check_as E _ ⟨st, sts⟩ _ (HM.out.mono (by repeat' (first | (with_reducible exact Below.refl _ _) | (with_reducible assumption) | (with_reducible refine Below.dr ?_ _) | (with_reducible refine Below.d1 ?_) | (with_reducible refine Below.al ?_ _) | (with_reducible refine Below.tr ?_ (by assumption)) | (with_reducible refine Below.drewN ?_ _) | (with_reducible refine Below.drew ?_) | (with_reducible refine Below.alloc ?_ ?_ _) | (with_reducible refine Below.setCell ?_ ?_ _) | (with_reducible refine Below.trans ?_ (Below.mono (by assumption) ?_)) | omega | (simp; done) | (simp; omega) | (simp [*]; done)))) HE.out).mono ?_
    rintro e w1 ⟨rfl, b1⟩
    have R1 := Blk.to (Blk.new' _ _ _ (n := w.heap.size + 1) (by simp)) b1
    have r0 := R1.cell 0 rfl; have r1 := R1.cell 1 rfl; have r2 := R1.cell 2 rfl; have rf0 := R1.free 0; have rf1 := R1.free 1; have rf2 := R1.free 2; have rz := R1.lt
    go_wp2_with fail
    have R3 := ((R1.set 0 (.int .i64 0)).set 1 (.int .i64 0)).set 2 (.int .i64 0)
    refine bodyPost_ret (v := .tuple #[.agg #[.int .i64 0, .int .i64 0, .int .i64 0], .int .i64 E]) ?_ rfl ⟨rfl, ?_⟩
    · have x0 := R3.cell 0 rfl; have x1 := R3.cell 1 rfl; have x2 := R3.cell 2 rfl; have xf0 := R3.free 0; have xf1 := R3.free 1; have xf2 := R3.free 2; have xz := R3.lt
      simp [results, Try.results15, go_sem, x0, x1, x2]
    · have hb1 : Below w.heap.size w w1 := (by repeat' (first | (with_reducible exact Below.refl _ _) | (with_reducible assumption) | (with_reducible refine Below.dr ?_ _) | (with_reducible refine Below.d1 ?_) | (with_reducible refine Below.al ?_ _) | (with_reducible refine Below.tr ?_ (by assumption)) | (with_reducible refine Below.drewN ?_ _) | (with_reducible refine Below.drew ?_) | (with_reducible refine Below.alloc ?_ ?_ _) | (with_reducible refine Below.setCell ?_ ?_ _) | (with_reducible refine Below.trans ?_ (Below.mono (by assumption) ?_)) | omega | (simp; done) | (simp; omega) | (simp [*]; done)))
      exact ((hb1.setCell (by simp) _).setCell (by simp) _).setCell (by simp) _
end Go.Proofs.Ytnnmdcagbcdfpaa
