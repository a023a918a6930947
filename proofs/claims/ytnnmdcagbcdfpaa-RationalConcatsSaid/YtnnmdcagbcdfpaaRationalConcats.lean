/- The law RationalConcats, for every input: the call returns true and what its arguments read as is as it was. No condition. -/
import Derived.Test.YtnnmdcagbcdfpaaOpen
import Derived.Test.YtnnmdcagbcdfpaaSameM
import Derived.Test.YtnnmdcagbcdfpaaCopy
import Derived.Test.YtnnmdcagbcdfpaaRatConcat
import Derived.Test.YtnnmdcagbcdfpaaRatChained
namespace Go.Proofs.Ytnnmdcagbcdfpaa
section
open Go.RowKit
set_option linter.unusedSimpArgs false
set_option linter.unusedVariables false
set_option maxHeartbeats 4000000 in
theorem law_RationalConcats (v : Value) (m : Mach) (u : Value) (n : Mach) (w : World) (h : MachAt w v m) (g : MachAt w u n) : Calls Try.prog 13 #[v, u] w fun e w' => e = .returned (.bool true) ∧ Below w.heap.size w w' := by
  have H := Lib.hid h
  have G := Lib.hid g
  obtain ⟨a, len, cap, hv, -, -, -⟩ := MachAt.opens h
  obtain ⟨a', len', cap', hu, -, -, -⟩ := MachAt.opens g
  subst hv hu
  clear h g
  go_enter Try.func13, Try.ntmps13
  go_wp2_with fail
  refine (law_machine _ m _ (H.out.mono (by repeat' (first | (with_reducible exact Below.refl _ _) | (with_reducible assumption) | (with_reducible refine Below.dr ?_ _) | (with_reducible refine Below.d1 ?_) | (with_reducible refine Below.al ?_ _) | (with_reducible refine Below.tr ?_ (by assumption)) | (with_reducible refine Below.drewN ?_ _) | (with_reducible refine Below.drew ?_) | (with_reducible refine Below.alloc ?_ ?_ _) | (with_reducible refine Below.setCell ?_ ?_ _) | (with_reducible refine Below.trans ?_ (Below.mono (by assumption) ?_)) | omega | (simp; done) | (simp; omega) | (simp [*]; done))))).mono ?_
  rintro e w1 ⟨c, rfl, hm, b1⟩
  obtain ⟨a1, len1, cap1, hmv, -, -, -⟩ := MachAt.opens hm
  subst hmv
  have HC := Lib.hid hm
  clear hm
  have M1 := Lib.hid (((Blk.new w _ _).al _).to b1)
  have N1 := Lib.hid ((Blk.new' (w.alloc _) _ _ (n := w.heap.size + 1) (by simp)).to b1)
  have p0 := N1.out.cell 0 rfl; have p1 := N1.out.cell 1 rfl; have pf0 := N1.out.free 0; have pf1 := N1.out.free 1; have pz := N1.out.lt
  go_wp2_with fail
  refine (law_machine _ n _ (G.out.mono (by repeat' (first | (with_reducible exact Below.refl _ _) | (with_reducible assumption) | (with_reducible refine Below.dr ?_ _) | (with_reducible refine Below.d1 ?_) | (with_reducible refine Below.al ?_ _) | (with_reducible refine Below.tr ?_ (by assumption)) | (with_reducible refine Below.drewN ?_ _) | (with_reducible refine Below.drew ?_) | (with_reducible refine Below.alloc ?_ ?_ _) | (with_reducible refine Below.setCell ?_ ?_ _) | (with_reducible refine Below.trans ?_ (Below.mono (by assumption) ?_)) | omega | (simp; done) | (simp; omega) | (simp [*]; done))))).mono ?_
  rintro e w2 ⟨d, rfl, hm, b2⟩
  obtain ⟨a2, len2, cap2, hmv, -, -, -⟩ := MachAt.opens hm
  subst hmv
  have HD := Lib.hid hm
  clear hm p0 p1 pf0 pf1 pz
  have M2 := Lib.hid ((M1.out.al _).to b2)
  have N2 := Lib.hid ((N1.out.al _).to b2)
  have C2 := Lib.hid ((Blk.new _ _ _).to b2)
  have p0 := C2.out.cell 0 rfl; have p1 := C2.out.cell 1 rfl; have pf0 := C2.out.free 0; have pf1 := C2.out.free 1; have pz := C2.out.lt
  go_wp2_with fail
  refine (rational_Concat _ _ m n _ (HC.out.mono (by repeat' (first | (with_reducible exact Below.refl _ _) | (with_reducible assumption) | (with_reducible refine Below.dr ?_ _) | (with_reducible refine Below.d1 ?_) | (with_reducible refine Below.al ?_ _) | (with_reducible refine Below.tr ?_ (by assumption)) | (with_reducible refine Below.drewN ?_ _) | (with_reducible refine Below.drew ?_) | (with_reducible refine Below.alloc ?_ ?_ _) | (with_reducible refine Below.setCell ?_ ?_ _) | (with_reducible refine Below.trans ?_ (Below.mono (by assumption) ?_)) | omega | (simp; done) | (simp; omega) | (simp [*]; done)))) (HD.out.mono (by repeat' (first | (with_reducible exact Below.refl _ _) | (with_reducible assumption) | (with_reducible refine Below.dr ?_ _) | (with_reducible refine Below.d1 ?_) | (with_reducible refine Below.al ?_ _) | (with_reducible refine Below.tr ?_ (by assumption)) | (with_reducible refine Below.drewN ?_ _) | (with_reducible refine Below.drew ?_) | (with_reducible refine Below.alloc ?_ ?_ _) | (with_reducible refine Below.setCell ?_ ?_ _) | (with_reducible refine Below.trans ?_ (Below.mono (by assumption) ?_)) | omega | (simp; done) | (simp; omega) | (simp [*]; done))))).mono ?_
  rintro e w3 ⟨mv, rfl, hm, b3⟩
  obtain ⟨a3, len3, cap3, hmv, -, -⟩ := hm.opens
  subst hmv
  have HA := Lib.hid hm.at
  clear hm p0 p1 pf0 pf1 pz
  have M3 := Lib.hid ((M2.out.al _).to b3)
  have N3 := Lib.hid ((N2.out.al _).to b3)
  have C3 := Lib.hid ((C2.out.al _).to b3)
  have D3 := Lib.hid ((Blk.new _ _ _).to b3)
  have p0 := M3.out.cell 0 rfl; have p1 := M3.out.cell 1 rfl; have pf0 := M3.out.free 0; have pf1 := M3.out.free 1; have pz := M3.out.lt
  have q0 := N3.out.cell 0 rfl; have q1 := N3.out.cell 1 rfl; have qf0 := N3.out.free 0; have qf1 := N3.out.free 1; have qz := N3.out.lt
  go_wp2_with fail
  refine (ref_Chained _ _ m n _ (H.out.mono (by repeat' (first | (with_reducible exact Below.refl _ _) | (with_reducible assumption) | (with_reducible refine Below.dr ?_ _) | (with_reducible refine Below.d1 ?_) | (with_reducible refine Below.al ?_ _) | (with_reducible refine Below.tr ?_ (by assumption)) | (with_reducible refine Below.drewN ?_ _) | (with_reducible refine Below.drew ?_) | (with_reducible refine Below.alloc ?_ ?_ _) | (with_reducible refine Below.setCell ?_ ?_ _) | (with_reducible refine Below.trans ?_ (Below.mono (by assumption) ?_)) | omega | (simp; done) | (simp; omega) | (simp [*]; done)))) (G.out.mono (by repeat' (first | (with_reducible exact Below.refl _ _) | (with_reducible assumption) | (with_reducible refine Below.dr ?_ _) | (with_reducible refine Below.d1 ?_) | (with_reducible refine Below.al ?_ _) | (with_reducible refine Below.tr ?_ (by assumption)) | (with_reducible refine Below.drewN ?_ _) | (with_reducible refine Below.drew ?_) | (with_reducible refine Below.alloc ?_ ?_ _) | (with_reducible refine Below.setCell ?_ ?_ _) | (with_reducible refine Below.trans ?_ (Below.mono (by assumption) ?_)) | omega | (simp; done) | (simp; omega) | (simp [*]; done))))).mono ?_
  rintro e w4 ⟨mv, rfl, hm, b4⟩
  obtain ⟨a4, len4, cap4, hmv, -, -⟩ := hm.opens
  subst hmv
  have HB := Lib.hid hm.at
  clear hm p0 p1 pf0 pf1 pz q0 q1 qf0 qf1 qz
  have M4 := Lib.hid ((M3.out.al _).to b4)
  have N4 := Lib.hid ((N3.out.al _).to b4)
  have C4 := Lib.hid ((C3.out.al _).to b4)
  have D4 := Lib.hid ((D3.out.al _).to b4)
  have A4 := Lib.hid ((Blk.new _ _ _).to b4)
  have q0 := A4.out.cell 0 rfl; have q1 := A4.out.cell 1 rfl; have qf0 := A4.out.free 0; have qf1 := A4.out.free 1; have qz := A4.out.lt
  go_wp2_with fail
  refine (law_sameMachine_yes _ _ (concatOut m n) _ (HA.out.mono (by repeat' (first | (with_reducible exact Below.refl _ _) | (with_reducible assumption) | (with_reducible refine Below.dr ?_ _) | (with_reducible refine Below.d1 ?_) | (with_reducible refine Below.al ?_ _) | (with_reducible refine Below.tr ?_ (by assumption)) | (with_reducible refine Below.drewN ?_ _) | (with_reducible refine Below.drew ?_) | (with_reducible refine Below.alloc ?_ ?_ _) | (with_reducible refine Below.setCell ?_ ?_ _) | (with_reducible refine Below.trans ?_ (Below.mono (by assumption) ?_)) | omega | (simp; done) | (simp; omega) | (simp [*]; done)))) (HB.out.mono (by repeat' (first | (with_reducible exact Below.refl _ _) | (with_reducible assumption) | (with_reducible refine Below.dr ?_ _) | (with_reducible refine Below.d1 ?_) | (with_reducible refine Below.al ?_ _) | (with_reducible refine Below.tr ?_ (by assumption)) | (with_reducible refine Below.drewN ?_ _) | (with_reducible refine Below.drew ?_) | (with_reducible refine Below.alloc ?_ ?_ _) | (with_reducible refine Below.setCell ?_ ?_ _) | (with_reducible refine Below.trans ?_ (Below.mono (by assumption) ?_)) | omega | (simp; done) | (simp; omega) | (simp [*]; done))))).mono ?_
  rintro e w5 ⟨rfl, b5⟩
  clear q0 q1 qf0 qf1 qz
  have M5 := Lib.hid ((M4.out.al _).to b5)
  have N5 := Lib.hid ((N4.out.al _).to b5)
  have C5 := Lib.hid ((C4.out.al _).to b5)
  have D5 := Lib.hid ((D4.out.al _).to b5)
  have p0 := M5.out.cell 0 rfl; have p1 := M5.out.cell 1 rfl; have pf0 := M5.out.free 0; have pf1 := M5.out.free 1; have pz := M5.out.lt
  have c0 := C5.out.cell 0 rfl; have c1 := C5.out.cell 1 rfl; have cf0 := C5.out.free 0; have cf1 := C5.out.free 1; have cz := C5.out.lt
  go_wp2_with fail
  refine (law_sameMachine_yes _ _ m _ (HC.out.mono (by repeat' (first | (with_reducible exact Below.refl _ _) | (with_reducible assumption) | (with_reducible refine Below.dr ?_ _) | (with_reducible refine Below.d1 ?_) | (with_reducible refine Below.al ?_ _) | (with_reducible refine Below.tr ?_ (by assumption)) | (with_reducible refine Below.drewN ?_ _) | (with_reducible refine Below.drew ?_) | (with_reducible refine Below.alloc ?_ ?_ _) | (with_reducible refine Below.setCell ?_ ?_ _) | (with_reducible refine Below.trans ?_ (Below.mono (by assumption) ?_)) | omega | (simp; done) | (simp; omega) | (simp [*]; done)))) (H.out.mono (by repeat' (first | (with_reducible exact Below.refl _ _) | (with_reducible assumption) | (with_reducible refine Below.dr ?_ _) | (with_reducible refine Below.d1 ?_) | (with_reducible refine Below.al ?_ _) | (with_reducible refine Below.tr ?_ (by assumption)) | (with_reducible refine Below.drewN ?_ _) | (with_reducible refine Below.drew ?_) | (with_reducible refine Below.alloc ?_ ?_ _) | (with_reducible refine Below.setCell ?_ ?_ _) | (with_reducible refine Below.trans ?_ (Below.mono (by assumption) ?_)) | omega | (simp; done) | (simp; omega) | (simp [*]; done))))).mono ?_
  rintro e w6 ⟨rfl, b6⟩
  clear p0 p1 pf0 pf1 pz c0 c1 cf0 cf1 cz
  have N6 := Lib.hid (N5.out.to b6)
  have D6 := Lib.hid (D5.out.to b6)
  have p0 := N6.out.cell 0 rfl; have p1 := N6.out.cell 1 rfl; have pf0 := N6.out.free 0; have pf1 := N6.out.free 1; have pz := N6.out.lt
  have c0 := D6.out.cell 0 rfl; have c1 := D6.out.cell 1 rfl; have cf0 := D6.out.free 0; have cf1 := D6.out.free 1; have cz := D6.out.lt
  go_wp2_with fail
  refine (law_sameMachine_yes _ _ n _ (HD.out.mono (by repeat' (first | (with_reducible exact Below.refl _ _) | (with_reducible assumption) | (with_reducible refine Below.dr ?_ _) | (with_reducible refine Below.d1 ?_) | (with_reducible refine Below.al ?_ _) | (with_reducible refine Below.tr ?_ (by assumption)) | (with_reducible refine Below.drewN ?_ _) | (with_reducible refine Below.drew ?_) | (with_reducible refine Below.alloc ?_ ?_ _) | (with_reducible refine Below.setCell ?_ ?_ _) | (with_reducible refine Below.trans ?_ (Below.mono (by assumption) ?_)) | omega | (simp; done) | (simp; omega) | (simp [*]; done)))) (G.out.mono (by repeat' (first | (with_reducible exact Below.refl _ _) | (with_reducible assumption) | (with_reducible refine Below.dr ?_ _) | (with_reducible refine Below.d1 ?_) | (with_reducible refine Below.al ?_ _) | (with_reducible refine Below.tr ?_ (by assumption)) | (with_reducible refine Below.drewN ?_ _) | (with_reducible refine Below.drew ?_) | (with_reducible refine Below.alloc ?_ ?_ _) | (with_reducible refine Below.setCell ?_ ?_ _) | (with_reducible refine Below.trans ?_ (Below.mono (by assumption) ?_)) | omega | (simp; done) | (simp; omega) | (simp [*]; done))))).mono ?_
  rintro e w7 ⟨rfl, b7⟩
  go_wp2_with fail
  go_ret
  exact ⟨rfl, (by repeat' (first | (with_reducible exact Below.refl _ _) | (with_reducible assumption) | (with_reducible refine Below.dr ?_ _) | (with_reducible refine Below.d1 ?_) | (with_reducible refine Below.al ?_ _) | (with_reducible refine Below.tr ?_ (by assumption)) | (with_reducible refine Below.drewN ?_ _) | (with_reducible refine Below.drew ?_) | (with_reducible refine Below.alloc ?_ ?_ _) | (with_reducible refine Below.setCell ?_ ?_ _) | (with_reducible refine Below.trans ?_ (Below.mono (by assumption) ?_)) | omega | (simp; done) | (simp; omega) | (simp [*]; done)))⟩
end
end Go.Proofs.Ytnnmdcagbcdfpaa

namespace Go.Proofs.Ytnnmdcagbcdfpaa.lawRationalConcats
open Go.ChangeShapes Go.WideShapes Go.ChangeAt Go.RowKit
open Go.ChangeMaps (open_string shut_string)
set_option linter.unusedVariables false
set_option linter.unusedSimpArgs false

set_option maxRecDepth 100000 in
theorem lifted (os : Os) (started : os.Started) (H : Type) (enc : TypeId × Value → H) :
    ReturnsInHanded {} Try.checked os 13 .any (Rows.rationalConcatsSpec.pre6 enc Try.prog Try.f13 Rows.rationalConcatsRow.domain false) (Rows.rationalConcatsSpec.post enc Try.prog Try.f13 false true false false) := by
  refine returnsInHanded_of_change_sized (C := Try.checked) own started (by kernel_rfl) Try.func13
    (ChangeSpec.witness6 (enc := enc) (C := Try.checked) false ⟨#[], #[.agg #[.int .i64 0, .slice none 0 0], .agg #[.int .i64 0, .slice none 0 0]], []⟩ 8 (by kernel_rfl) (by kernel_rfl) (by kernel_rfl) (by kernel_rfl)) ?_
  intro W base args ds gs before hval0 hW hcnd hsz0 _
  have hval : ∀ (j : Nat) t v, Try.f13.params[j]? = some t → args[j]? = some v → Value.okWide Try.prog W .any base t v := hval0
  have hsz : (DataW.weightsEach Try.prog (Try.f13.params.toList ++ Rows.rationalConcatsSpec.plain.varTypes Try.prog) (ds ++ gs)).all (· ≤ reachBytes) = true := hsz0
  have hW' := hW
  obtain ⟨p, q, hA0, hV, rfl, hfz, hnd⟩ := hW
  have hA : DataW.TrodAll enc Try.prog W 0 (fun _ => true) true Try.f13.params.toList args.toList ds p := hA0
  rw [Try.params13] at hA hval hsz
  obtain ⟨v0, vs0, d0, ds0, p0, q0, hargs, rfl, rfl, h0, r0⟩ := trodAll_cons hA
  obtain ⟨v1, vs1, d1, ds1, p1, q1, rfl, rfl, rfl, h1, r1⟩ := trodAll_cons r0
  obtain ⟨rfl, rfl, rfl⟩ := trodAll_nil r1
  obtain rfl : args = #[v0, v1] := by cases args; simp_all
  obtain ⟨rfl, rfl⟩ := trodVars_none hV
  have k0 := h0
  have lt0 : ∀ x ∈ p0, x.block < W.heap.size := by obtain ⟨m, hm⟩ := k0; exact DataW.trod_lt m _ _ _ hm
  have k1 := h1
  have lt1 : ∀ x ∈ p1, x.block < W.heap.size := by obtain ⟨m, hm⟩ := k1; exact DataW.trod_lt m _ _ _ hm
  obtain ⟨m0, hm0⟩ := open_machine (hval 0 24 v0 rfl rfl) h0 (fits_arg hsz (j := 0) (t := 24) rfl rfl)
  obtain ⟨m1, hm1⟩ := open_machine (hval 1 24 v1 rfl rfl) h1 (fits_arg hsz (j := 1) (t := 24) rfl rfl)
  refine (law_RationalConcats _ m0 _ m1 W hm0 hm1).mono fun e W' ⟨he, bel⟩ => ?_
  subst he
  exact ⟨_, rfl, _, _, _, [], _, [], hW', trodAll_mk1 (shut_bool Try.underlying4 _), (trodAll_cons_mk (Below.trod laidOut (by kernel_rfl) (of_decide_eq_true (by kernel_rfl)) k0 bel lt0) (trodAll_cons_mk (Below.trod laidOut (by kernel_rfl) (of_decide_eq_true (by kernel_rfl)) k1 bel lt1) trodAll_mk0)), rfl, bel.frame _, fun h => by cases h⟩

theorem over : Rows.rationalConcatsRow.holds Try.pinned (OpenSpec.ofChange Rows.rationalConcatsSpec) :=
  OpenClaim.holds_of_wide 13 Try.f13 rfl rfl rfl rfl rfl rfl rfl ⟨rfl, rfl, rfl, rfl, rfl⟩ rfl rfl rfl rfl rfl (by kernel_rfl) Try.func13 (by kernel_rfl)
    (of_decide_eq_true (by kernel_rfl)) (by unfold Func.isWrapper; rw [if_neg (of_decide_eq_false (by kernel_rfl))]; exact ⟨rfl, rfl⟩)
    (fun os started H enc _ => lifted os started H enc)

theorem proved : Rows.RationalConcatsSaid := over
end Go.Proofs.Ytnnmdcagbcdfpaa.lawRationalConcats
