/- The law RationalStars, for every input: the call returns true and what its arguments read as is as it was. No condition. -/
import Derived.Test.YtnnmdcagbcdfpaaOpen
import Derived.Test.YtnnmdcagbcdfpaaSameM
import Derived.Test.YtnnmdcagbcdfpaaCopy
import Derived.Test.YtnnmdcagbcdfpaaRatStar
import Derived.Test.YtnnmdcagbcdfpaaRatStarred
namespace Go.Proofs.Ytnnmdcagbcdfpaa
section
open Go.RowKit
set_option linter.unusedSimpArgs false
set_option linter.unusedVariables false
set_option maxHeartbeats 2000000 in
theorem law_RationalStars (v : Value) (m : Mach) (w : World) (h : MachAt w v m) : Calls Try.prog 12 #[v] w fun e w' => e = .returned (.bool true) ∧ Below w.heap.size w w' := by
  have H := Lib.hid h
  obtain ⟨a, len, cap, hv, -, -, -⟩ := MachAt.opens h
  subst hv
  clear h
  go_enter Try.func12, Try.ntmps12
  go_wp2_with fail
  refine (law_machine _ m _ (H.out.mono (by repeat' (first | (with_reducible exact Below.refl _ _) | (with_reducible assumption) | (with_reducible refine Below.dr ?_ _) | (with_reducible refine Below.d1 ?_) | (with_reducible refine Below.al ?_ _) | (with_reducible refine Below.tr ?_ (by assumption)) | (with_reducible refine Below.drewN ?_ _) | (with_reducible refine Below.drew ?_) | (with_reducible refine Below.alloc ?_ ?_ _) | (with_reducible refine Below.setCell ?_ ?_ _) | (with_reducible refine Below.trans ?_ (Below.mono (by assumption) ?_)) | omega | (simp; done) | (simp; omega) | (simp [*]; done))))).mono ?_
  rintro e w1 ⟨c, rfl, hm, b1⟩
  obtain ⟨a1, len1, cap1, hmv, -, -, -⟩ := MachAt.opens hm
  subst hmv
  have HC := Lib.hid hm
  clear hm
  have P1 := Lib.hid ((Blk.new _ _ _).to b1)
  have p0 := P1.out.cell 0 rfl; have p1 := P1.out.cell 1 rfl; have pf0 := P1.out.free 0; have pf1 := P1.out.free 1; have pz := P1.out.lt
  go_wp2_with fail
  refine (rational_Star _ m _ (HC.out.mono (by repeat' (first | (with_reducible exact Below.refl _ _) | (with_reducible assumption) | (with_reducible refine Below.dr ?_ _) | (with_reducible refine Below.d1 ?_) | (with_reducible refine Below.al ?_ _) | (with_reducible refine Below.tr ?_ (by assumption)) | (with_reducible refine Below.drewN ?_ _) | (with_reducible refine Below.drew ?_) | (with_reducible refine Below.alloc ?_ ?_ _) | (with_reducible refine Below.setCell ?_ ?_ _) | (with_reducible refine Below.trans ?_ (Below.mono (by assumption) ?_)) | omega | (simp; done) | (simp; omega) | (simp [*]; done))))).mono ?_
  rintro e w2 ⟨mv, rfl, hm, b2⟩
  obtain ⟨a2, len2, cap2, hmv, -, -⟩ := hm.opens
  subst hmv
  have HA := Lib.hid hm.at
  clear hm p0 p1 pf0 pf1 pz
  have P2 := Lib.hid ((P1.out.al _).to b2)
  have C2 := Lib.hid ((Blk.new _ _ _).to b2)
  have p0 := P2.out.cell 0 rfl; have p1 := P2.out.cell 1 rfl; have pf0 := P2.out.free 0; have pf1 := P2.out.free 1; have pz := P2.out.lt
  go_wp2_with fail
  refine (ref_Starred _ m _ (H.out.mono (by repeat' (first | (with_reducible exact Below.refl _ _) | (with_reducible assumption) | (with_reducible refine Below.dr ?_ _) | (with_reducible refine Below.d1 ?_) | (with_reducible refine Below.al ?_ _) | (with_reducible refine Below.tr ?_ (by assumption)) | (with_reducible refine Below.drewN ?_ _) | (with_reducible refine Below.drew ?_) | (with_reducible refine Below.alloc ?_ ?_ _) | (with_reducible refine Below.setCell ?_ ?_ _) | (with_reducible refine Below.trans ?_ (Below.mono (by assumption) ?_)) | omega | (simp; done) | (simp; omega) | (simp [*]; done))))).mono ?_
  rintro e w3 ⟨mv, rfl, hm, b3⟩
  obtain ⟨a3, len3, cap3, hmv, -, -⟩ := hm.opens
  subst hmv
  have HB := Lib.hid hm.at
  clear hm p0 p1 pf0 pf1 pz
  have P3 := Lib.hid ((P2.out.al _).to b3)
  have C3 := Lib.hid ((C2.out.al _).to b3)
  have A3 := Lib.hid ((Blk.new _ _ _).to b3)
  have q0 := A3.out.cell 0 rfl; have q1 := A3.out.cell 1 rfl; have qf0 := A3.out.free 0; have qf1 := A3.out.free 1; have qz := A3.out.lt
  go_wp2_with fail
  refine (law_sameMachine_yes _ _ (starOut m) _ (HA.out.mono (by repeat' (first | (with_reducible exact Below.refl _ _) | (with_reducible assumption) | (with_reducible refine Below.dr ?_ _) | (with_reducible refine Below.d1 ?_) | (with_reducible refine Below.al ?_ _) | (with_reducible refine Below.tr ?_ (by assumption)) | (with_reducible refine Below.drewN ?_ _) | (with_reducible refine Below.drew ?_) | (with_reducible refine Below.alloc ?_ ?_ _) | (with_reducible refine Below.setCell ?_ ?_ _) | (with_reducible refine Below.trans ?_ (Below.mono (by assumption) ?_)) | omega | (simp; done) | (simp; omega) | (simp [*]; done)))) (HB.out.mono (by repeat' (first | (with_reducible exact Below.refl _ _) | (with_reducible assumption) | (with_reducible refine Below.dr ?_ _) | (with_reducible refine Below.d1 ?_) | (with_reducible refine Below.al ?_ _) | (with_reducible refine Below.tr ?_ (by assumption)) | (with_reducible refine Below.drewN ?_ _) | (with_reducible refine Below.drew ?_) | (with_reducible refine Below.alloc ?_ ?_ _) | (with_reducible refine Below.setCell ?_ ?_ _) | (with_reducible refine Below.trans ?_ (Below.mono (by assumption) ?_)) | omega | (simp; done) | (simp; omega) | (simp [*]; done))))).mono ?_
  rintro e w4 ⟨rfl, b4⟩
  clear q0 q1 qf0 qf1 qz
  have P4 := Lib.hid ((P3.out.al _).to b4)
  have C4 := Lib.hid ((C3.out.al _).to b4)
  have p0 := P4.out.cell 0 rfl; have p1 := P4.out.cell 1 rfl; have pf0 := P4.out.free 0; have pf1 := P4.out.free 1; have pz := P4.out.lt
  have c0 := C4.out.cell 0 rfl; have c1 := C4.out.cell 1 rfl; have cf0 := C4.out.free 0; have cf1 := C4.out.free 1; have cz := C4.out.lt
  go_wp2_with fail
  refine (law_sameMachine_yes _ _ m _ (HC.out.mono (by repeat' (first | (with_reducible exact Below.refl _ _) | (with_reducible assumption) | (with_reducible refine Below.dr ?_ _) | (with_reducible refine Below.d1 ?_) | (with_reducible refine Below.al ?_ _) | (with_reducible refine Below.tr ?_ (by assumption)) | (with_reducible refine Below.drewN ?_ _) | (with_reducible refine Below.drew ?_) | (with_reducible refine Below.alloc ?_ ?_ _) | (with_reducible refine Below.setCell ?_ ?_ _) | (with_reducible refine Below.trans ?_ (Below.mono (by assumption) ?_)) | omega | (simp; done) | (simp; omega) | (simp [*]; done)))) (H.out.mono (by repeat' (first | (with_reducible exact Below.refl _ _) | (with_reducible assumption) | (with_reducible refine Below.dr ?_ _) | (with_reducible refine Below.d1 ?_) | (with_reducible refine Below.al ?_ _) | (with_reducible refine Below.tr ?_ (by assumption)) | (with_reducible refine Below.drewN ?_ _) | (with_reducible refine Below.drew ?_) | (with_reducible refine Below.alloc ?_ ?_ _) | (with_reducible refine Below.setCell ?_ ?_ _) | (with_reducible refine Below.trans ?_ (Below.mono (by assumption) ?_)) | omega | (simp; done) | (simp; omega) | (simp [*]; done))))).mono ?_
  rintro e w5 ⟨rfl, b5⟩
  go_wp2_with fail
  go_ret
  exact ⟨rfl, (by repeat' (first | (with_reducible exact Below.refl _ _) | (with_reducible assumption) | (with_reducible refine Below.dr ?_ _) | (with_reducible refine Below.d1 ?_) | (with_reducible refine Below.al ?_ _) | (with_reducible refine Below.tr ?_ (by assumption)) | (with_reducible refine Below.drewN ?_ _) | (with_reducible refine Below.drew ?_) | (with_reducible refine Below.alloc ?_ ?_ _) | (with_reducible refine Below.setCell ?_ ?_ _) | (with_reducible refine Below.trans ?_ (Below.mono (by assumption) ?_)) | omega | (simp; done) | (simp; omega) | (simp [*]; done)))⟩
end
end Go.Proofs.Ytnnmdcagbcdfpaa

namespace Go.Proofs.Ytnnmdcagbcdfpaa.lawRationalStars
open Go.ChangeShapes Go.WideShapes Go.ChangeAt Go.RowKit
open Go.ChangeMaps (open_string shut_string)
set_option linter.unusedVariables false
set_option linter.unusedSimpArgs false

set_option maxRecDepth 100000 in
theorem lifted (os : Os) (started : os.Started) (H : Type) (enc : TypeId × Value → H) :
    ReturnsInHanded {} Try.checked os 12 .any (Rows.rationalStarsSpec.pre6 enc Try.prog Try.f12 Rows.rationalStarsRow.domain false) (Rows.rationalStarsSpec.post enc Try.prog Try.f12 false true false false) := by
  refine returnsInHanded_of_change_sized (C := Try.checked) own started (by kernel_rfl) Try.func12
    (ChangeSpec.witness6 (enc := enc) (C := Try.checked) false ⟨#[], #[.agg #[.int .i64 0, .slice none 0 0]], []⟩ 8 (by kernel_rfl) (by kernel_rfl) (by kernel_rfl) (by kernel_rfl)) ?_
  intro W base args ds gs before hval0 hW hcnd hsz0 _
  have hval : ∀ (j : Nat) t v, Try.f12.params[j]? = some t → args[j]? = some v → Value.okWide Try.prog W .any base t v := hval0
  have hsz : (DataW.weightsEach Try.prog (Try.f12.params.toList ++ Rows.rationalStarsSpec.plain.varTypes Try.prog) (ds ++ gs)).all (· ≤ reachBytes) = true := hsz0
  have hW' := hW
  obtain ⟨p, q, hA0, hV, rfl, hfz, hnd⟩ := hW
  have hA : DataW.TrodAll enc Try.prog W 0 (fun _ => true) true Try.f12.params.toList args.toList ds p := hA0
  rw [Try.params12] at hA hval hsz
  obtain ⟨v0, vs0, d0, ds0, p0, q0, hargs, rfl, rfl, h0, r0⟩ := trodAll_cons hA
  obtain ⟨rfl, rfl, rfl⟩ := trodAll_nil r0
  obtain rfl : args = #[v0] := by cases args; simp_all
  obtain ⟨rfl, rfl⟩ := trodVars_none hV
  have k0 := h0
  have lt0 : ∀ x ∈ p0, x.block < W.heap.size := by obtain ⟨m, hm⟩ := k0; exact DataW.trod_lt m _ _ _ hm
  obtain ⟨m0, hm0⟩ := open_machine (hval 0 24 v0 rfl rfl) h0 (fits_arg hsz (j := 0) (t := 24) rfl rfl)
  refine (law_RationalStars _ m0 W hm0).mono fun e W' ⟨he, bel⟩ => ?_
  subst he
  exact ⟨_, rfl, _, _, _, [], _, [], hW', trodAll_mk1 (shut_bool Try.underlying4 _), (trodAll_cons_mk (Below.trod laidOut (by kernel_rfl) (of_decide_eq_true (by kernel_rfl)) k0 bel lt0) trodAll_mk0), rfl, bel.frame _, fun h => by cases h⟩

theorem over : Rows.rationalStarsRow.holds Try.pinned (OpenSpec.ofChange Rows.rationalStarsSpec) :=
  OpenClaim.holds_of_wide 12 Try.f12 rfl rfl rfl rfl rfl rfl rfl ⟨rfl, rfl, rfl, rfl, rfl⟩ rfl rfl rfl rfl rfl (by kernel_rfl) Try.func12 (by kernel_rfl)
    (of_decide_eq_true (by kernel_rfl)) (by unfold Func.isWrapper; rw [if_neg (of_decide_eq_false (by kernel_rfl))]; exact ⟨rfl, rfl⟩)
    (fun os started H enc _ => lifted os started H enc)

theorem proved : Rows.RationalStarsSaid := over
end Go.Proofs.Ytnnmdcagbcdfpaa.lawRationalStars
