/- The law WeighCrosses, for every input: the call returns true and what its arguments read as is as it was. No condition. -/
import Derived.Test.YtophgeegofaioaaOpen
import Derived.Test.YtophgeegofaioaaSameM
import Derived.Test.YtophgeegofaioaaCrossed
import Derived.Test.YtophgeegofaioaaCommon
namespace Go.Proofs.Ytophgeegofaioaa
section
open Go.RowKit
set_option linter.unusedSimpArgs false
set_option linter.unusedVariables false
set_option maxHeartbeats 1000000 in
theorem law_WeighCrosses (v : Value) (xs : List Int) (u : Value) (ys : List Int) (w : World) (h : IntsAt w v xs) (g : IntsAt w u ys) : Calls Try.prog 11 #[v, u] w fun e w' => e = .returned (.bool true) ∧ Below w.heap.size w w' := by
  have H := Lib.hid h
  have G := Lib.hid g
  clear h g
  go_enter Try.func11, Try.ntmps11
  go_wp2_with fail
  refine (law_ints _ xs _ H.out).mono ?_
  rintro e w1 ⟨c, rfl, hc, b1⟩
  have Hc := Lib.hid hc
  clear hc
  go_wp2_with fail
  refine (law_ints _ ys _ (G.out.mono (by repeat' (first | (with_reducible exact Below.refl _ _) | (with_reducible assumption) | (with_reducible refine Below.dr ?_ _) | (with_reducible refine Below.d1 ?_) | (with_reducible refine Below.al ?_ _) | (with_reducible refine Below.tr ?_ (by assumption)) | (with_reducible refine Below.drewN ?_ _) | (with_reducible refine Below.drew ?_) | (with_reducible refine Below.alloc ?_ ?_ _) | (with_reducible refine Below.setCell ?_ ?_ _) | (with_reducible refine Below.trans ?_ (Below.mono (by assumption) ?_)) | omega | (simp; done) | (simp; omega) | (simp [*]; done))))).mono ?_
  rintro e w2 ⟨d, rfl, hd, b2⟩
  have Hd := Lib.hid hd
  clear hd
  go_wp2_with fail
  refine (weigh_Cross _ _ xs ys _ (Hc.out.mono (by repeat' (first | (with_reducible exact Below.refl _ _) | (with_reducible assumption) | (with_reducible refine Below.dr ?_ _) | (with_reducible refine Below.d1 ?_) | (with_reducible refine Below.al ?_ _) | (with_reducible refine Below.tr ?_ (by assumption)) | (with_reducible refine Below.drewN ?_ _) | (with_reducible refine Below.drew ?_) | (with_reducible refine Below.alloc ?_ ?_ _) | (with_reducible refine Below.setCell ?_ ?_ _) | (with_reducible refine Below.trans ?_ (Below.mono (by assumption) ?_)) | omega | (simp; done) | (simp; omega) | (simp [*]; done)))) Hd.out).mono ?_
  rintro e w3 ⟨mv, rfl, hm, b3⟩
  obtain ⟨a1, len1, cap1, hmv, -, -⟩ := hm.opens
  subst hmv
  have HM := Lib.hid hm.at
  clear hm
  go_wp2_with fail
  refine (ref_Crossed _ _ xs ys _ (H.out.mono (by repeat' (first | (with_reducible exact Below.refl _ _) | (with_reducible assumption) | (with_reducible refine Below.dr ?_ _) | (with_reducible refine Below.d1 ?_) | (with_reducible refine Below.al ?_ _) | (with_reducible refine Below.tr ?_ (by assumption)) | (with_reducible refine Below.drewN ?_ _) | (with_reducible refine Below.drew ?_) | (with_reducible refine Below.alloc ?_ ?_ _) | (with_reducible refine Below.setCell ?_ ?_ _) | (with_reducible refine Below.trans ?_ (Below.mono (by assumption) ?_)) | omega | (simp; done) | (simp; omega) | (simp [*]; done)))) (G.out.mono (by repeat' (first | (with_reducible exact Below.refl _ _) | (with_reducible assumption) | (with_reducible refine Below.dr ?_ _) | (with_reducible refine Below.d1 ?_) | (with_reducible refine Below.al ?_ _) | (with_reducible refine Below.tr ?_ (by assumption)) | (with_reducible refine Below.drewN ?_ _) | (with_reducible refine Below.drew ?_) | (with_reducible refine Below.alloc ?_ ?_ _) | (with_reducible refine Below.setCell ?_ ?_ _) | (with_reducible refine Below.trans ?_ (Below.mono (by assumption) ?_)) | omega | (simp; done) | (simp; omega) | (simp [*]; done))))).mono ?_
  rintro e w4 ⟨mv', rfl, hm, b4⟩
  obtain ⟨a2, len2, cap2, hmv, -, -⟩ := hm.opens
  subst hmv
  have HM2 := Lib.hid hm.at
  obtain ⟨hc, hf, hz, hz1, hz2⟩ := bkeep b4
  clear hm
  go_wp2_with fail
  refine (law_sameMachine_yes _ _ (crossOut xs ys) _ (HM.out.mono (by repeat' (first | (with_reducible exact Below.refl _ _) | (with_reducible assumption) | (with_reducible refine Below.dr ?_ _) | (with_reducible refine Below.d1 ?_) | (with_reducible refine Below.al ?_ _) | (with_reducible refine Below.tr ?_ (by assumption)) | (with_reducible refine Below.drewN ?_ _) | (with_reducible refine Below.drew ?_) | (with_reducible refine Below.alloc ?_ ?_ _) | (with_reducible refine Below.setCell ?_ ?_ _) | (with_reducible refine Below.trans ?_ (Below.mono (by assumption) ?_)) | omega | (simp; done) | (simp; omega) | (simp [*]; done)))) (HM2.out.mono (by repeat' (first | (with_reducible exact Below.refl _ _) | (with_reducible assumption) | (with_reducible refine Below.dr ?_ _) | (with_reducible refine Below.d1 ?_) | (with_reducible refine Below.al ?_ _) | (with_reducible refine Below.tr ?_ (by assumption)) | (with_reducible refine Below.drewN ?_ _) | (with_reducible refine Below.drew ?_) | (with_reducible refine Below.alloc ?_ ?_ _) | (with_reducible refine Below.setCell ?_ ?_ _) | (with_reducible refine Below.trans ?_ (Below.mono (by assumption) ?_)) | omega | (simp; done) | (simp; omega) | (simp [*]; done))))).mono ?_
  rintro e w5 ⟨rfl, b5⟩
  go_wp2_with fail
  refine (law_sameInts_yes _ _ xs _ (Hc.out.mono (by repeat' (first | (with_reducible exact Below.refl _ _) | (with_reducible assumption) | (with_reducible refine Below.dr ?_ _) | (with_reducible refine Below.d1 ?_) | (with_reducible refine Below.al ?_ _) | (with_reducible refine Below.tr ?_ (by assumption)) | (with_reducible refine Below.drewN ?_ _) | (with_reducible refine Below.drew ?_) | (with_reducible refine Below.alloc ?_ ?_ _) | (with_reducible refine Below.setCell ?_ ?_ _) | (with_reducible refine Below.trans ?_ (Below.mono (by assumption) ?_)) | omega | (simp; done) | (simp; omega) | (simp [*]; done)))) (H.out.mono (by repeat' (first | (with_reducible exact Below.refl _ _) | (with_reducible assumption) | (with_reducible refine Below.dr ?_ _) | (with_reducible refine Below.d1 ?_) | (with_reducible refine Below.al ?_ _) | (with_reducible refine Below.tr ?_ (by assumption)) | (with_reducible refine Below.drewN ?_ _) | (with_reducible refine Below.drew ?_) | (with_reducible refine Below.alloc ?_ ?_ _) | (with_reducible refine Below.setCell ?_ ?_ _) | (with_reducible refine Below.trans ?_ (Below.mono (by assumption) ?_)) | omega | (simp; done) | (simp; omega) | (simp [*]; done))))).mono ?_
  rintro e w6 ⟨rfl, n6, rfl⟩
  go_wp2_with fail
  refine (law_sameInts_yes _ _ ys _ (Hd.out.mono (by repeat' (first | (with_reducible exact Below.refl _ _) | (with_reducible assumption) | (with_reducible refine Below.dr ?_ _) | (with_reducible refine Below.d1 ?_) | (with_reducible refine Below.al ?_ _) | (with_reducible refine Below.tr ?_ (by assumption)) | (with_reducible refine Below.drewN ?_ _) | (with_reducible refine Below.drew ?_) | (with_reducible refine Below.alloc ?_ ?_ _) | (with_reducible refine Below.setCell ?_ ?_ _) | (with_reducible refine Below.trans ?_ (Below.mono (by assumption) ?_)) | omega | (simp; done) | (simp; omega) | (simp [*]; done)))) (G.out.mono (by repeat' (first | (with_reducible exact Below.refl _ _) | (with_reducible assumption) | (with_reducible refine Below.dr ?_ _) | (with_reducible refine Below.d1 ?_) | (with_reducible refine Below.al ?_ _) | (with_reducible refine Below.tr ?_ (by assumption)) | (with_reducible refine Below.drewN ?_ _) | (with_reducible refine Below.drew ?_) | (with_reducible refine Below.alloc ?_ ?_ _) | (with_reducible refine Below.setCell ?_ ?_ _) | (with_reducible refine Below.trans ?_ (Below.mono (by assumption) ?_)) | omega | (simp; done) | (simp; omega) | (simp [*]; done))))).mono ?_
  rintro e w7 ⟨rfl, n7, rfl⟩
  go_wp2_with fail
  go_ret
  exact ⟨rfl, (by repeat' (first | (with_reducible exact Below.refl _ _) | (with_reducible assumption) | (with_reducible refine Below.dr ?_ _) | (with_reducible refine Below.d1 ?_) | (with_reducible refine Below.al ?_ _) | (with_reducible refine Below.tr ?_ (by assumption)) | (with_reducible refine Below.drewN ?_ _) | (with_reducible refine Below.drew ?_) | (with_reducible refine Below.alloc ?_ ?_ _) | (with_reducible refine Below.setCell ?_ ?_ _) | (with_reducible refine Below.trans ?_ (Below.mono (by assumption) ?_)) | omega | (simp; done) | (simp; omega) | (simp [*]; done)))⟩
end
end Go.Proofs.Ytophgeegofaioaa

namespace Go.Proofs.Ytophgeegofaioaa.lawWeighCrosses
open Go.ChangeShapes Go.WideShapes Go.ChangeAt Go.RowKit
open Go.ChangeMaps (open_string shut_string)
set_option linter.unusedVariables false
set_option linter.unusedSimpArgs false

set_option maxRecDepth 100000 in
theorem lifted (os : Os) (started : os.Started) (H : Type) (enc : TypeId × Value → H) :
    ReturnsInHanded {} Try.checked os 11 .any (Rows.weighCrossesSpec.pre6 enc Try.prog Try.f11 Rows.weighCrossesRow.domain false) (Rows.weighCrossesSpec.post enc Try.prog Try.f11 false true false false) := by
  refine returnsInHanded_of_change_sized (C := Try.checked) own started (by kernel_rfl) Try.func11
    (ChangeSpec.witness6 (enc := enc) (C := Try.checked) false ⟨#[], #[.slice none 0 0, .slice none 0 0], []⟩ 8 (by kernel_rfl) (by kernel_rfl) (by kernel_rfl) (by kernel_rfl)) ?_
  intro W base args ds gs before hval0 hW hcnd hsz0 _
  have hval : ∀ (j : Nat) t v, Try.f11.params[j]? = some t → args[j]? = some v → Value.okWide Try.prog W .any base t v := hval0
  have hsz : (DataW.weightsEach Try.prog (Try.f11.params.toList ++ Rows.weighCrossesSpec.plain.varTypes Try.prog) (ds ++ gs)).all (· ≤ reachBytes) = true := hsz0
  have hW' := hW
  obtain ⟨p, q, hA0, hV, rfl, hfz, hnd⟩ := hW
  have hA : DataW.TrodAll enc Try.prog W 0 (fun _ => true) true Try.f11.params.toList args.toList ds p := hA0
  rw [Try.params11] at hA hval hsz
  obtain ⟨v0, vs0, d0, ds0, p0, q0, hargs, rfl, rfl, h0, r0⟩ := trodAll_cons hA
  obtain ⟨v1, vs1, d1, ds1, p1, q1, rfl, rfl, rfl, h1, r1⟩ := trodAll_cons r0
  obtain ⟨rfl, rfl, rfl⟩ := trodAll_nil r1
  obtain rfl : args = #[v0, v1] := by cases args; simp_all
  obtain ⟨rfl, rfl⟩ := trodVars_none hV
  have k0 := h0
  have lt0 : ∀ x ∈ p0, x.block < W.heap.size := by obtain ⟨m, hm⟩ := k0; exact DataW.trod_lt m _ _ _ hm
  have k1 := h1
  have lt1 : ∀ x ∈ p1, x.block < W.heap.size := by obtain ⟨m, hm⟩ := k1; exact DataW.trod_lt m _ _ _ hm
  obtain ⟨a0, len0, cap0, rfl⟩ := okWide_slice Try.underlying24 (hval 0 24 v0 rfl rfl)
  obtain ⟨l0, hl0⟩ : ∃ l, IntsAt W (.slice a0 len0 cap0) l := by
    obtain ⟨fuel, hf⟩ := h0
    exact open_ints' (by simpa [Value.cells] using hf) (fits_arg hsz (j := 0) (t := 24) rfl rfl)
  obtain ⟨a1, len1, cap1, rfl⟩ := okWide_slice Try.underlying24 (hval 1 24 v1 rfl rfl)
  obtain ⟨l1, hl1⟩ : ∃ l, IntsAt W (.slice a1 len1 cap1) l := by
    obtain ⟨fuel, hf⟩ := h1
    exact open_ints' (by simpa [Value.cells] using hf) (fits_arg hsz (j := 1) (t := 24) rfl rfl)
  refine (law_WeighCrosses _ l0 _ l1 W hl0 hl1).mono fun e W' ⟨he, bel⟩ => ?_
  subst he
  exact ⟨_, rfl, _, _, _, [], _, [], hW', trodAll_mk1 (shut_bool Try.underlying4 _), (trodAll_cons_mk (Below.trod laidOut (by kernel_rfl) (of_decide_eq_true (by kernel_rfl)) k0 bel lt0) (trodAll_cons_mk (Below.trod laidOut (by kernel_rfl) (of_decide_eq_true (by kernel_rfl)) k1 bel lt1) trodAll_mk0)), rfl, bel.frame _, fun h => by cases h⟩

theorem over : Rows.weighCrossesRow.holds Try.pinned (OpenSpec.ofChange Rows.weighCrossesSpec) :=
  OpenClaim.holds_of_wide 11 Try.f11 rfl rfl rfl rfl rfl rfl rfl ⟨rfl, rfl, rfl, rfl, rfl⟩ rfl rfl rfl rfl rfl (by kernel_rfl) Try.func11 (by kernel_rfl)
    (of_decide_eq_true (by kernel_rfl)) (by unfold Func.isWrapper; rw [if_neg (of_decide_eq_false (by kernel_rfl))]; exact ⟨rfl, rfl⟩)
    (fun os started H enc _ => lifted os started H enc)

theorem proved : Rows.WeighCrossesSaid := over
end Go.Proofs.Ytophgeegofaioaa.lawWeighCrosses
