/- The law SameSames, for every input: the call returns true and what its argument reads as is as it was; the library's variables are tied to the program's text. -/
import Derived.Test.YthiknkcigcglkaaGreatDoorPkSS34
import Derived.Test.YthiknkcigcglkaaGreatDoorCards
import Derived.Test.YthiknkcigcglkaaGreatDoorTie
import Derived.ProofKit
import Derived.LaidMore
import Derived.OpenShut
import Derived.Lay
import Derived.Stop.LaidErr
import Derived.Stop.Joined
import Derived.SevenTiedAt
namespace Go.Proofs.YthiknkcigcglkaaGreatDoor
section
open Go.RowKit
set_option linter.unusedSimpArgs false
set_option linter.unusedVariables false
set_option maxRecDepth 100000 in
theorem j08 (a b : zr) : FnP uj Tryz.prog 5 [mV a, mV b] (fun v => v = .b true) := by
 have h1 := jK3 a b
 have h2 := jA9 a b
 obtain ⟨x, hX⟩ : ∃ T, alX a b = T := ⟨_, rfl⟩
 obtain ⟨e, hE⟩ : ∃ T, alE a b = T := ⟨_, rfl⟩
 rw [hX, hE] at h1 h2
 clear hX hE
 obtain ⟨st, sts⟩ := a
 obtain ⟨st2, sts2⟩ := b
 refine qx 45 fun w0 out wK => ?_
 refine g7 ?_
 refine zW ?_
 refine qa (qg2 ⟨st, sts⟩) ?_
 refine zQ ?_
 refine q9 rfl (zp (l := [.i 0, .nil]) 5 xN rfl rfl rfl rfl) ?_
 refine zW ?_
 refine qa (qg2 ⟨st2, sts2⟩) ?_
 refine zQ ?_
 refine q9 rfl (zp (l := [.i 0, .nil]) 6 xN rfl rfl rfl rfl) ?_
 refine zC ?_
 refine qA h1 ?_
 refine qf0 ?_
 refine qa h2 ?_
 refine qf0 ?_
 refine qe rfl rfl (Eq.mp (congrArg (fun y => RP _ _ _ (.b y)) (beq_self_eq_true x)) (jD9 Tryz.underlying4 rfl rfl rfl)) ?_
 refine xB ?_
 (refine qj (post := ?pc307) rfl rfl (zS (args := [_, _]) ?hc307 ⟨Tryz.func9, rfl, rfl, rfl, rfl⟩ rfl rfl rfl rfl) ?_; (case hc307 => (exact gb ⟨st, sts⟩)); rintro _ rfl -; try dsimp only)
 refine zW ?_
 (refine qj (post := ?pc308) rfl rfl (zS (args := [_, _]) ?hc308 ⟨Tryz.func9, rfl, rfl, rfl, rfl⟩ rfl rfl rfl rfl) ?_; (case hc308 => (exact gb ⟨st2, sts2⟩)); rintro _ rfl -; try dsimp only)
 refine zW ?_
 exact ⟨[_], ⟨rfl, trivial⟩, rfl, zU2⟩
theorem qN2 (v : Value) (a : zr) (u : Value) (b : zr) (w : World) (qO0 : uj w) (h : qj9 w v a) (h2 : qj9 w u b) : Calls Tryz.prog 5 #[v, u] w fun e w' => e = .returned (.bool true) ∧ Below w.heap.size w w' := by
 refine (j08 a b w (fun _ => False) (fun _ => (0, 0)) [v, u] qO0 (fun _ h => h.elim) (qk8 (qs8 h (fun _ => not_false)) (qk8 (qs8 h2 (fun _ => not_false)) qQ2))).mono fun e w' ⟨u, y, h1, h2, _, h4, h5⟩ => ?_
 subst h2
 rw [h1, VRep.p_eq h4]
 exact ⟨rfl, h5⟩
end
end Go.Proofs.YthiknkcigcglkaaGreatDoor

namespace Go.Proofs.YthiknkcigcglkaaGreatDoor.lawSameSames
open Go.ChangeShapes Go.WideShapes Go.ChangeAt Go.RowKit
open Go.ChangeMaps (open_string shut_string)
set_option linter.unusedVariables false
set_option linter.unusedSimpArgs false

theorem tab_of {W : World} (h : laidMetH Tryz.prog Rows.sameSamesRow.laid W) : Lib.TabIs Tryz.prog W "internal/strconv.uint64pow10" .u64 Lib.pow10Tab := by
 rw [MakeChecks.laidMetH_plain _ _ _ zh] at h
 have h2 : laidMet Tryz.prog [("internal/strconv.uint64pow10", Rows.laid_internal_strconv_uint64pow10)] W := h.tail.tail
 exact Lib.tabIs_of_head (show Tryz.prog.globalNamed "internal/strconv.uint64pow10" = some 0 by kernel_rfl) (show (Tryz.prog.globals[0]?).map (·.type) = some 194 by kernel_rfl) Tryz.underlying194 Tryz.underlying125 zh zh h2

set_option maxRecDepth 100000 in
theorem lifted (os : Os) (started : os.Started) (H : Type) (enc : TypeId × Value → H) :
  ReturnsInHanded {} Tryz.checked os 5 .any (fun w args => (Rows.sameSamesSpec.pre enc Tryz.prog Tryz.f5 [] false w args ∧ laidMetH Tryz.prog Rows.sameSamesRow.laid w) ∧ sizedMet enc Tryz.prog Tryz.f5 (OpenSpec.ofChange Rows.sameSamesSpec) false w args)
   (Rows.sameSamesSpec.post enc Tryz.prog Tryz.f5 false true false false) := by
 refine returnsInHanded_of_change_and (C := Tryz.checked) (X := fun w _ => laidMetH Tryz.prog Rows.sameSamesRow.laid w) (fun _ _ _ hh h => h.of_heap hh) own started zh Tryz.func5
  (ChangeSpec.witness_shaped (enc := enc) (C := Tryz.checked) (os := os) (X := fun w _ => laidMetH Tryz.prog Rows.sameSamesRow.laid w) false (World.laidAll Tryz.prog os Rows.sameSamesRow.laid) #[.agg #[.int .i64 0, .slice none 0 0], .agg #[.int .i64 0, .slice none 0 0]] 8 (World.laidAll_os _ _ _) (World.shaped_of_ZipB zh zh) zh zh zh
   (by rw [MakeChecks.laidMetH_plain _ _ _ zh]; exact laidMet_laidAll _ zh zh)) ?_
 intro W base args ds gs before jg9 hW _ jB0 hL _
 have ql7 : ∀ (j : Nat) t v, Tryz.f5.params[j]? = some t → args[j]? = some v → Value.okWide Tryz.prog W .any base t v := jg9
 have hW' := hW
 obtain ⟨p, q, hA0, hV, rfl, hfz, wC⟩ := hW
 have hA : DataW.TrodAll enc Tryz.prog W 0 (fun _ => true) true Tryz.f5.params.toList args.toList ds p := hA0
 have xz : (DataW.weightsEach Tryz.prog (Tryz.f5.params.toList ++ Rows.sameSamesSpec.plain.varTypes Tryz.prog) (ds ++ gs)).all (· ≤ reachBytes) = true := jB0
 rw [Tryz.params5] at hA ql7 xz
 obtain ⟨v0, vs0, d0, ds0, p0, q0, xJ, rfl, rfl, h0, r0⟩ := trodAll_cons hA
 obtain ⟨v1, vs1, d1, ds1, p1, q1, rfl, rfl, rfl, h1, r1⟩ := trodAll_cons r0
 obtain ⟨rfl, rfl, rfl⟩ := trodAll_nil r1
 obtain rfl : args = #[v0, v1] := by cases args; simp_all
 obtain ⟨rfl, rfl⟩ := trodVars_none hV
 have k0 := h0
 have lt0 : ∀ x ∈ p0, x.block < W.heap.size := by obtain ⟨m, hm⟩ := k0; exact DataW.trod_lt m _ _ _ hm
 have k1 := h1
 have lt1 : ∀ x ∈ p1, x.block < W.heap.size := by obtain ⟨m, hm⟩ := k1; exact DataW.trod_lt m _ _ _ hm
 obtain ⟨m0, hm0⟩ := q55 (ql7 0 24 v0 rfl rfl) h0 (qr6 xz (j := 0) (t := 24) rfl rfl)
 obtain ⟨m1, hm1⟩ := q55 (ql7 1 24 v1 rfl rfl) h1 (qr6 xz (j := 1) (t := 24) rfl rfl)
 refine (qN2 _ m0 _ m1 W (tab_of hL) hm0 hm1).mono fun e W' ⟨he, bel⟩ => ?_
 subst he
 exact ⟨_, rfl, _, _, _, [], _, [], hW', trodAll_mk1 (shut_bool Tryz.underlying4 _), (trodAll_cons_mk (Below.trod qA8 zh (of_decide_eq_true zh) k0 bel lt0) (trodAll_cons_mk (Below.trod qA8 zh (of_decide_eq_true zh) k1 bel lt1) trodAll_mk0)), rfl, bel.frame _, fun h => by cases h⟩

theorem over : Rows.SameSamesSaid :=
 OpenClaim.holds_of_wide 5 Tryz.f5 rfl rfl rfl rfl rfl rfl rfl ⟨rfl, rfl, rfl, rfl, rfl⟩ rfl rfl rfl rfl rfl zh Tryz.func5 zh
  (of_decide_eq_true zh) (by unfold Func.isWrapper; first | (rw [if_pos (by decide +kernel)]; kernel_rfl) | (rw [if_neg (by decide +kernel)]; exact ⟨rfl, rfl⟩))
  (fun os started H enc _ => lifted os started H enc)

theorem proved : Rows.SameSamesCardSaid :=
 Claim7.holds_tied_plain_at .later [] [.data, .data, .data] true (true, "44fc30ffa4a9bc02ad4802a5a3a767f6044218fcc89642e52e88e424ad017258") false
  over (fun _ h => by cases h) zh (fun _ h => by cases h) sameSames_row_tie rfl ⟨rfl, rfl⟩ zh rfl
  (fun f fn hf xY => by
   obtain rfl : f = 5 := Option.some.inj ((show Tryz.prog.funcNamed "tropica/tropicalaw.SameSames" = some 5 by kernel_rfl).symm.trans hf) |>.symm
   obtain rfl : fn = Tryz.f5 := (Option.some.inj (Tryz.func5.symm.trans xY)).symm
   exact ⟨by kernel_rfl, fun j t ht => by
    rw [Tryz.params5] at ht
    have h3 : t = 24 ∨ t = 24 := by
     rcases j with _ | j
     ·exact .inl (by simpa using ht.symm)
     skip
     rcases j with _ | j
     ·exact .inr (by simpa using ht.symm)
     simp at ht
    rcases h3 with rfl | rfl <;> first | exact (show Tryz.prog.wantsStandIn 24 = false by kernel_rfl) | exact (show Tryz.prog.wantsStandIn 24 = false by kernel_rfl)⟩)
  zh
end Go.Proofs.YthiknkcigcglkaaGreatDoor.lawSameSames
