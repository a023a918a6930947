/- The law CertainMakes, for every input: the call returns true and what its argument reads as is as it was; the library's variables are tied to the program's text. -/
import Derived.Test.YthiknkcigcglkaaDoorPkCe1
import Derived.Test.YthiknkcigcglkaaDoorPkCe2
import Derived.Test.YthiknkcigcglkaaDoorPkCe3
import Derived.Test.YthiknkcigcglkaaDoorPkCe4
import Derived.Test.YthiknkcigcglkaaDoorPkCe5
import Derived.Test.YthiknkcigcglkaaDoorPkCe6
import Derived.Test.YthiknkcigcglkaaDoorPkCe7
import Derived.Test.YthiknkcigcglkaaDoorPkCe8
import Derived.Test.YthiknkcigcglkaaDoorPkCe9
import Derived.Test.YthiknkcigcglkaaDoorPkCe10
import Derived.Test.YthiknkcigcglkaaDoorPkCe11
import Derived.Test.YthiknkcigcglkaaDoorPkCe12
import Derived.Test.YthiknkcigcglkaaDoorCards
import Derived.Test.YthiknkcigcglkaaDoorTie
import Derived.ProofKit
import Derived.LaidMore
import Derived.OpenShut
import Derived.Lay
import Derived.Stop.LaidErr
import Derived.Stop.Joined
import Derived.SevenTiedAt
namespace Go.Proofs.YthiknkcigcglkaaDoor
section
open Go.RowKit
set_option linter.unusedSimpArgs false
set_option linter.unusedVariables false
set_option maxRecDepth 100000 in
theorem am_CertainMakes (m : Mach) : FnP preT Tryd.prog 3 [mV m] (fun v => v = .b true) := by
 have h1 := am_CertMake m
 have h2 := am_Certained m
 obtain ⟨⟨t, ts⟩, hT⟩ : ∃ T, ceM m = T := ⟨_, rfl⟩
 obtain ⟨e, hE⟩ : ∃ T, ceE m = T := ⟨_, rfl⟩
 rw [hT, hE] at h1 h2
 clear hT hE
 obtain ⟨st, sts⟩ := m
 refine FnP.intro (n := 33) ⟨Tryd.func3, rfl, rfl, rfl, rfl⟩ zT8 zT14 fun w0 out hpre => ?_
 apply AW.sr
 refine AL.sm rfl (sm_box 1 rfl rfl rfl zT0 rfl) ?_
 refine AL.z ?_
 apply AL.nil
 try simp only [nd, setL, V.cs, nz, Nat.reduceAdd, nm, ns, enum]
 apply AW.sr
 (first | (refine AL.rd rfl rfl (rd_loads_ref Tryd.underlying24 rfl inf24 rfl rfl rfl rfl rfl rfl) ?_) | (refine AL.rd rfl rfl (rd_loads_ad Tryd.underlying24 rfl inf24 rfl rfl rfl rfl) ?_))
 refine AL.call (post := ?pc0) rfl (sm_call (args := [_]) ?hc0 ⟨Tryd.func4, rfl, rfl, rfl, rfl⟩ rfl rfl rfl rfl) ?_
 case hc0 => exact am_machine ⟨st, sts⟩
 rintro _ rfl -
 try dsimp only
 refine AL.sm rfl (sm_alloc (l := [.d (.p (.int .i64 0)), .d (.p (.slice none 0 0))]) 3 inf24 rfl zT0 rfl rfl) ?_
 refine AL.y ?_
 apply AL.nil
 try simp only [nd, setL, V.cs, nz, Nat.reduceAdd, nm, ns]
 apply AW.sr
 (first | (refine AL.rd rfl rfl (rd_loads_ref Tryd.underlying24 rfl inf24 rfl rfl rfl rfl rfl rfl) ?_) | (refine AL.rd rfl rfl (rd_loads_ad Tryd.underlying24 rfl inf24 rfl rfl rfl rfl) ?_))
 refine AL.call (post := ?pc1) rfl (sm_callP (args := [_]) (tab_kept _ _ _ _) zT11 ?hc1 ⟨Tryd.func5, rfl, rfl, rfl, rfl⟩ rfl rfl rfl rfl) ?_
 case hc1 => exact h1
 rintro _ rfl -
 try dsimp only
 iterate 3 refine AL.z ?_
 refine AL.sm rfl (sm_alloc (l := [.d (.p (.int .i64 0)), .d (.p (.slice none 0 0))]) 4 inf24 rfl zT0 rfl rfl) ?_
 refine AL.y ?_
 refine AL.z ?_
 apply AL.nil
 try simp only [nd, setL, V.cs, nz, Nat.reduceAdd, nm, ns]
 apply AW.sr
 (first | (refine AL.rd rfl rfl (rd_loads_ref Tryd.underlying24 rfl inf24 rfl rfl rfl rfl rfl rfl) ?_) | (refine AL.rd rfl rfl (rd_loads_ad Tryd.underlying24 rfl inf24 rfl rfl rfl rfl) ?_))
 refine AL.call (post := ?pc2) rfl (sm_call (args := [_]) ?hc2 ⟨Tryd.func6, rfl, rfl, rfl, rfl⟩ rfl rfl rfl rfl) ?_
 case hc2 => exact h2
 rintro _ rfl -
 try dsimp only
 iterate 3 refine AL.z ?_
 refine AL.sm rfl (sm_alloc (l := [.d (.p (.int .i64 0)), .d (.p (.slice none 0 0))]) 6 inf24 rfl zT0 rfl rfl) ?_
 refine AL.y ?_
 refine AL.z ?_
 apply AL.nil
 try simp only [nd, setL, V.cs, nz, Nat.reduceAdd, nm, ns]
 apply AW.sr
 iterate 2 refine AL.z ?_
 (first | (refine AL.rp rfl rfl (rp_eqlT rfl rfl rfl zT3) ?_) | (refine AL.rp rfl rfl (rp_eqlF rfl rfl rfl zT3) ?_) | (refine AL.rp rfl rfl (rp_eql rfl rfl rfl) ?_))
 refine AL.z ?_
 (first | (refine AL.no rfl rfl rfl rfl ?_) | (refine AL.rdy rfl rfl rfl (rd_loads_ref Tryd.underlying24 rfl inf24 rfl rfl rfl rfl rfl rfl) ?_) | (refine AL.rdy rfl rfl rfl (rd_loads_ad Tryd.underlying24 rfl inf24 rfl rfl rfl rfl) ?_))
 (first | (refine AL.no rfl rfl rfl rfl ?_) | (refine AL.rdy rfl rfl rfl (rd_loads_ref Tryd.underlying24 rfl inf24 rfl rfl rfl rfl rfl rfl) ?_) | (refine AL.rdy rfl rfl rfl (rd_loads_ad Tryd.underlying24 rfl inf24 rfl rfl rfl rfl) ?_))
 (first | (refine AL.no rfl rfl rfl rfl ?_) | (refine AL.cally (post := ?pc3) rfl rfl (sm_call (args := [_, _]) ?hc3 ⟨Tryd.func7, rfl, rfl, rfl, rfl⟩ rfl rfl rfl rfl) ?_; (case hc3 => (exact am_sameMachine ⟨t, ts⟩)); rintro _ rfl -; try dsimp only))
 iterate 2 refine AL.z ?_
 (first | (refine AL.no rfl rfl rfl rfl ?_) | (refine AL.rdy rfl rfl rfl (rd_loads_ref Tryd.underlying24 rfl inf24 rfl rfl rfl rfl rfl rfl) ?_) | (refine AL.rdy rfl rfl rfl (rd_loads_ad Tryd.underlying24 rfl inf24 rfl rfl rfl rfl) ?_))
 (first | (refine AL.no rfl rfl rfl rfl ?_) | (refine AL.rdy rfl rfl rfl (rd_loads_ref Tryd.underlying24 rfl inf24 rfl rfl rfl rfl rfl rfl) ?_) | (refine AL.rdy rfl rfl rfl (rd_loads_ad Tryd.underlying24 rfl inf24 rfl rfl rfl rfl) ?_))
 (first | (refine AL.no rfl rfl rfl rfl ?_) | (refine AL.cally (post := ?pc4) rfl rfl (sm_call (args := [_, _]) ?hc4 ⟨Tryd.func7, rfl, rfl, rfl, rfl⟩ rfl rfl rfl rfl) ?_; (case hc4 => (exact am_sameMachine ⟨st, sts⟩)); rintro _ rfl -; try dsimp only))
 iterate 2 refine AL.z ?_
 apply AL.nil
 try simp only [nd, setL, V.cs, nz, Nat.reduceAdd, nm, ns]
 apply AW.ret
 exact ⟨[_], ⟨rfl, trivial⟩, rfl, by simp [tupOf, V.pure, V.has]⟩
theorem law_CertainMakes (v : Value) (m : Mach) (w : World) (htab : preT w) (h : MachAt w v m) : Calls Tryd.prog 3 #[v] w fun e w' => e = .returned (.bool true) ∧ Below w.heap.size w w' := by
 refine (am_CertainMakes m w (fun _ => False) (fun _ => (0, 0)) [v] htab (fun _ h => h.elim) (reps_cons (rep_mach h (fun _ => not_false)) reps_nil)).mono fun e w' ⟨u, y, h1, h2, _, h4, h5⟩ => ?_
 subst h2
 rw [h1, VRep.p_eq h4]
 exact ⟨rfl, h5⟩
end
end Go.Proofs.YthiknkcigcglkaaDoor

namespace Go.Proofs.YthiknkcigcglkaaDoor.lawCertainMakes
open Go.ChangeShapes Go.WideShapes Go.ChangeAt Go.RowKit
open Go.ChangeMaps (open_string shut_string)
set_option linter.unusedVariables false
set_option linter.unusedSimpArgs false

theorem tab_of {W : World} (h : laidMetH Tryd.prog Rows.certainMakesRow.laid W) : Lib.TabIs Tryd.prog W "internal/strconv.uint64pow10" .u64 Lib.pow10Tab := by
 rw [MakeChecks.laidMetH_plain _ _ _ zT10] at h
 have h2 : laidMet Tryd.prog [("internal/strconv.uint64pow10", Rows.laid_internal_strconv_uint64pow10)] W := h.tail.tail
 exact Lib.tabIs_of_head (show Tryd.prog.globalNamed "internal/strconv.uint64pow10" = some 0 by kernel_rfl) (show (Tryd.prog.globals[0]?).map (·.type) = some 138 by kernel_rfl) Tryd.underlying138 Tryd.underlying108 zT10 zT10 h2

set_option maxRecDepth 100000 in
theorem lifted (os : Os) (started : os.Started) (H : Type) (enc : TypeId × Value → H) :
  ReturnsInHanded {} Tryd.checked os 3 .any (fun w args => (Rows.certainMakesSpec.pre enc Tryd.prog Tryd.f3 [] false w args ∧ laidMetH Tryd.prog Rows.certainMakesRow.laid w) ∧ sizedMet enc Tryd.prog Tryd.f3 (OpenSpec.ofChange Rows.certainMakesSpec) false w args)
   (Rows.certainMakesSpec.post enc Tryd.prog Tryd.f3 false true false false) := by
 refine returnsInHanded_of_change_and (C := Tryd.checked) (X := fun w _ => laidMetH Tryd.prog Rows.certainMakesRow.laid w) (fun _ _ _ hh h => h.of_heap hh) own started zT10 Tryd.func3
  (ChangeSpec.witness_shaped (enc := enc) (C := Tryd.checked) (os := os) (X := fun w _ => laidMetH Tryd.prog Rows.certainMakesRow.laid w) false (World.laidAll Tryd.prog os Rows.certainMakesRow.laid) #[.agg #[.int .i64 0, .slice none 0 0]] 8 (World.laidAll_os _ _ _) (World.shaped_of_ZipB zT10 zT10) zT10 zT10 zT10
   (by rw [MakeChecks.laidMetH_plain _ _ _ zT10]; exact laidMet_laidAll _ zT10 zT10)) ?_
 intro W base args ds gs before hval0 hW _ hsz0 hL _
 have hval : ∀ (j : Nat) t v, Tryd.f3.params[j]? = some t → args[j]? = some v → Value.okWide Tryd.prog W .any base t v := hval0
 have hW' := hW
 obtain ⟨p, q, hA0, hV, rfl, hfz, hnd⟩ := hW
 have hA : DataW.TrodAll enc Tryd.prog W 0 (fun _ => true) true Tryd.f3.params.toList args.toList ds p := hA0
 have hsz : (DataW.weightsEach Tryd.prog (Tryd.f3.params.toList ++ Rows.certainMakesSpec.plain.varTypes Tryd.prog) (ds ++ gs)).all (· ≤ reachBytes) = true := hsz0
 rw [Tryd.params3] at hA hval hsz
 obtain ⟨v0, vs0, d0, ds0, p0, q0, hargs, rfl, rfl, h0, r0⟩ := trodAll_cons hA
 obtain ⟨rfl, rfl, rfl⟩ := trodAll_nil r0
 obtain rfl : args = #[v0] := by cases args; simp_all
 obtain ⟨rfl, rfl⟩ := trodVars_none hV
 have k0 := h0
 have lt0 : ∀ x ∈ p0, x.block < W.heap.size := by obtain ⟨m, hm⟩ := k0; exact DataW.trod_lt m _ _ _ hm
 obtain ⟨m0, hm0⟩ := open_machine (hval 0 24 v0 rfl rfl) h0 (fits_arg hsz (j := 0) (t := 24) rfl rfl)
 refine (law_CertainMakes _ m0 W (tab_of hL) hm0).mono fun e W' ⟨he, bel⟩ => ?_
 subst he
 exact ⟨_, rfl, _, _, _, [], _, [], hW', trodAll_mk1 (shut_bool Tryd.underlying4 _), (trodAll_cons_mk (Below.trod laidOut zT10 (of_decide_eq_true zT10) k0 bel lt0) trodAll_mk0), rfl, bel.frame _, fun h => by cases h⟩

theorem over : Rows.CertainMakesSaid :=
 OpenClaim.holds_of_wide 3 Tryd.f3 rfl rfl rfl rfl rfl rfl rfl ⟨rfl, rfl, rfl, rfl, rfl⟩ rfl rfl rfl rfl rfl zT10 Tryd.func3 zT10
  (of_decide_eq_true zT10) (by unfold Func.isWrapper; first | (rw [if_pos (by decide +kernel)]; kernel_rfl) | (rw [if_neg (by decide +kernel)]; exact ⟨rfl, rfl⟩))
  (fun os started H enc _ => lifted os started H enc)

theorem proved : Rows.CertainMakesCardSaid :=
 Claim7.holds_tied_plain_at .later [] [.data, .data, .data] true (true, "bcceaaa6313554f3e934a2640687d9faccb8b603206c07ed0b616853928574f1") false
  over (fun _ h => by cases h) zT10 (fun _ h => by cases h) certainMakes_row_tie rfl ⟨rfl, rfl⟩ zT10 rfl
  (fun f fn hf hfn => by
   obtain rfl : f = 3 := Option.some.inj ((show Tryd.prog.funcNamed "tropica/tropicalaw.CertainMakes" = some 3 by kernel_rfl).symm.trans hf) |>.symm
   obtain rfl : fn = Tryd.f3 := (Option.some.inj (Tryd.func3.symm.trans hfn)).symm
   exact ⟨by kernel_rfl, fun j t ht => by
    rw [Tryd.params3] at ht
    have h3 : t = 24 := by
     rcases j with _ | j
     ·exact by simpa using ht.symm
     simp at ht
    rcases h3 with rfl <;> first | exact (show Tryd.prog.wantsStandIn 24 = false by kernel_rfl)⟩)
  zT10
end Go.Proofs.YthiknkcigcglkaaDoor.lawCertainMakes
