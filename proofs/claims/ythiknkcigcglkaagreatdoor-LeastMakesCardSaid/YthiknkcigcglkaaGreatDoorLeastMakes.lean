/- The law LeastMakes, for every input: the call returns true and what its argument reads as is as it was; the library's variables are tied to the program's text. -/
import Derived.Test.YthiknkcigcglkaaGreatDoorPkLe1
import Derived.Test.YthiknkcigcglkaaGreatDoorPkLe2
import Derived.Test.YthiknkcigcglkaaGreatDoorPkLe3
import Derived.Test.YthiknkcigcglkaaGreatDoorPkLe4
import Derived.Test.YthiknkcigcglkaaGreatDoorPkLe5
import Derived.Test.YthiknkcigcglkaaGreatDoorPkLe6
import Derived.Test.YthiknkcigcglkaaGreatDoorPkLe7
import Derived.Test.YthiknkcigcglkaaGreatDoorPkLe8
import Derived.Test.YthiknkcigcglkaaGreatDoorPkLe9
import Derived.Test.YthiknkcigcglkaaGreatDoorPkLe10
import Derived.Test.YthiknkcigcglkaaGreatDoorPkLe11
import Derived.Test.YthiknkcigcglkaaGreatDoorPkLe12
import Derived.Test.YthiknkcigcglkaaGreatDoorPkLe13
import Derived.Test.YthiknkcigcglkaaGreatDoorPkLe14
import Derived.Test.YthiknkcigcglkaaGreatDoorPkLe15
import Derived.Test.YthiknkcigcglkaaGreatDoorCards
import Derived.Test.YthiknkcigcglkaaGreatDoorTie
import Derived.ProofKit
import Derived.LaidMore
import Derived.OpenShut
import Derived.Lay
import Derived.Stop.LaidErr
import Derived.Stop.Joined
import Derived.SevenTiedAt
namespace Go.Proofs.YthiknkcigcglkaaGreatDoor
section
open Go.RowKit
set_option linter.unusedSimpArgs false
set_option linter.unusedVariables false
set_option maxRecDepth 100000 in
theorem am_LeastMakes (m : Mach) : FnP preT Tryz.prog 3 [mV m] (fun v => v = .b true) := by
 have h1 := am_Least m
 have h2 := am_Leasted m
 obtain ⟨⟨t, ts⟩, hT⟩ : ∃ T, leM m = T := ⟨_, rfl⟩
 obtain ⟨x, hX⟩ : ∃ T, leV m = T := ⟨_, rfl⟩
 obtain ⟨e, hE⟩ : ∃ T, leE m = T := ⟨_, rfl⟩
 rw [hT, hX, hE] at h1 h2
 clear hT hX hE
 obtain ⟨st, sts⟩ := m
 refine FnP.intro (n := 42) ⟨Tryz.func3, rfl, rfl, rfl, rfl⟩ zT8 zT16 fun w0 out hpre => ?_
 apply AW.sr
 refine AL.sm rfl (sm_box 1 rfl rfl rfl zT0 rfl) ?_
 refine AL.z ?_
 apply AL.nil
 try simp only [nd, setL, V.cs, nz, Nat.reduceAdd, nm, ns, enum]
 apply AW.sr
 (first | (refine AL.rd rfl rfl (rd_loads_ref Tryz.underlying24 rfl inf24 rfl rfl rfl rfl rfl rfl) ?_) | (refine AL.rd rfl rfl (rd_loads_ad Tryz.underlying24 rfl inf24 rfl rfl rfl rfl) ?_))
 refine AL.call (post := ?pc0) rfl (sm_call (args := [_]) ?hc0 ⟨Tryz.func6, rfl, rfl, rfl, rfl⟩ rfl rfl rfl rfl) ?_
 case hc0 => exact am_machine ⟨st, sts⟩
 rintro _ rfl -
 try dsimp only
 refine AL.sm rfl (sm_alloc (l := [.d (.p (.int .i64 0)), .d (.p (.slice none 0 0))]) 3 inf24 rfl zT0 rfl rfl) ?_
 refine AL.y ?_
 apply AL.nil
 try simp only [nd, setL, V.cs, nz, Nat.reduceAdd, nm, ns]
 apply AW.sr
 (first | (refine AL.rd rfl rfl (rd_loads_ref Tryz.underlying24 rfl inf24 rfl rfl rfl rfl rfl rfl) ?_) | (refine AL.rd rfl rfl (rd_loads_ad Tryz.underlying24 rfl inf24 rfl rfl rfl rfl) ?_))
 refine AL.call (post := ?pc1) rfl (sm_callP (args := [_]) (tab_kept _ _ _ _) zT13 ?hc1 ⟨Tryz.func7, rfl, rfl, rfl, rfl⟩ rfl rfl rfl rfl) ?_
 case hc1 => exact h1
 rintro _ rfl -
 try dsimp only
 iterate 4 refine AL.z ?_
 refine AL.sm rfl (sm_alloc (l := [.d (.p (.int .i64 0)), .d (.p (.slice none 0 0))]) 4 inf24 rfl zT0 rfl rfl) ?_
 refine AL.y ?_
 iterate 2 refine AL.z ?_
 apply AL.nil
 try simp only [nd, setL, V.cs, nz, Nat.reduceAdd, nm, ns]
 apply AW.sr
 (first | (refine AL.rd rfl rfl (rd_loads_ref Tryz.underlying24 rfl inf24 rfl rfl rfl rfl rfl rfl) ?_) | (refine AL.rd rfl rfl (rd_loads_ad Tryz.underlying24 rfl inf24 rfl rfl rfl rfl) ?_))
 refine AL.call (post := ?pc2) rfl (sm_call (args := [_]) ?hc2 ⟨Tryz.func8, rfl, rfl, rfl, rfl⟩ rfl rfl rfl rfl) ?_
 case hc2 => exact h2
 rintro _ rfl -
 try dsimp only
 iterate 4 refine AL.z ?_
 refine AL.sm rfl (sm_alloc (l := [.d (.p (.int .i64 0)), .d (.p (.slice none 0 0))]) 7 inf24 rfl zT0 rfl rfl) ?_
 refine AL.y ?_
 iterate 2 refine AL.z ?_
 apply AL.nil
 try simp only [nd, setL, V.cs, nz, Nat.reduceAdd, nm, ns]
 apply AW.sr
 iterate 2 refine AL.z ?_
 (first | (refine AL.rp rfl rfl (rp_eqlT rfl rfl rfl zT2) ?_) | (refine AL.rp rfl rfl (rp_eqlF rfl rfl rfl zT2) ?_) | (refine AL.rp rfl rfl (rp_eql rfl rfl rfl) ?_))
 refine AL.z ?_
 (first | (refine AL.no rfl rfl rfl rfl ?_) | (refine AL.rpy rfl rfl rfl (rp_move rfl rfl) ?_))
 (first | (refine AL.no rfl rfl rfl rfl ?_) | (refine AL.rpy rfl rfl rfl (rp_move rfl rfl) ?_))
 (first | (refine AL.no rfl rfl rfl rfl ?_) | (refine AL.rpy rfl rfl rfl (rp_eqlT rfl rfl rfl zT2) ?_) | (refine AL.rpy rfl rfl rfl (rp_eqlF rfl rfl rfl zT2) ?_) | (refine AL.rpy rfl rfl rfl (rp_eql rfl rfl rfl) ?_))
 iterate 2 refine AL.z ?_
 (first | (refine AL.no rfl rfl rfl rfl ?_) | (refine AL.rdy rfl rfl rfl (rd_loads_ref Tryz.underlying24 rfl inf24 rfl rfl rfl rfl rfl rfl) ?_) | (refine AL.rdy rfl rfl rfl (rd_loads_ad Tryz.underlying24 rfl inf24 rfl rfl rfl rfl) ?_))
 (first | (refine AL.no rfl rfl rfl rfl ?_) | (refine AL.rdy rfl rfl rfl (rd_loads_ref Tryz.underlying24 rfl inf24 rfl rfl rfl rfl rfl rfl) ?_) | (refine AL.rdy rfl rfl rfl (rd_loads_ad Tryz.underlying24 rfl inf24 rfl rfl rfl rfl) ?_))
 (first | (refine AL.no rfl rfl rfl rfl ?_) | (refine AL.cally (post := ?pc3) rfl rfl (sm_call (args := [_, _]) ?hc3 ⟨Tryz.func9, rfl, rfl, rfl, rfl⟩ rfl rfl rfl rfl) ?_; (case hc3 => (exact am_sameMachine ⟨t, ts⟩)); rintro _ rfl -; try dsimp only))
 iterate 2 refine AL.z ?_
 (first | (refine AL.no rfl rfl rfl rfl ?_) | (refine AL.rdy rfl rfl rfl (rd_loads_ref Tryz.underlying24 rfl inf24 rfl rfl rfl rfl rfl rfl) ?_) | (refine AL.rdy rfl rfl rfl (rd_loads_ad Tryz.underlying24 rfl inf24 rfl rfl rfl rfl) ?_))
 (first | (refine AL.no rfl rfl rfl rfl ?_) | (refine AL.rdy rfl rfl rfl (rd_loads_ref Tryz.underlying24 rfl inf24 rfl rfl rfl rfl rfl rfl) ?_) | (refine AL.rdy rfl rfl rfl (rd_loads_ad Tryz.underlying24 rfl inf24 rfl rfl rfl rfl) ?_))
 (first | (refine AL.no rfl rfl rfl rfl ?_) | (refine AL.cally (post := ?pc4) rfl rfl (sm_call (args := [_, _]) ?hc4 ⟨Tryz.func9, rfl, rfl, rfl, rfl⟩ rfl rfl rfl rfl) ?_; (case hc4 => (exact am_sameMachine ⟨st, sts⟩)); rintro _ rfl -; try dsimp only))
 iterate 2 refine AL.z ?_
 apply AL.nil
 try simp only [nd, setL, V.cs, nz, Nat.reduceAdd, nm, ns]
 apply AW.ret
 exact ⟨[_], ⟨rfl, trivial⟩, rfl, by simp [tupOf, V.pure, V.has]⟩
theorem law_LeastMakes (v : Value) (m : Mach) (w : World) (htab : preT w) (h : MachAt w v m) : Calls Tryz.prog 3 #[v] w fun e w' => e = .returned (.bool true) ∧ Below w.heap.size w w' := by
 refine (am_LeastMakes m w (fun _ => False) (fun _ => (0, 0)) [v] htab (fun _ h => h.elim) (reps_cons (rep_mach h (fun _ => not_false)) reps_nil)).mono fun e w' ⟨u, y, h1, h2, _, h4, h5⟩ => ?_
 subst h2
 rw [h1, VRep.p_eq h4]
 exact ⟨rfl, h5⟩
end
end Go.Proofs.YthiknkcigcglkaaGreatDoor

namespace Go.Proofs.YthiknkcigcglkaaGreatDoor.lawLeastMakes
open Go.ChangeShapes Go.WideShapes Go.ChangeAt Go.RowKit
open Go.ChangeMaps (open_string shut_string)
set_option linter.unusedVariables false
set_option linter.unusedSimpArgs false

theorem tab_of {W : World} (h : laidMetH Tryz.prog Rows.leastMakesRow.laid W) : Lib.TabIs Tryz.prog W "internal/strconv.uint64pow10" .u64 Lib.pow10Tab := by
 rw [MakeChecks.laidMetH_plain _ _ _ zT12] at h
 have h2 : laidMet Tryz.prog [("internal/strconv.uint64pow10", Rows.laid_internal_strconv_uint64pow10)] W := h.tail.tail
 exact Lib.tabIs_of_head (show Tryz.prog.globalNamed "internal/strconv.uint64pow10" = some 0 by kernel_rfl) (show (Tryz.prog.globals[0]?).map (·.type) = some 194 by kernel_rfl) Tryz.underlying194 Tryz.underlying125 zT12 zT12 h2

set_option maxRecDepth 100000 in
theorem lifted (os : Os) (started : os.Started) (H : Type) (enc : TypeId × Value → H) :
  ReturnsInHanded {} Tryz.checked os 3 .any (fun w args => (Rows.leastMakesSpec.pre enc Tryz.prog Tryz.f3 [] false w args ∧ laidMetH Tryz.prog Rows.leastMakesRow.laid w) ∧ sizedMet enc Tryz.prog Tryz.f3 (OpenSpec.ofChange Rows.leastMakesSpec) false w args)
   (Rows.leastMakesSpec.post enc Tryz.prog Tryz.f3 false true false false) := by
 refine returnsInHanded_of_change_and (C := Tryz.checked) (X := fun w _ => laidMetH Tryz.prog Rows.leastMakesRow.laid w) (fun _ _ _ hh h => h.of_heap hh) own started zT12 Tryz.func3
  (ChangeSpec.witness_shaped (enc := enc) (C := Tryz.checked) (os := os) (X := fun w _ => laidMetH Tryz.prog Rows.leastMakesRow.laid w) false (World.laidAll Tryz.prog os Rows.leastMakesRow.laid) #[.agg #[.int .i64 0, .slice none 0 0]] 8 (World.laidAll_os _ _ _) (World.shaped_of_ZipB zT12 zT12) zT12 zT12 zT12
   (by rw [MakeChecks.laidMetH_plain _ _ _ zT12]; exact laidMet_laidAll _ zT12 zT12)) ?_
 intro W base args ds gs before hval0 hW _ hsz0 hL _
 have hval : ∀ (j : Nat) t v, Tryz.f3.params[j]? = some t → args[j]? = some v → Value.okWide Tryz.prog W .any base t v := hval0
 have hW' := hW
 obtain ⟨p, q, hA0, hV, rfl, hfz, hnd⟩ := hW
 have hA : DataW.TrodAll enc Tryz.prog W 0 (fun _ => true) true Tryz.f3.params.toList args.toList ds p := hA0
 have hsz : (DataW.weightsEach Tryz.prog (Tryz.f3.params.toList ++ Rows.leastMakesSpec.plain.varTypes Tryz.prog) (ds ++ gs)).all (· ≤ reachBytes) = true := hsz0
 rw [Tryz.params3] at hA hval hsz
 obtain ⟨v0, vs0, d0, ds0, p0, q0, hargs, rfl, rfl, h0, r0⟩ := trodAll_cons hA
 obtain ⟨rfl, rfl, rfl⟩ := trodAll_nil r0
 obtain rfl : args = #[v0] := by cases args; simp_all
 obtain ⟨rfl, rfl⟩ := trodVars_none hV
 have k0 := h0
 have lt0 : ∀ x ∈ p0, x.block < W.heap.size := by obtain ⟨m, hm⟩ := k0; exact DataW.trod_lt m _ _ _ hm
 obtain ⟨m0, hm0⟩ := open_machine (hval 0 24 v0 rfl rfl) h0 (fits_arg hsz (j := 0) (t := 24) rfl rfl)
 refine (law_LeastMakes _ m0 W (tab_of hL) hm0).mono fun e W' ⟨he, bel⟩ => ?_
 subst he
 exact ⟨_, rfl, _, _, _, [], _, [], hW', trodAll_mk1 (shut_bool Tryz.underlying4 _), (trodAll_cons_mk (Below.trod laidOut zT12 (of_decide_eq_true zT12) k0 bel lt0) trodAll_mk0), rfl, bel.frame _, fun h => by cases h⟩

theorem over : Rows.LeastMakesSaid :=
 OpenClaim.holds_of_wide 3 Tryz.f3 rfl rfl rfl rfl rfl rfl rfl ⟨rfl, rfl, rfl, rfl, rfl⟩ rfl rfl rfl rfl rfl zT12 Tryz.func3 zT12
  (of_decide_eq_true zT12) (by unfold Func.isWrapper; first | (rw [if_pos (by decide +kernel)]; kernel_rfl) | (rw [if_neg (by decide +kernel)]; exact ⟨rfl, rfl⟩))
  (fun os started H enc _ => lifted os started H enc)

theorem proved : Rows.LeastMakesCardSaid :=
 Claim7.holds_tied_plain_at .later [] [.data, .data, .data] true (true, "44fc30ffa4a9bc02ad4802a5a3a767f6044218fcc89642e52e88e424ad017258") false
  over (fun _ h => by cases h) zT12 (fun _ h => by cases h) leastMakes_row_tie rfl ⟨rfl, rfl⟩ zT12 rfl
  (fun f fn hf hfn => by
   obtain rfl : f = 3 := Option.some.inj ((show Tryz.prog.funcNamed "tropica/tropicalaw.LeastMakes" = some 3 by kernel_rfl).symm.trans hf) |>.symm
   obtain rfl : fn = Tryz.f3 := (Option.some.inj (Tryz.func3.symm.trans hfn)).symm
   exact ⟨by kernel_rfl, fun j t ht => by
    rw [Tryz.params3] at ht
    have h3 : t = 24 := by
     rcases j with _ | j
     ·exact by simpa using ht.symm
     simp at ht
    rcases h3 with rfl <;> first | exact (show Tryz.prog.wantsStandIn 24 = false by kernel_rfl)⟩)
  zT12
end Go.Proofs.YthiknkcigcglkaaGreatDoor.lawLeastMakes
