/- The law ScriptShows, for every input: the call returns true and what its argument reads as is as it was; the library's variables are tied to the program's text. -/
import Derived.Test.YtbffolmgkkknpaaDoorOpen
import Derived.Test.YtbffolmgkkknpaaDoorAmScH
import Derived.Test.YtbffolmgkkknpaaDoorAmLaw
import Derived.Test.YtbffolmgkkknpaaDoorCards
import Derived.Test.YtbffolmgkkknpaaDoorTie
import Derived.ProofKit
import Derived.LaidMore
import Derived.OpenShut
import Derived.Lay
import Derived.Stop.LaidErr
import Derived.Stop.Joined
import Derived.SevenTiedAt
namespace Go.Proofs.YtbffolmgkkknpaaDoor
section
open Go.RowKit
set_option linter.unusedSimpArgs false
set_option linter.unusedVariables false
set_option maxRecDepth 100000 in
theorem am_ScriptShows (l : List Stp) : FnP preF Tryd.prog 3 [.d (stpsD l)] (fun v => v = .b true) := by
 obtain ⟨⟨A1, X1, E1⟩, hA⟩ : ∃ A, shA l = A := ⟨_, rfl⟩
 have h1 := am_scShow l
 have h2 := am_StepsShown l
 rw [hA] at h1 h2
 clear hA
 have hrr : A1 = A1 := rfl
 refine FnP.intro (n := 42) ⟨Tryd.func3, rfl, rfl, rfl, rfl⟩ (by simp [V.pure, V.has, V.hasL]) (by simp) fun w0 out hpre => ?_
 refine AW.seq ?_
 refine AW.region ?_
 refine AL.rp rfl rfl (rp_assign rfl rfl) ?_
 refine AL.nil ?_
 try simp only [thenS, S.put, enum, List.nil_append, List.cons_append, List.append_nil, Nat.zero_add, Nat.reduceAdd]
 refine AW.seq ?_
 refine AW.region ?_
 refine AL.rp rfl rfl (rp_move rfl rfl) ?_
 refine AL.call (post := ?pc0) rfl (sm_call (args := [_]) ?hc0 ⟨Tryd.func6, rfl, rfl, rfl, rfl⟩ rfl rfl rfl rfl) ?_
 case hc0 => exact am_steps l
 rintro _ rfl -
 try dsimp only
 refine AL.rp rfl rfl (rp_assign rfl rfl) ?_
 refine AL.nil ?_
 try simp only [thenS, S.put, S.newObj, setL, V.cs, List.length_cons, List.length_nil, List.take_succ_cons, List.take_zero, List.drop_succ_cons, List.drop_zero, List.drop_nil, List.nil_append, List.cons_append, List.append_nil, Nat.zero_add, Nat.reduceAdd, List.map_cons, List.map_nil, List.set_cons_zero, List.set_cons_succ]
 refine AW.seq ?_
 refine AW.region ?_
 refine AL.rp rfl rfl (rp_move rfl rfl) ?_
 refine AL.call (post := ?pc1) rfl (sm_callP (args := [_]) (preF_kept) (by assumption) ?hc1 ⟨Tryd.func7, rfl, rfl, rfl, rfl⟩ rfl rfl rfl rfl) ?_
 case hc1 => exact h1
 rintro _ rfl -
 try dsimp only
 refine AL.rp rfl rfl (rp_move rfl rfl) ?_
 refine AL.rp rfl rfl (rp_extract rfl rfl rfl) ?_
 refine AL.rp rfl rfl (rp_extract rfl rfl rfl) ?_
 refine AL.rp rfl rfl (rp_extract rfl rfl rfl) ?_
 refine AL.rp rfl rfl (rp_assign rfl rfl) ?_
 refine AL.rp rfl rfl (rp_assign rfl rfl) ?_
 refine AL.rp rfl rfl (rp_assign rfl rfl) ?_
 refine AL.nil ?_
 try simp only [thenS, S.put, S.newObj, setL, V.cs, List.length_cons, List.length_nil, List.take_succ_cons, List.take_zero, List.drop_succ_cons, List.drop_zero, List.drop_nil, List.nil_append, List.cons_append, List.append_nil, Nat.zero_add, Nat.reduceAdd, List.map_cons, List.map_nil, List.set_cons_zero, List.set_cons_succ]
 refine AW.seq ?_
 refine AW.region ?_
 refine AL.rp rfl rfl (rp_move rfl rfl) ?_
 refine AL.call (post := ?pc2) rfl (sm_call (args := [_]) ?hc2 ⟨Tryd.func8, rfl, rfl, rfl, rfl⟩ rfl rfl rfl rfl) ?_
 case hc2 => exact h2
 rintro _ rfl -
 try dsimp only
 refine AL.rp rfl rfl (rp_move rfl rfl) ?_
 refine AL.rp rfl rfl (rp_extract rfl rfl rfl) ?_
 refine AL.rp rfl rfl (rp_extract rfl rfl rfl) ?_
 refine AL.rp rfl rfl (rp_extract rfl rfl rfl) ?_
 refine AL.rp rfl rfl (rp_assign rfl rfl) ?_
 refine AL.rp rfl rfl (rp_assign rfl rfl) ?_
 refine AL.rp rfl rfl (rp_assign rfl rfl) ?_
 refine AL.nil ?_
 try simp only [thenS, S.put, S.newObj, setL, V.cs, List.length_cons, List.length_nil, List.take_succ_cons, List.take_zero, List.drop_succ_cons, List.drop_zero, List.drop_nil, List.nil_append, List.cons_append, List.append_nil, Nat.zero_add, Nat.reduceAdd, List.map_cons, List.map_nil, List.set_cons_zero, List.set_cons_succ]
 refine AW.seq ?_
 refine AW.region ?_
 refine AL.rp rfl rfl (rp_move rfl rfl) ?_
 refine AL.rp rfl rfl (rp_move rfl rfl) ?_
 (first | (refine AL.rp rfl rfl (rp_eqlsT rfl rfl rfl (by assumption)) ?_) | (refine AL.rp rfl rfl (rp_eqls rfl rfl rfl) ?_))
 refine AL.rp rfl rfl (rp_move rfl rfl) ?_
 (first | (refine AL.no rfl rfl rfl rfl ?_) | (refine AL.rpy rfl rfl rfl (rp_move rfl rfl) ?_))
 (first | (refine AL.no rfl rfl rfl rfl ?_) | (refine AL.rpy rfl rfl rfl (rp_move rfl rfl) ?_))
 (first | (refine AL.no rfl rfl rfl rfl ?_) | (refine AL.rpy rfl rfl rfl (rp_eqlT rfl rfl rfl (by first | assumption | omega | (dsimp only; omega))) ?_) | (refine AL.rpy rfl rfl rfl (rp_eqlF rfl rfl rfl (by first | assumption | omega | (dsimp only; omega))) ?_) | (refine AL.rpy rfl rfl rfl (rp_eql rfl rfl rfl) ?_))
 refine AL.rp rfl rfl (rp_pick rfl rfl rfl) ?_
 refine AL.rp rfl rfl (rp_move rfl rfl) ?_
 (first | (refine AL.no rfl rfl rfl rfl ?_) | (refine AL.rpy rfl rfl rfl (rp_move rfl rfl) ?_))
 (first | (refine AL.no rfl rfl rfl rfl ?_) | (refine AL.rpy rfl rfl rfl (rp_move rfl rfl) ?_))
 (first | (refine AL.no rfl rfl rfl rfl ?_) | (refine AL.rpy rfl rfl rfl (rp_eqlT rfl rfl rfl (by first | assumption | omega | (dsimp only; omega))) ?_) | (refine AL.rpy rfl rfl rfl (rp_eqlF rfl rfl rfl (by first | assumption | omega | (dsimp only; omega))) ?_) | (refine AL.rpy rfl rfl rfl (rp_eql rfl rfl rfl) ?_))
 refine AL.rp rfl rfl (rp_pick rfl rfl rfl) ?_
 refine AL.rp rfl rfl (rp_move rfl rfl) ?_
 (first | (refine AL.no rfl rfl rfl rfl ?_) | (refine AL.rpy rfl rfl rfl (rp_move rfl rfl) ?_))
 (first | (refine AL.no rfl rfl rfl rfl ?_) | (refine AL.rpy rfl rfl rfl (rp_move rfl rfl) ?_))
 (first | (refine AL.no rfl rfl rfl rfl ?_) | (refine AL.cally (post := ?pc3) rfl rfl (sm_call (args := [_, _]) ?hc3 ⟨Tryd.func9, rfl, rfl, rfl, rfl⟩ rfl rfl rfl rfl) ?_; (case hc3 => (exact am_sameSteps l)); rintro _ rfl -; try dsimp only))
 refine AL.rp rfl rfl (rp_pick rfl rfl rfl) ?_
 refine AL.rp rfl rfl (rp_assign rfl rfl) ?_
 refine AL.nil ?_
 try simp only [thenS, S.put, S.newObj, setL, V.cs, List.length_cons, List.length_nil, List.take_succ_cons, List.take_zero, List.drop_succ_cons, List.drop_zero, List.drop_nil, List.nil_append, List.cons_append, List.append_nil, Nat.zero_add, Nat.reduceAdd, List.map_cons, List.map_nil, List.set_cons_zero, List.set_cons_succ]
 refine AW.ret ?_
 exact ⟨[_], ⟨rfl, trivial⟩, rfl, by simp [tupOf, V.pure, V.has]⟩
theorem law_ScriptShows (v : Value) (l : List Stp) (w : World) (htab : preF w) (h : StepsAt w v l) : Calls Tryd.prog 3 #[v] w fun e w' => e = .returned (.bool true) ∧ Below w.heap.size w w' := by
 refine (am_ScriptShows l w (fun _ => False) (fun _ => (0, 0)) [v] htab (fun _ h => h.elim) (reps_cons (rep_steps h (fun _ => not_false)) reps_nil)).mono fun e w' ⟨u, y, h1, h2, _, h4, h5⟩ => ?_
 subst h2
 rw [h1, VRep.p_eq h4]
 exact ⟨rfl, h5⟩
section
open Go.ChangeShapes Go.WideShapes Go.ChangeAt Go.Deep Go.Joins
def fmData {H : Type} (i : Nat) : DataW H := .agg [.lit (.int .i64 ((i + 1 : Nat) : Int)), .lit (.string (wdK (i + 1)).data.toList), .lit (.string (arK (ptK (i + 1))).data.toList)]
theorem forms_data : (Rows.laid_tropica_script_forms : DataW Unit) = .agg ((List.range 15).map fmData) := rfl
theorem ba_mk (s : ByteArray) (l : List UInt8) (h : s.data.toList = l) : s = ⟨l.toArray⟩ := by
 cases s; simp at h; simp [← h]
theorem preF_of {W : World} {rest : List (String × DataW Unit)} (h : laidMet Tryd.prog (("tropica/script.forms", Rows.laid_tropica_script_forms) :: rest) W) : preF W := by
 obtain ⟨ps, ⟨g', t', cs, fuel, p, q, hg', ht', hvar, hd, _, _⟩, _⟩ := h
 have hg : Tryd.prog.globalNamed "tropica/script.forms" = some 0 := by kernel_rfl
 have hty : (Tryd.prog.globals[0]?).map (·.type) = some 72 := by kernel_rfl
 obtain rfl := Option.some.inj (hg.symm.trans hg')
 obtain rfl := Option.some.inj (hty.symm.trans ht')
 have k71 : Tryd.prog.cellsOf 71 = 3 := by kernel_rfl
 have k3 : Tryd.prog.cellsOf 3 = 1 := by kernel_rfl
 have k9 : Tryd.prog.cellsOf 9 = 1 := by kernel_rfl
 obtain ⟨xs, m, _, ex, _, hl, hel⟩ := DataW.trod_array Tryd.underlying72 hd
 rw [forms_data] at ex
 simp only [Prod.mk.injEq, DataW.agg.injEq] at ex
 intro k h1 h2 j v hj
 obtain ⟨i, rfl⟩ : ∃ i, k = i + 1 := ⟨k - 1, by omega⟩
 have hi : i < 15 := by omega
 obtain ⟨x, hx⟩ : ∃ x, xs[i]? = some x := ⟨_, List.getElem?_eq_getElem (by omega)⟩
 have hx1 : x.1 = fmData i := by
  have := congrArg (·[i]?) ex.1
  simp only [List.getElem?_map, hx, Option.map_some, List.getElem?_range hi, Option.some.injEq] at this
  exact this.symm
 have he := hel i hi
 rw [hx, k71] at he
 obtain ⟨ys, m2, _, ey, hlen, hl2, hf⟩ := DataW.trod_struct Tryd.underlying71 he
 obtain ⟨c0, c1, c2, hcs⟩ : ∃ c0 c1 c2, (cs.toList.drop (i * 3)).take 3 = [c0, c1, c2] := by
  rw [k71] at hlen
  match hm : (cs.toList.drop (i * 3)).take 3, hlen with
  | [c0, c1, c2], _ => exact ⟨c0, c1, c2, rfl⟩
 match ys, hl2 with
 | [z0, z1, z2], _ =>
  have f0 := hf 0 _ rfl
  have f1 := hf 1 _ rfl
  have f2 := hf 2 _ rfl
  rw [hcs] at f0 f1 f2
  simp only [List.getElem_toArray, List.getElem_cons_zero, List.getElem_cons_succ, k3, k9, List.drop_zero, List.drop_succ_cons, List.take_succ_cons, List.take_zero] at f0 f1 f2
  obtain ⟨n0, e0, d0, _⟩ := DataW.trod_int Tryd.underlying3 f0
  obtain ⟨n1, e1, d1, _⟩ := DataW.trod_string Tryd.underlying9 f1
  obtain ⟨n2, e2, d2, _⟩ := DataW.trod_string Tryd.underlying9 f2
  rw [ey] at hx1
  simp only [List.map_cons, List.map_nil, fmData, DataW.agg.injEq, List.cons.injEq, and_true] at hx1
  obtain ⟨g0, g1, g2⟩ := hx1
  rw [d0] at g0
  rw [d1] at g1
  rw [d2] at g2
  simp only [DataW.lit.injEq, Lit.int.injEq, Lit.string.injEq, true_and] at g0 g1 g2
  simp only [List.cons.injEq, and_true] at e0 e1 e2
  subst e0 e1 e2 g0
  have hn1 : n1 = wdK (i + 1) := ByteArray.ext (Array.toList_inj.1 g1)
  have hn2 : n2 = arK (ptK (i + 1)) := ByteArray.ext (Array.toList_inj.1 g2)
  subst hn1 hn2
  rw [World.var?_cell hg hvar]
  simp only [Nat.add_sub_cancel]
  have hj3 : j < 3 := by
   have := (List.getElem?_eq_some_iff.1 hj).1
   simpa [fmRow] using this
  have hcell : cs[i * 3 + j]? = ((cs.toList.drop (i * 3)).take 3)[j]? := by
   rw [List.getElem?_take_of_lt hj3, List.getElem?_drop]
   simp
  rw [hcell, hcs]
  match j, hj3, hj with
  | 0, _, hj => exact hj
  | 1, _, hj => exact hj
  | 2, _, hj => exact hj
end
end
end Go.Proofs.YtbffolmgkkknpaaDoor

namespace Go.Proofs.YtbffolmgkkknpaaDoor.lawScriptShows
open Go.ChangeShapes Go.WideShapes Go.ChangeAt Go.RowKit
open Go.ChangeMaps (open_string shut_string)
set_option linter.unusedVariables false
set_option linter.unusedSimpArgs false

theorem tab_of {W : World} (h : laidMetH Tryd.prog Rows.scriptShowsRow.laid W) : preF W := by
 rw [MakeChecks.laidMetH_plain _ _ _ (by kernel_rfl)] at h
 exact preF_of h.tail

set_option maxRecDepth 100000 in
theorem lifted (os : Os) (started : os.Started) (H : Type) (enc : TypeId × Value → H) :
  ReturnsInHanded {} Tryd.checked os 3 .any (fun w args => (Rows.scriptShowsSpec.pre enc Tryd.prog Tryd.f3 [] false w args ∧ laidMetH Tryd.prog Rows.scriptShowsRow.laid w) ∧ sizedMet enc Tryd.prog Tryd.f3 (OpenSpec.ofChange Rows.scriptShowsSpec) false w args)
   (Rows.scriptShowsSpec.post enc Tryd.prog Tryd.f3 false true false false) := by
 refine returnsInHanded_of_change_and (C := Tryd.checked) (X := fun w _ => laidMetH Tryd.prog Rows.scriptShowsRow.laid w) (fun _ _ _ hh h => h.of_heap hh) own started (by kernel_rfl) Tryd.func3
  (ChangeSpec.witness_shaped (enc := enc) (C := Tryd.checked) (os := os) (X := fun w _ => laidMetH Tryd.prog Rows.scriptShowsRow.laid w) false (World.laidAll Tryd.prog os Rows.scriptShowsRow.laid) #[.slice none 0 0] 8 (World.laidAll_os _ _ _) (World.shaped_of_ZipB (by kernel_rfl) (by kernel_rfl)) (by kernel_rfl) (by kernel_rfl) (by kernel_rfl)
   (by rw [MakeChecks.laidMetH_plain _ _ _ (by kernel_rfl)]; exact laidMet_laidAll _ (by kernel_rfl) (by kernel_rfl))) ?_
 intro W base args ds gs before hval0 hW _ hsz0 hL _
 have hval : ∀ (j : Nat) t v, Tryd.f3.params[j]? = some t → args[j]? = some v → Value.okWide Tryd.prog W .any base t v := hval0
 have hW' := hW
 obtain ⟨p, q, hA0, hV, rfl, hfz, hnd⟩ := hW
 have hA : DataW.TrodAll enc Tryd.prog W 0 (fun _ => true) true Tryd.f3.params.toList args.toList ds p := hA0
 have hsz : (DataW.weightsEach Tryd.prog (Tryd.f3.params.toList ++ Rows.scriptShowsSpec.plain.varTypes Tryd.prog) (ds ++ gs)).all (· ≤ reachBytes) = true := hsz0
 rw [Tryd.params3] at hA hval hsz
 obtain ⟨v0, vs0, d0, ds0, p0, q0, hargs, rfl, rfl, h0, r0⟩ := trodAll_cons hA
 obtain ⟨rfl, rfl, rfl⟩ := trodAll_nil r0
 obtain rfl : args = #[v0] := by cases args; simp_all
 obtain ⟨rfl, rfl⟩ := trodVars_none hV
 have k0 := h0
 have lt0 : ∀ x ∈ p0, x.block < W.heap.size := by obtain ⟨m, hm⟩ := k0; exact DataW.trod_lt m _ _ _ hm
 obtain ⟨a0, len0, cap0, rfl⟩ := okWide_slice Tryd.underlying22 (hval 0 22 v0 rfl rfl)
 obtain ⟨l0, hl0⟩ : ∃ l, StepsAt W (.slice a0 len0 cap0) l := by
  obtain ⟨fuel, hf⟩ := h0
  exact open_steps (by simpa [Value.cells] using hf) (fits_arg hsz (j := 0) (t := 22) rfl rfl)
 refine (law_ScriptShows _ l0 W (tab_of hL) hl0).mono fun e W' ⟨he, bel⟩ => ?_
 subst he
 exact ⟨_, rfl, _, _, _, [], _, [], hW', trodAll_mk1 (shut_bool Tryd.underlying4 _), (trodAll_cons_mk (Below.trod laidOut (by kernel_rfl) (of_decide_eq_true (by kernel_rfl)) k0 bel lt0) trodAll_mk0), rfl, bel.frame _, fun h => by cases h⟩

theorem over : Rows.ScriptShowsSaid :=
 OpenClaim.holds_of_wide 3 Tryd.f3 rfl rfl rfl rfl rfl rfl rfl ⟨rfl, rfl, rfl, rfl, rfl⟩ rfl rfl rfl rfl rfl (by kernel_rfl) Tryd.func3 (by kernel_rfl)
  (of_decide_eq_true (by kernel_rfl)) (by unfold Func.isWrapper; first | (rw [if_pos (by decide +kernel)]; kernel_rfl) | (rw [if_neg (by decide +kernel)]; exact ⟨rfl, rfl⟩))
  (fun os started H enc _ => lifted os started H enc)

theorem proved : Rows.ScriptShowsCardSaid :=
 Claim7.holds_tied_plain_at .later [] [.data, .data, .pinned] true (true, "c9f2be37cbabc92f9b0ba5d759f71abf7e2837a6d0fa607ca5f3728c045222a0") false
  over (fun _ h => by cases h) (by kernel_rfl) (fun _ h => by cases h) scriptShows_row_tie rfl ⟨rfl, rfl⟩ (by kernel_rfl) rfl
  (fun f fn hf hfn => by
   obtain rfl : f = 3 := Option.some.inj ((show Tryd.prog.funcNamed "tropica/tropicalaw.ScriptShows" = some 3 by kernel_rfl).symm.trans hf) |>.symm
   obtain rfl : fn = Tryd.f3 := (Option.some.inj (Tryd.func3.symm.trans hfn)).symm
   exact ⟨by kernel_rfl, fun j t ht => by
    rw [Tryd.params3] at ht
    have h3 : t = 22 := by
     rcases j with _ | j
     ·exact by simpa using ht.symm
     ·simp at ht
    rcases h3 with rfl <;> first | exact (show Tryd.prog.wantsStandIn 22 = false by kernel_rfl)⟩)
  (by kernel_rfl)
end Go.Proofs.YtbffolmgkkknpaaDoor.lawScriptShows
