/- The law ScriptReads, for every input: the call returns true and what its argument reads as is as it was; the library's variables are tied to the program's text. -/
import Derived.Test.YtlgnjehfojogmaaDoorPkSc1
import Derived.Test.YtlgnjehfojogmaaDoorPkSc2
import Derived.Test.YtlgnjehfojogmaaDoorPkSc3
import Derived.Test.YtlgnjehfojogmaaDoorPkSc4
import Derived.Test.YtlgnjehfojogmaaDoorPkSc5
import Derived.Test.YtlgnjehfojogmaaDoorPkSc6
import Derived.Test.YtlgnjehfojogmaaDoorPkSc7
import Derived.Test.YtlgnjehfojogmaaDoorPkSc8
import Derived.Test.YtlgnjehfojogmaaDoorPkSc9
import Derived.Test.YtlgnjehfojogmaaDoorPkSc10
import Derived.Test.YtlgnjehfojogmaaDoorPkSc11
import Derived.Test.YtlgnjehfojogmaaDoorCards
import Derived.Test.YtlgnjehfojogmaaDoorTie
import Derived.ProofKit
import Derived.LaidMore
import Derived.OpenShut
import Derived.Lay
import Derived.Shelf.Vars
import Derived.Stop.LaidErr
import Derived.Stop.Joined
import Derived.SevenTiedAt
namespace Go.Proofs.YtlgnjehfojogmaaDoor
section
open Go.RowKit
set_option linter.unusedSimpArgs false
set_option linter.unusedVariables false
theorem FnP.wkS {Pre : World → Prop} {P : Program} {f : FuncId} {args : List V} {post post' : V → Prop} (h : FnP Pre P f args post) (hp : ∀ v, post v → v.pure → ∃ v', post' v' ∧ v'.pure ∧ ∀ w q g x, VRep w q g v x → VRep w q g v' x) : FnP Pre P f args post' := fun w out g xs h0 h1 h2 =>
 (h w out g xs h0 h1 h2).mono fun e w' ⟨v, x, h3, h4, h5, h6, h7⟩ => by
  obtain ⟨v', k1, k2, k3⟩ := hp v h4 h5
  exact ⟨v', x, h3, k1, k2, k3 _ _ _ _ h6, h7⟩
theorem rep_nl {n m : Nat} : ∀ w q g x, VRep w q g nlV x → VRep w q g (.d (.sl n m [])) x := by
 intro w q g x hx
 exact (Wk.nil n m).rep hx
theorem rep_tupH {u u' : V} {vs : List V} (h : ∀ w q g x, VRep w q g u x → VRep w q g u' x) : ∀ w q g x, VRep w q g (.tup (u :: vs)) x → VRep w q g (.tup (u' :: vs)) x := by
 intro w q g x hx
 cases hx with
 | tup _ cs hl hh =>
  refine .tup _ cs hl fun j y z hy hz => ?_
  cases j with
  | zero =>
   simp only [List.getElem?_cons_zero, Option.some.injEq] at hy
   subst hy
   exact h _ _ _ _ (hh 0 u z rfl hz)
  | succ j => exact hh (j + 1) y z hy hz
def rdS (R : List Stp × Int × Int) : List Stp := if R.2.2 = 0 then R.1 else []
theorem rdV_wk {R : List Stp × Int × Int} (v : V) (h : v = rdV R) (_ : v.pure) : ∃ v', v' = .tup [.d (stpsD (rdS R)), .i R.2.1, .i R.2.2] ∧ v'.pure ∧ ∀ w q g x, VRep w q g v x → VRep w q g v' x := by
 refine ⟨_, rfl, by simp [V.pure, V.has, V.hasL], ?_⟩
 subst h
 unfold rdV rdS
 by_cases h0 : R.2.2 = 0
 ·rw [if_pos h0, if_pos h0]
  exact fun _ _ _ _ h => h
 ·rw [if_neg h0, if_neg h0]
  exact rep_tupH rep_nl
set_option maxRecDepth 100000 in
theorem am_ScriptReads (t : List UInt8) : FnP preS Tryd.prog 4 [.s (bs t)] (fun v => v = .b true) := by
 have h1 := (am_scRead t _ rfl).wkS rdV_wk
 have h2 := (am_StepsRead t _ rfl).wkS rdV_wk
 obtain ⟨l, hl⟩ : ∃ l, rdS (rdT t) = l := ⟨_, rfl⟩
 obtain ⟨m, hm⟩ : ∃ m, (rdT t).2.1 = m := ⟨_, rfl⟩
 obtain ⟨e, he⟩ : ∃ e, (rdT t).2.2 = e := ⟨_, rfl⟩
 rw [hl, hm, he] at h1 h2
 clear hl hm he
 refine FnP.intro (n := 34) ⟨Tryd.func4, rfl, rfl, rfl, rfl⟩ (by simp [V.pure, V.has, V.hasL]) (by simp) fun w0 out hpre => ?_
 refine AW.seq ?_
 refine AW.region ?_
 refine AL.rp rfl rfl (rp_assign rfl rfl) ?_
 refine AL.nil ?_
 try simp only [thenS, S.put, enum, List.nil_append, List.cons_append, List.append_nil, Nat.zero_add, Nat.reduceAdd]
 refine AW.seq ?_
 refine AW.region ?_
 refine AL.rp rfl rfl (rp_move rfl rfl) ?_
 refine AL.call (post := ?pc0) rfl (sm_callP (args := [_]) (preS_kept) (by assumption) ?hc0 ⟨Tryd.func9, rfl, rfl, rfl, rfl⟩ rfl rfl rfl rfl) ?_
 case hc0 => exact h1
 rintro _ rfl -
 try dsimp only
 refine AL.rp rfl rfl (rp_move rfl rfl) ?_
 refine AL.rp rfl rfl (rp_extract rfl rfl rfl) ?_
 refine AL.rp rfl rfl (rp_extract rfl rfl rfl) ?_
 refine AL.rp rfl rfl (rp_extract rfl rfl rfl) ?_
 refine AL.rp rfl rfl (rp_assign rfl rfl) ?_
 refine AL.rp rfl rfl (rp_assign rfl rfl) ?_
 refine AL.rp rfl rfl (rp_assign rfl rfl) ?_
 refine AL.nil ?_
 try simp only [thenS, S.put, S.newObj, setL, V.cs, List.length_cons, List.length_nil, List.take_succ_cons, List.take_zero, List.drop_succ_cons, List.drop_zero, List.drop_nil, List.nil_append, List.cons_append, List.append_nil, Nat.zero_add, Nat.reduceAdd, List.map_cons, List.map_nil, List.set_cons_zero, List.set_cons_succ]
 refine AW.seq ?_
 refine AW.region ?_
 refine AL.rp rfl rfl (rp_move rfl rfl) ?_
 refine AL.call (post := ?pc1) rfl (sm_call (args := [_]) ?hc1 ⟨Tryd.func10, rfl, rfl, rfl, rfl⟩ rfl rfl rfl rfl) ?_
 case hc1 => exact h2
 rintro _ rfl -
 try dsimp only
 refine AL.rp rfl rfl (rp_move rfl rfl) ?_
 refine AL.rp rfl rfl (rp_extract rfl rfl rfl) ?_
 refine AL.rp rfl rfl (rp_extract rfl rfl rfl) ?_
 refine AL.rp rfl rfl (rp_extract rfl rfl rfl) ?_
 refine AL.rp rfl rfl (rp_assign rfl rfl) ?_
 refine AL.rp rfl rfl (rp_assign rfl rfl) ?_
 refine AL.rp rfl rfl (rp_assign rfl rfl) ?_
 refine AL.nil ?_
 try simp only [thenS, S.put, S.newObj, setL, V.cs, List.length_cons, List.length_nil, List.take_succ_cons, List.take_zero, List.drop_succ_cons, List.drop_zero, List.drop_nil, List.nil_append, List.cons_append, List.append_nil, Nat.zero_add, Nat.reduceAdd, List.map_cons, List.map_nil, List.set_cons_zero, List.set_cons_succ]
 refine AW.seq ?_
 refine AW.region ?_
 refine AL.rp rfl rfl (rp_move rfl rfl) ?_
 refine AL.rp rfl rfl (rp_move rfl rfl) ?_
 (first | (refine AL.rp rfl rfl (rp_eqlT rfl rfl rfl (by first | assumption | omega | (dsimp only; omega))) ?_) | (refine AL.rp rfl rfl (rp_eqlF rfl rfl rfl (by first | assumption | omega | (dsimp only; omega))) ?_) | (refine AL.rp rfl rfl (rp_eql rfl rfl rfl) ?_))
 refine AL.rp rfl rfl (rp_move rfl rfl) ?_
 (first | (refine AL.no rfl rfl rfl rfl ?_) | (refine AL.rpy rfl rfl rfl (rp_move rfl rfl) ?_))
 (first | (refine AL.no rfl rfl rfl rfl ?_) | (refine AL.rpy rfl rfl rfl (rp_move rfl rfl) ?_))
 (first | (refine AL.no rfl rfl rfl rfl ?_) | (refine AL.rpy rfl rfl rfl (rp_eqlT rfl rfl rfl (by first | assumption | omega | (dsimp only; omega))) ?_) | (refine AL.rpy rfl rfl rfl (rp_eqlF rfl rfl rfl (by first | assumption | omega | (dsimp only; omega))) ?_) | (refine AL.rpy rfl rfl rfl (rp_eql rfl rfl rfl) ?_))
 refine AL.rp rfl rfl (rp_pick rfl rfl rfl) ?_
 refine AL.rp rfl rfl (rp_move rfl rfl) ?_
 (first | (refine AL.no rfl rfl rfl rfl ?_) | (refine AL.rpy rfl rfl rfl (rp_move rfl rfl) ?_))
 (first | (refine AL.no rfl rfl rfl rfl ?_) | (refine AL.rpy rfl rfl rfl (rp_move rfl rfl) ?_))
 (first | (refine AL.no rfl rfl rfl rfl ?_) | (refine AL.cally (post := ?pc2) rfl rfl (sm_call (args := [_, _]) ?hc2 ⟨Tryd.func11, rfl, rfl, rfl, rfl⟩ rfl rfl rfl rfl) ?_; (case hc2 => (exact am_sameSteps l)); rintro _ rfl -; try dsimp only))
 refine AL.rp rfl rfl (rp_pick rfl rfl rfl) ?_
 refine AL.rp rfl rfl (rp_assign rfl rfl) ?_
 refine AL.nil ?_
 try simp only [thenS, S.put, S.newObj, setL, V.cs, List.length_cons, List.length_nil, List.take_succ_cons, List.take_zero, List.drop_succ_cons, List.drop_zero, List.drop_nil, List.nil_append, List.cons_append, List.append_nil, Nat.zero_add, Nat.reduceAdd, List.map_cons, List.map_nil, List.set_cons_zero, List.set_cons_succ]
 refine AW.ret ?_
 exact ⟨[_], ⟨rfl, trivial⟩, rfl, by simp [tupOf, V.pure, V.has]⟩
theorem law_ScriptReads (s : ByteArray) (w : World) (htab : preS w) : Calls Tryd.prog 4 #[.string s] w fun e w' => e = .returned (.bool true) ∧ Below w.heap.size w w' := by
 have h := am_ScriptReads s.data.toList
 rw [bs_of] at h
 refine (h w (fun _ => False) (fun _ => (0, 0)) [.string s] htab (fun _ h => h.elim) (reps_cons (.d _ _ (.p _)) reps_nil)).mono fun e w' ⟨u, y, h1, h2, _, h4, h5⟩ => ?_
 subst h2
 rw [h1, VRep.p_eq h4]
 exact ⟨rfl, h5⟩
section
open Go.ChangeShapes Go.WideShapes Go.ChangeAt Go.Deep Go.Joins
def fmData {H : Type} (i : Nat) : DataW H := .agg [.lit (.int .i64 ((i + 1 : Nat) : Int)), .lit (.string (wdK (i + 1)).data.toList), .lit (.string (arK (ptK (i + 1))).data.toList)]
theorem forms_data : (Rows.laid_tropica_script_forms : DataW Unit) = .agg ((List.range 15).map fmData) := rfl
theorem ba_mk (s : ByteArray) (l : List UInt8) (h : s.data.toList = l) : s = ⟨l.toArray⟩ := by
 cases s; simp at h; simp [← h]
theorem preF_of {W : World} {rest : List (String × DataW Unit)} (h : laidMet Tryd.prog (("tropica/script.forms", Rows.laid_tropica_script_forms) :: rest) W) : preF W := by
 obtain ⟨ps, ⟨g', t', cs, fuel, p, q, hg', ht', hvar, hd, _, _⟩, _⟩ := h
 have hg : Tryd.prog.globalNamed "tropica/script.forms" = some 0 := by kernel_rfl
 have hty : (Tryd.prog.globals[0]?).map (·.type) = some 86 := by kernel_rfl
 obtain rfl := Option.some.inj (hg.symm.trans hg')
 obtain rfl := Option.some.inj (hty.symm.trans ht')
 have k71 : Tryd.prog.cellsOf 85 = 3 := by kernel_rfl
 have k3 : Tryd.prog.cellsOf 3 = 1 := by kernel_rfl
 have k9 : Tryd.prog.cellsOf 9 = 1 := by kernel_rfl
 obtain ⟨xs, m, _, ex, _, hl, hel⟩ := DataW.trod_array Tryd.underlying86 hd
 rw [forms_data] at ex
 simp only [Prod.mk.injEq, DataW.agg.injEq] at ex
 intro k h1 h2 j v hj
 obtain ⟨i, rfl⟩ : ∃ i, k = i + 1 := ⟨k - 1, by omega⟩
 have hi : i < 15 := by omega
 obtain ⟨x, hx⟩ : ∃ x, xs[i]? = some x := ⟨_, List.getElem?_eq_getElem (by omega)⟩
 have hx1 : x.1 = fmData i := by
  have := congrArg (·[i]?) ex.1
  simp only [List.getElem?_map, hx, Option.map_some, List.getElem?_range hi, Option.some.injEq] at this
  exact this.symm
 have he := hel i hi
 rw [hx, k71] at he
 obtain ⟨ys, m2, _, ey, hlen, hl2, hf⟩ := DataW.trod_struct Tryd.underlying85 he
 obtain ⟨c0, c1, c2, hcs⟩ : ∃ c0 c1 c2, (cs.toList.drop (i * 3)).take 3 = [c0, c1, c2] := by
  rw [k71] at hlen
  match hm : (cs.toList.drop (i * 3)).take 3, hlen with
  | [c0, c1, c2], _ => exact ⟨c0, c1, c2, rfl⟩
 match ys, hl2 with
 | [z0, z1, z2], _ =>
  have f0 := hf 0 _ rfl
  have f1 := hf 1 _ rfl
  have f2 := hf 2 _ rfl
  rw [hcs] at f0 f1 f2
  simp only [List.getElem_toArray, List.getElem_cons_zero, List.getElem_cons_succ, k3, k9, List.drop_zero, List.drop_succ_cons, List.take_succ_cons, List.take_zero] at f0 f1 f2
  obtain ⟨n0, e0, d0, _⟩ := DataW.trod_int Tryd.underlying3 f0
  obtain ⟨n1, e1, d1, _⟩ := DataW.trod_string Tryd.underlying9 f1
  obtain ⟨n2, e2, d2, _⟩ := DataW.trod_string Tryd.underlying9 f2
  rw [ey] at hx1
  simp only [List.map_cons, List.map_nil, fmData, DataW.agg.injEq, List.cons.injEq, and_true] at hx1
  obtain ⟨g0, g1, g2⟩ := hx1
  rw [d0] at g0
  rw [d1] at g1
  rw [d2] at g2
  simp only [DataW.lit.injEq, Lit.int.injEq, Lit.string.injEq, true_and] at g0 g1 g2
  simp only [List.cons.injEq, and_true] at e0 e1 e2
  subst e0 e1 e2 g0
  have hn1 : n1 = wdK (i + 1) := ByteArray.ext (Array.toList_inj.1 g1)
  have hn2 : n2 = arK (ptK (i + 1)) := ByteArray.ext (Array.toList_inj.1 g2)
  subst hn1 hn2
  rw [World.var?_cell hg hvar]
  simp only [Nat.add_sub_cancel]
  have hj3 : j < 3 := by
   have := (List.getElem?_eq_some_iff.1 hj).1
   simpa [fmRow] using this
  have hcell : cs[i * 3 + j]? = ((cs.toList.drop (i * 3)).take 3)[j]? := by
   rw [List.getElem?_take_of_lt hj3, List.getElem?_drop]
   simp
  rw [hcell, hcs]
  match j, hj3, hj with
  | 0, _, hj => exact hj
  | 1, _, hj => exact hj
  | 2, _, hj => exact hj
end
end
end Go.Proofs.YtlgnjehfojogmaaDoor

namespace Go.Proofs.YtlgnjehfojogmaaDoor.lawScriptReads
open Go.ChangeShapes Go.WideShapes Go.ChangeAt Go.RowKit
open Go.ChangeMaps (open_string shut_string)
set_option linter.unusedVariables false
set_option linter.unusedSimpArgs false

theorem pre_of {W : World} (h : laidMetH Tryd.prog Rows.scriptReadsRow.laid W) (hs : W.ShapedOpen Tryd.prog) : preS W := by
 rw [MakeChecks.laidMetH_plain _ _ _ (by kernel_rfl)] at h
 exact ⟨preF_of h.tail, cell_of_shapedOpen_int (t := 3) (zero := #[.int .i64 0]) (k := .i64) hs (of_decide_eq_true (by kernel_rfl)) (by kernel_rfl) rfl (by kernel_rfl) (by kernel_rfl) Tryd.underlying3⟩
theorem handed_shaped {H : Type} {enc : TypeId × Value → H} {a : Assume} {C : Checked} {os : Os} {f : FuncId} {fn : Func} {s : ChangeSpec} {conds : List PathCond} {apart fresh handsOn again : Bool} {X : World → Array Value → Prop}
  (hX : ∀ (w w' : World) (args : Array Value), w.heap = w'.heap → X w args → X w' args)
  (own : ownKnob C.prog.godebug = none) (started : os.Started) (noInit : C.prog.inits.idxOf? f = none) (hfn : C.prog.funcs[f]? = some fn)
  (witness : ∃ (w : World) (tape : Tape) (i : Input), w.os = os ∧ (w.forCall tape i).Shaped C.prog ∧ i.vars = [] ∧ Input.okWide C.prog (w.forCall tape i) .any w.heap.size f i ∧
   ((s.pre enc C.prog fn conds apart (w.forCall tape i).memory i.args ∧ X (w.forCall tape i).memory i.args) ∧ sizedMet enc C.prog fn (OpenSpec.ofChange s) apart (w.forCall tape i).memory i.args) ∧ a.holds C.prog (lone (Frame.enter C.prog f i.args .normal) [] (w.forCall tape i)))
  (contract : ∀ (W : World) (base : Nat) (args : Array Value) (ds gs : List (DataW H)) (before : List MemPlace),
   (∀ (j : Nat) t v, fn.params[j]? = some t → args[j]? = some v → Value.okWide C.prog W .any base t v) →
   DataW.Whole enc C.prog fn.params.toList s.vars apart W args.toList ds gs before →
   (DataW.weightsEach C.prog (fn.params.toList ++ s.plain.varTypes C.prog) (ds ++ gs)).all (· ≤ reachBytes) = true → X W args → W.ShapedOpen C.prog →
   Calls C.prog f args W fun e W' => ∃ v, e = .returned v ∧ s.post enc C.prog fn apart fresh handsOn again W args v W') :
  ReturnsInHanded a C os f .any (fun w args => (s.pre enc C.prog fn conds apart w args ∧ X w args) ∧ sizedMet enc C.prog fn (OpenSpec.ofChange s) apart w args) (s.post enc C.prog fn apart fresh handsOn again) := by
 refine returnsInHanded_of_calls own started noInit witness fun w tape i _ hsh _ hok hpre _ => ?_
 obtain ⟨_, _, _, fn', hfn', _, _, _, _, hval⟩ := hok
 obtain rfl : fn' = fn := Option.some.inj (hfn'.symm.trans hfn)
 obtain ⟨⟨⟨ds, gs, before, hw, hc⟩, hx⟩, hz⟩ := hpre
 refine (contract (w.forCall tape i) w.heap.size i.args ds gs before hval (DataW.Whole.of_heap (w' := w.forCall tape i) (by rfl) hw) (hz.weights hw) (hX _ _ _ (by rfl) hx) hsh).mono fun e W' ⟨v, he, hp⟩ => ?_
 subst he
 exact ChangeSpec.post_blind hp

set_option maxRecDepth 100000 in
theorem lifted (os : Os) (started : os.Started) (H : Type) (enc : TypeId × Value → H) :
  ReturnsInHanded {} Tryd.checked os 4 .any (fun w args => (Rows.scriptReadsSpec.pre enc Tryd.prog Tryd.f4 [] false w args ∧ laidMetH Tryd.prog Rows.scriptReadsRow.laid w) ∧ sizedMet enc Tryd.prog Tryd.f4 (OpenSpec.ofChange Rows.scriptReadsSpec) false w args)
   (Rows.scriptReadsSpec.post enc Tryd.prog Tryd.f4 false true false false) := by
 refine handed_shaped (C := Tryd.checked) (X := fun w _ => laidMetH Tryd.prog Rows.scriptReadsRow.laid w) (fun _ _ _ hh h => h.of_heap hh) own started (by kernel_rfl) Tryd.func4
  (ChangeSpec.witness_shaped (enc := enc) (C := Tryd.checked) (os := os) (X := fun w _ => laidMetH Tryd.prog Rows.scriptReadsRow.laid w) false (World.laidAll Tryd.prog os Rows.scriptReadsRow.laid) #[.string ⟨#[]⟩] 8 (World.laidAll_os _ _ _) (World.shaped_of_ZipB (by kernel_rfl) (by kernel_rfl)) (by kernel_rfl) (by kernel_rfl) (by kernel_rfl)
   (by rw [MakeChecks.laidMetH_plain _ _ _ (by kernel_rfl)]; exact laidMet_laidAll _ (by kernel_rfl) (by kernel_rfl))) ?_
 intro W base args ds gs before hval0 hW hsz0 hL hsh
 have hval : ∀ (j : Nat) t v, Tryd.f4.params[j]? = some t → args[j]? = some v → Value.okWide Tryd.prog W .any base t v := hval0
 have hW' := hW
 obtain ⟨p, q, hA0, hV, rfl, hfz, hnd⟩ := hW
 have hA : DataW.TrodAll enc Tryd.prog W 0 (fun _ => true) true Tryd.f4.params.toList args.toList ds p := hA0
 have hsz : (DataW.weightsEach Tryd.prog (Tryd.f4.params.toList ++ Rows.scriptReadsSpec.plain.varTypes Tryd.prog) (ds ++ gs)).all (· ≤ reachBytes) = true := hsz0
 rw [Tryd.params4] at hA hval hsz
 obtain ⟨v0, vs0, d0, ds0, p0, q0, hargs, rfl, rfl, h0, r0⟩ := trodAll_cons hA
 obtain ⟨rfl, rfl, rfl⟩ := trodAll_nil r0
 obtain rfl : args = #[v0] := by cases args; simp_all
 obtain ⟨rfl, rfl⟩ := trodVars_none hV
 have k0 := h0
 have lt0 : ∀ x ∈ p0, x.block < W.heap.size := by obtain ⟨m, hm⟩ := k0; exact DataW.trod_lt m _ _ _ hm
 obtain ⟨s0, rfl, _, _, hs0⟩ := open_string Tryd.underlying9 (hval 0 9 v0 rfl rfl) h0
 refine (law_ScriptReads s0 W (pre_of hL hsh) ).mono fun e W' ⟨he, bel⟩ => ?_
 subst he
 exact ⟨_, rfl, _, _, _, [], _, [], hW', trodAll_mk1 (shut_bool Tryd.underlying4 _), (trodAll_cons_mk (Below.trod laidOut (by kernel_rfl) (of_decide_eq_true (by kernel_rfl)) k0 bel lt0) trodAll_mk0), rfl, bel.frame _, fun h => by cases h⟩

theorem over : Rows.ScriptReadsSaid :=
 OpenClaim.holds_of_wide 4 Tryd.f4 rfl rfl rfl rfl rfl rfl rfl ⟨rfl, rfl, rfl, rfl, rfl⟩ rfl rfl rfl rfl rfl (by kernel_rfl) Tryd.func4 (by kernel_rfl)
  (of_decide_eq_true (by kernel_rfl)) (by unfold Func.isWrapper; first | (rw [if_pos (by decide +kernel)]; kernel_rfl) | (rw [if_neg (by decide +kernel)]; exact ⟨rfl, rfl⟩))
  (fun os started H enc _ => lifted os started H enc)

theorem proved : Rows.ScriptReadsCardSaid :=
 Claim7.holds_tied_plain_at .later [] [.data, .data, .pinned] true (true, "53e349b03b6a4f18c5637e9df8ce0595ab71937388c9f514d461006bb41e4dad") true
  over (fun _ h => by cases h) (by kernel_rfl) (fun _ h => by cases h) scriptReads_row_tie rfl ⟨rfl, rfl⟩ (by kernel_rfl) rfl
  (fun f fn hf hfn => by
   obtain rfl : f = 4 := Option.some.inj ((show Tryd.prog.funcNamed "tropica/tropicalaw.ScriptReads" = some 4 by kernel_rfl).symm.trans hf) |>.symm
   obtain rfl : fn = Tryd.f4 := (Option.some.inj (Tryd.func4.symm.trans hfn)).symm
   exact ⟨by kernel_rfl, fun j t ht => by
    rw [Tryd.params4] at ht
    have h3 : t = 9 := by
     rcases j with _ | j
     ·exact by simpa using ht.symm
     ·simp at ht
    rcases h3 with rfl <;> first | exact (show Tryd.prog.wantsStandIn 9 = false by kernel_rfl)⟩)
  (by kernel_rfl)
end Go.Proofs.YtlgnjehfojogmaaDoor.lawScriptReads
