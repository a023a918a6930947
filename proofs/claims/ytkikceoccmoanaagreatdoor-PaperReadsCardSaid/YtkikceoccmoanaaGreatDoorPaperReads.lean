/- The law PaperReads, for every input: the call returns true and what its argument reads as is as it was; the library's variables are tied to the program's text. -/
import Derived.Test.YtkikceoccmoanaaGreatDoorPkPa1
import Derived.Test.YtkikceoccmoanaaGreatDoorPkPa2
import Derived.Test.YtkikceoccmoanaaGreatDoorPkPa3
import Derived.Test.YtkikceoccmoanaaGreatDoorPkPa4
import Derived.Test.YtkikceoccmoanaaGreatDoorPkPa5
import Derived.Test.YtkikceoccmoanaaGreatDoorPkPa6
import Derived.Test.YtkikceoccmoanaaGreatDoorPkPa7
import Derived.Test.YtkikceoccmoanaaGreatDoorPkPa8
import Derived.Test.YtkikceoccmoanaaGreatDoorPkPa9
import Derived.Test.YtkikceoccmoanaaGreatDoorPkPa10
import Derived.Test.YtkikceoccmoanaaGreatDoorPkPa11
import Derived.Test.YtkikceoccmoanaaGreatDoorPkPa12
import Derived.Test.YtkikceoccmoanaaGreatDoorCards
import Derived.Test.YtkikceoccmoanaaGreatDoorTie
import Derived.ProofKit
import Derived.LaidMore
import Derived.OpenShut
import Derived.Lay
import Derived.Shelf.Vars
import Derived.Stop.LaidErr
import Derived.Stop.Joined
import Derived.SevenTiedAt
namespace Go.Proofs.YtkikceoccmoanaaGreatDoor
section
open Go.RowKit
set_option linter.unusedSimpArgs false
set_option linter.unusedVariables false
theorem FnP.wkS {Pre : World → Prop} {P : Program} {f : FuncId} {args : List V} {post post' : V → Prop} (h : FnP Pre P f args post) (hp : ∀ v, post v → v.pure → ∃ v', post' v' ∧ v'.pure ∧ ∀ w q g x, VRep w q g v x → VRep w q g v' x) : FnP Pre P f args post' := fun w out g xs h0 h1 h2 =>
 (h w out g xs h0 h1 h2).mono fun e w' ⟨v, x, h3, h4, h5, h6, h7⟩ => by
  obtain ⟨v', k1, k2, k3⟩ := hp v h4 h5
  exact ⟨v', x, h3, k1, k2, k3 _ _ _ _ h6, h7⟩
/-- What a reader of machines answers. -/
noncomputable def papZ (t : List UInt8) : Mach := if rrEp t = 0 then rrMp t else ⟨0, []⟩
theorem papZ_wk {t : List UInt8} {e : Int} {M : Mach} (he : e = rrEp t) (hM : e = 0 → M = rrMp t) (v : V) (h : resP e M v) (hv : v.pure) : ∃ v', v' = .tup [mV (papZ t), .i (rrEp t)] ∧ v'.pure ∧ ∀ w q g x, VRep w q g v x → VRep w q g v' x := by
 subst he
 refine resP_wk (M := papZ t) (fun h0 => by unfold papZ; rw [if_neg h0]) v ?_ hv
 rcases h with ⟨h0, h1⟩ | ⟨h0, h1⟩
 ·exact .inl ⟨h0, h1⟩
 ·exact .inr ⟨h0, by rw [h1, hM h0]; unfold papZ; rw [if_pos h0]⟩
theorem am_pRd (t : List UInt8) : FnP preN Tryz.prog 4 [.s (bs t)] (fun v => v = .tup [mV (papZ t), .i (rrEp t)]) := (am_pRead t).wkS (papZ_wk (rd_rrp t).1 fun h => (rd_rrp t).2 ((rd_rrp t).1.symm.trans h))
theorem am_pRdR (t : List UInt8) : Fn Tryz.prog 5 [.s (bs t)] (fun v => v = .tup [mV (papZ t), .i (rrEp t)]) := (am_RPRead t).wkS (papZ_wk rfl fun _ => rfl)
set_option maxRecDepth 100000 in
theorem am_PaperReads (t : List UInt8) : FnP preN Tryz.prog 3 [.s (bs t)] (fun v => v = .b true) := by
 obtain ⟨e, he⟩ : ∃ e, rrEp t = e := ⟨_, rfl⟩
 have h1 := am_pRd t
 have h2 := am_pRdR t
 obtain ⟨⟨st, sts⟩, hr⟩ : ∃ r, papZ t = r := ⟨_, rfl⟩
 rw [hr, he] at h1 h2
 clear hr he
 refine FnP.intro (n := 25) ⟨Tryz.func3, rfl, rfl, rfl, rfl⟩ (by simp [V.pure, V.has, V.hasL]) (by simp) fun w0 out hpre => ?_
 refine AW.seq ?_
 refine AW.region ?_
 refine AL.rp rfl rfl (rp_assign rfl rfl) ?_
 refine AL.nil ?_
 try simp only [thenS, S.put, enum, List.nil_append, List.cons_append, List.append_nil, Nat.zero_add, Nat.reduceAdd]
 refine AW.seq ?_
 refine AW.region ?_
 refine AL.rp rfl rfl (rp_move rfl rfl) ?_
 refine AL.call (post := ?pc0) rfl (sm_callP (args := [_]) (preN_kept) (by assumption) ?hc0 ⟨Tryz.func4, rfl, rfl, rfl, rfl⟩ rfl rfl rfl rfl) ?_
 case hc0 => exact h1
 rintro _ rfl -
 try dsimp only
 refine AL.rp rfl rfl (rp_move rfl rfl) ?_
 refine AL.rp rfl rfl (rp_extract rfl rfl rfl) ?_
 refine AL.rp rfl rfl (rp_extract rfl rfl rfl) ?_
 refine AL.sm rfl (sm_alloc (l := [.d (.p (.int .i64 0)), .d (.p (.slice none 0 0))]) 3 inf24 rfl (by first | rfl | simp [S.clean, S.put, S.newObj, S.forget, V.has, V.hasL, junkIf, setL, V.cs, hasL_i, hasL_d, hasL_b, hasL_s, hasL_n, hasL_rep, hasL_flat, hasL_append, -List.map_set]) rfl rfl) ?_
 refine AL.st rfl (st_store_any inf24 rfl rfl rfl rfl rfl rfl rfl rfl (by first | decide | (simp; done) | (simp; omega)) rfl) ?_
 refine AL.rp rfl rfl (rp_assign rfl rfl) ?_
 refine AL.nil ?_
 try simp only [thenS, S.put, S.newObj, setL, V.cs, List.length_cons, List.length_nil, List.take_succ_cons, List.take_zero, List.drop_succ_cons, List.drop_zero, List.drop_nil, List.nil_append, List.cons_append, List.append_nil, Nat.zero_add, Nat.reduceAdd, List.map_cons, List.map_nil, List.set_cons_zero, List.set_cons_succ]
 refine AW.seq ?_
 refine AW.region ?_
 refine AL.rp rfl rfl (rp_move rfl rfl) ?_
 refine AL.call (post := ?pc1) rfl (sm_call (args := [_]) ?hc1 ⟨Tryz.func5, rfl, rfl, rfl, rfl⟩ rfl rfl rfl rfl) ?_
 case hc1 => exact h2
 rintro _ rfl -
 try dsimp only
 refine AL.rp rfl rfl (rp_move rfl rfl) ?_
 refine AL.rp rfl rfl (rp_extract rfl rfl rfl) ?_
 refine AL.rp rfl rfl (rp_extract rfl rfl rfl) ?_
 refine AL.sm rfl (sm_alloc (l := [.d (.p (.int .i64 0)), .d (.p (.slice none 0 0))]) 5 inf24 rfl (by first | rfl | simp [S.clean, S.put, S.newObj, S.forget, V.has, V.hasL, junkIf, setL, V.cs, hasL_i, hasL_d, hasL_b, hasL_s, hasL_n, hasL_rep, hasL_flat, hasL_append, -List.map_set]) rfl rfl) ?_
 refine AL.st rfl (st_store_any inf24 rfl rfl rfl rfl rfl rfl rfl rfl (by first | decide | (simp; done) | (simp; omega)) rfl) ?_
 refine AL.rp rfl rfl (rp_assign rfl rfl) ?_
 refine AL.nil ?_
 try simp only [thenS, S.put, S.newObj, setL, V.cs, List.length_cons, List.length_nil, List.take_succ_cons, List.take_zero, List.drop_succ_cons, List.drop_zero, List.drop_nil, List.nil_append, List.cons_append, List.append_nil, Nat.zero_add, Nat.reduceAdd, List.map_cons, List.map_nil, List.set_cons_zero, List.set_cons_succ]
 refine AW.seq ?_
 refine AW.region ?_
 refine AL.rp rfl rfl (rp_move rfl rfl) ?_
 refine AL.rp rfl rfl (rp_move rfl rfl) ?_
 (first | (refine AL.rp rfl rfl (rp_eqlT rfl rfl rfl (by first | assumption | omega | (dsimp only; omega))) ?_) | (refine AL.rp rfl rfl (rp_eqlF rfl rfl rfl (by first | assumption | omega | (dsimp only; omega))) ?_) | (refine AL.rp rfl rfl (rp_eql rfl rfl rfl) ?_))
 refine AL.rp rfl rfl (rp_move rfl rfl) ?_
 (first | (refine AL.no rfl rfl rfl rfl ?_) | (refine AL.rdy rfl rfl rfl (rd_loads_ref Tryz.underlying24 rfl inf24 rfl rfl rfl rfl rfl rfl) ?_) | (refine AL.rdy rfl rfl rfl (rd_loads_ad Tryz.underlying24 rfl inf24 rfl rfl rfl rfl) ?_))
 (first | (refine AL.no rfl rfl rfl rfl ?_) | (refine AL.rdy rfl rfl rfl (rd_loads_ref Tryz.underlying24 rfl inf24 rfl rfl rfl rfl rfl rfl) ?_) | (refine AL.rdy rfl rfl rfl (rd_loads_ad Tryz.underlying24 rfl inf24 rfl rfl rfl rfl) ?_))
 (first | (refine AL.no rfl rfl rfl rfl ?_) | (refine AL.cally (post := ?pc2) rfl rfl (sm_call (args := [_, _]) ?hc2 ⟨Tryz.func6, rfl, rfl, rfl, rfl⟩ rfl rfl rfl rfl) ?_; (case hc2 => (exact am_sameMachine ⟨st, sts⟩)); rintro _ rfl -; try dsimp only))
 refine AL.rp rfl rfl (rp_pick rfl rfl rfl) ?_
 refine AL.rp rfl rfl (rp_assign rfl rfl) ?_
 refine AL.nil ?_
 try simp only [thenS, S.put, S.newObj, setL, V.cs, List.length_cons, List.length_nil, List.take_succ_cons, List.take_zero, List.drop_succ_cons, List.drop_zero, List.drop_nil, List.nil_append, List.cons_append, List.append_nil, Nat.zero_add, Nat.reduceAdd, List.map_cons, List.map_nil, List.set_cons_zero, List.set_cons_succ]
 refine AW.ret ?_
 exact ⟨[_], ⟨rfl, trivial⟩, rfl, by simp [tupOf, V.pure, V.has]⟩
theorem law_PaperReads (s : ByteArray) (w : World) (htab : preN w) : Calls Tryz.prog 3 #[.string s] w fun e w' => e = .returned (.bool true) ∧ Below w.heap.size w w' := by
 have h := am_PaperReads s.data.toList
 rw [bs_of] at h
 refine (h w (fun _ => False) (fun _ => (0, 0)) [.string s] htab (fun _ h => h.elim) (reps_cons (.d _ _ (.p _)) reps_nil)).mono fun e w' ⟨u, y, h1, h2, _, h4, h5⟩ => ?_
 subst h2
 rw [h1, VRep.p_eq h4]
 exact ⟨rfl, h5⟩
end
end Go.Proofs.YtkikceoccmoanaaGreatDoor

namespace Go.Proofs.YtkikceoccmoanaaGreatDoor.lawPaperReads
open Go.ChangeShapes Go.WideShapes Go.ChangeAt Go.RowKit
open Go.ChangeMaps (open_string shut_string)
set_option linter.unusedVariables false
set_option linter.unusedSimpArgs false

theorem star : "*" ++ "errors.errorString" = "*errors.errorString" := by decide
theorem row_err (u : TypeId) (h : Tryz.prog.typeName? 3 u = some "*errors.errorString") : u = 136 :=
 typeName_ptr_named (nm := "errors.errorString") (by rw [star]; kernel_rfl) (by kernel_rfl) (by decide) u (by rw [star]; exact h)
theorem pre_of {W : World} (h : laidMetH Tryz.prog Rows.paperReadsRow.laid W) (hs : W.ShapedOpen Tryz.prog) : preN W := by
 rw [MakeChecks.laidMetH_plain _ _ _ (by kernel_rfl)] at h
 have h2 : laidMet Tryz.prog (("internal/strconv.uint64pow10", Rows.laid_internal_strconv_uint64pow10) :: ("unicode/utf8.acceptRanges", Rows.laid_unicode_utf8_acceptRanges) :: ("strconv.ErrRange", Rows.laid_strconv_ErrRange) :: ("strconv.ErrSyntax", Rows.laid_strconv_ErrSyntax) :: ("unicode/utf8.first", Rows.laid_unicode_utf8_first) :: []) W := h.tail.tail
 obtain ⟨a1, s1, hv1, _, _, _⟩ := laid_sentinel h2.tail.tail (show Tryz.prog.globalNamed "strconv.ErrRange" = some 2 by kernel_rfl) (show (Tryz.prog.globals[2]?).map (·.type) = some 72 by kernel_rfl) Tryz.underlying72 row_err Tryz.underlying136 Tryz.underlying138 rfl rfl Tryz.underlying9 (by kernel_rfl) (by kernel_rfl)
 obtain ⟨a2, s2, hv2, _, _, _⟩ := laid_sentinel h2.tail.tail.tail (show Tryz.prog.globalNamed "strconv.ErrSyntax" = some 1 by kernel_rfl) (show (Tryz.prog.globals[1]?).map (·.type) = some 72 by kernel_rfl) Tryz.underlying72 row_err Tryz.underlying136 Tryz.underlying138 rfl rfl Tryz.underlying9 (by kernel_rfl) (by kernel_rfl)
 refine ⟨?_, ?_, ⟨_, _, hv2⟩, ⟨_, _, hv1⟩⟩
 ·exact Lib.tabIs_of_head (show Tryz.prog.globalNamed "internal/strconv.uint64pow10" = some 3 by kernel_rfl) (show (Tryz.prog.globals[3]?).map (·.type) = some 124 by kernel_rfl) Tryz.underlying124 Tryz.underlying107 (by kernel_rfl) (by kernel_rfl) h2
 ·exact cell_of_shapedOpen_int (t := 3) (zero := #[.int .i64 0]) (k := .i64) hs (of_decide_eq_true (by kernel_rfl)) (by kernel_rfl) rfl (by kernel_rfl) (by kernel_rfl) Tryz.underlying3
theorem handed_shaped {H : Type} {enc : TypeId × Value → H} {a : Assume} {C : Checked} {os : Os} {f : FuncId} {fn : Func} {s : ChangeSpec} {conds : List PathCond} {apart fresh handsOn again : Bool} {X : World → Array Value → Prop}
  (hX : ∀ (w w' : World) (args : Array Value), w.heap = w'.heap → X w args → X w' args)
  (own : ownKnob C.prog.godebug = none) (started : os.Started) (noInit : C.prog.inits.idxOf? f = none) (hfn : C.prog.funcs[f]? = some fn)
  (witness : ∃ (w : World) (tape : Tape) (i : Input), w.os = os ∧ (w.forCall tape i).Shaped C.prog ∧ i.vars = [] ∧ Input.okWide C.prog (w.forCall tape i) .any w.heap.size f i ∧
   ((s.pre enc C.prog fn conds apart (w.forCall tape i).memory i.args ∧ X (w.forCall tape i).memory i.args) ∧ sizedMet enc C.prog fn (OpenSpec.ofChange s) apart (w.forCall tape i).memory i.args) ∧ a.holds C.prog (lone (Frame.enter C.prog f i.args .normal) [] (w.forCall tape i)))
  (contract : ∀ (W : World) (base : Nat) (args : Array Value) (ds gs : List (DataW H)) (before : List MemPlace),
   (∀ (j : Nat) t v, fn.params[j]? = some t → args[j]? = some v → Value.okWide C.prog W .any base t v) →
   DataW.Whole enc C.prog fn.params.toList s.vars apart W args.toList ds gs before →
   (DataW.weightsEach C.prog (fn.params.toList ++ s.plain.varTypes C.prog) (ds ++ gs)).all (· ≤ reachBytes) = true → X W args → W.ShapedOpen C.prog →
   Calls C.prog f args W fun e W' => ∃ v, e = .returned v ∧ s.post enc C.prog fn apart fresh handsOn again W args v W') :
  ReturnsInHanded a C os f .any (fun w args => (s.pre enc C.prog fn conds apart w args ∧ X w args) ∧ sizedMet enc C.prog fn (OpenSpec.ofChange s) apart w args) (s.post enc C.prog fn apart fresh handsOn again) := by
 refine returnsInHanded_of_calls own started noInit witness fun w tape i _ hsh _ hok hpre _ => ?_
 obtain ⟨_, _, _, fn', hfn', _, _, _, _, hval⟩ := hok
 obtain rfl : fn' = fn := Option.some.inj (hfn'.symm.trans hfn)
 obtain ⟨⟨⟨ds, gs, before, hw, hc⟩, hx⟩, hz⟩ := hpre
 refine (contract (w.forCall tape i) w.heap.size i.args ds gs before hval (DataW.Whole.of_heap (w' := w.forCall tape i) (by rfl) hw) (hz.weights hw) (hX _ _ _ (by rfl) hx) hsh).mono fun e W' ⟨v, he, hp⟩ => ?_
 subst he
 exact ChangeSpec.post_blind hp

set_option maxRecDepth 100000 in
theorem lifted (os : Os) (started : os.Started) (H : Type) (enc : TypeId × Value → H) :
  ReturnsInHanded {} Tryz.checked os 3 .any (fun w args => (Rows.paperReadsSpec.pre enc Tryz.prog Tryz.f3 [] false w args ∧ laidMetH Tryz.prog Rows.paperReadsRow.laid w) ∧ sizedMet enc Tryz.prog Tryz.f3 (OpenSpec.ofChange Rows.paperReadsSpec) false w args)
   (Rows.paperReadsSpec.post enc Tryz.prog Tryz.f3 false true false false) := by
 refine handed_shaped (C := Tryz.checked) (X := fun w _ => laidMetH Tryz.prog Rows.paperReadsRow.laid w) (fun _ _ _ hh h => h.of_heap hh) own started (by kernel_rfl) Tryz.func3
  (ChangeSpec.witness_shaped (enc := enc) (C := Tryz.checked) (os := os) (X := fun w _ => laidMetH Tryz.prog Rows.paperReadsRow.laid w) false (World.laidAll Tryz.prog os Rows.paperReadsRow.laid) #[.string ⟨#[]⟩] 8 (World.laidAll_os _ _ _) (World.shaped_of_ZipB (by kernel_rfl) (by kernel_rfl)) (by kernel_rfl) (by kernel_rfl) (by kernel_rfl)
   (by rw [MakeChecks.laidMetH_plain _ _ _ (by kernel_rfl)]; exact laidMet_laidAll _ (by kernel_rfl) (by kernel_rfl))) ?_
 intro W base args ds gs before hval0 hW hsz0 hL hsh
 have hval : ∀ (j : Nat) t v, Tryz.f3.params[j]? = some t → args[j]? = some v → Value.okWide Tryz.prog W .any base t v := hval0
 have hW' := hW
 obtain ⟨p, q, hA0, hV, rfl, hfz, hnd⟩ := hW
 have hA : DataW.TrodAll enc Tryz.prog W 0 (fun _ => true) true Tryz.f3.params.toList args.toList ds p := hA0
 have hsz : (DataW.weightsEach Tryz.prog (Tryz.f3.params.toList ++ Rows.paperReadsSpec.plain.varTypes Tryz.prog) (ds ++ gs)).all (· ≤ reachBytes) = true := hsz0
 rw [Tryz.params3] at hA hval hsz
 obtain ⟨v0, vs0, d0, ds0, p0, q0, hargs, rfl, rfl, h0, r0⟩ := trodAll_cons hA
 obtain ⟨rfl, rfl, rfl⟩ := trodAll_nil r0
 obtain rfl : args = #[v0] := by cases args; simp_all
 obtain ⟨rfl, rfl⟩ := trodVars_none hV
 have k0 := h0
 have lt0 : ∀ x ∈ p0, x.block < W.heap.size := by obtain ⟨m, hm⟩ := k0; exact DataW.trod_lt m _ _ _ hm
 obtain ⟨s0, rfl, _, _, hs0⟩ := open_string Tryz.underlying9 (hval 0 9 v0 rfl rfl) h0
 refine (law_PaperReads s0 W (pre_of hL hsh) ).mono fun e W' ⟨he, bel⟩ => ?_
 subst he
 exact ⟨_, rfl, _, _, _, [], _, [], hW', trodAll_mk1 (shut_bool Tryz.underlying4 _), (trodAll_cons_mk (Below.trod laidOut (by kernel_rfl) (of_decide_eq_true (by kernel_rfl)) k0 bel lt0) trodAll_mk0), rfl, bel.frame _, fun h => by cases h⟩

theorem over : Rows.PaperReadsSaid :=
 OpenClaim.holds_of_wide 3 Tryz.f3 rfl rfl rfl rfl rfl rfl rfl ⟨rfl, rfl, rfl, rfl, rfl⟩ rfl rfl rfl rfl rfl (by kernel_rfl) Tryz.func3 (by kernel_rfl)
  (of_decide_eq_true (by kernel_rfl)) (by unfold Func.isWrapper; first | (rw [if_pos (by decide +kernel)]; kernel_rfl) | (rw [if_neg (by decide +kernel)]; exact ⟨rfl, rfl⟩))
  (fun os started H enc _ => lifted os started H enc)

theorem proved : Rows.PaperReadsCardSaid :=
 Claim7.holds_tied_plain_at .later [] [.data, .data, .data, .data, .sentinel, .sentinel, .pinned] true (true, "2b20c9a57a52df6f2b0503d9fea963498733be6d56d39383d762eedab3fb6af4") true
  over (fun _ h => by cases h) (by kernel_rfl) (fun _ h => by cases h) paperReads_row_tie rfl ⟨rfl, rfl⟩ (by kernel_rfl) rfl
  (fun f fn hf hfn => by
   obtain rfl : f = 3 := Option.some.inj ((show Tryz.prog.funcNamed "tropica/tropicalaw.PaperReads" = some 3 by kernel_rfl).symm.trans hf) |>.symm
   obtain rfl : fn = Tryz.f3 := (Option.some.inj (Tryz.func3.symm.trans hfn)).symm
   exact ⟨by kernel_rfl, fun j t ht => by
    rw [Tryz.params3] at ht
    have h3 : t = 9 := by
     rcases j with _ | j
     ·exact by simpa using ht.symm
     ·simp at ht
    rcases h3 with rfl <;> first | exact (show Tryz.prog.wantsStandIn 9 = false by kernel_rfl)⟩)
  (by kernel_rfl)
end Go.Proofs.YtkikceoccmoanaaGreatDoor.lawPaperReads
