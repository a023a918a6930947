/- SqA: several texts in one. -/
import Derived.Test.YtbffolmgkkknpaaDoorAmK
import Derived.Test.YtbffolmgkkknpaaDoorAmChr
import Derived.Laws.RangeString
import Derived.Test.YtbffolmgkkknpaaDoorAmByt
import Derived.Laws.Runes
import Derived.Test.YtbffolmgkkknpaaDoorAmHp
import Derived.Test.YtbffolmgkkknpaaDoorAmT
import Derived.Test.YtbffolmgkkknpaaDoorAmMp2
import Derived.Laws.RangeAny
import Derived.LoopTactic
import Derived.Test.YtbffolmgkkknpaaDoorAmFault
import Derived.Shelf.Strings.SlTrimAscii
import Derived.RowKit
import Derived.Test.YtbffolmgkkknpaaDoorProg
import Derived.Test.YtbffolmgkkknpaaDoorAmPre
import Derived.Test.YtbffolmgkkknpaaDoorAmB
import Derived.Test.YtbffolmgkkknpaaDoorAmM
namespace Go.Proofs.YtbffolmgkkknpaaDoor
open Go.RowKit
set_option linter.unusedSimpArgs false
set_option linter.unusedVariables false

/-- The iterator r now stands at pos; of other iterators and of maps nothing is said. -/
def upI (r pos : Nat) : V → V
  | .it k N s p => if k = r then .it k N s pos else .junk
  | v => if v.mps then .junk else v
section
variable {c : Cx} {s : S} {o : Oper} {g : Nat → Nat × Nat} {a : Act} {w : World} {Q : Exit → S → Prop}

theorem Sim.upIt (hs : Sim c g s a w) {r pos pos' : Nat} {str : ByteArray} (hb : w.heap[(g r).1]? = some (.stringIter str pos)) (hN : c.w0.heap.size ≤ (g r).1) (hH : ∀ k row, fnd s.H k = some row → V.mpsL row.cells = false) (hK : V.mpsL s.K = false) (hT : ∀ i N str' p', fnd s.T i = some (.it r N str' p') → str' = str) :
    Sim c g ⟨s.n, s.T.map (fun x => (x.1, upI r pos' x.2)), s.H, s.K⟩ a { w with heap := w.heap.setIfInBounds (g r).1 (.stringIter str pos') } := by
  have hlt : (g r).1 < w.heap.size := (Array.getElem?_eq_some_iff.1 hb).1
  obtain ⟨w', hw'⟩ : ∃ w', w' = { w with heap := w.heap.setIfInBounds (g r).1 (.stringIter str pos') } := ⟨_, rfl⟩
  have hsz : w'.heap.size = w.heap.size := by rw [hw']; simp
  have hoth : ∀ b, b ≠ (g r).1 → w'.heap[b]? = w.heap[b]? := fun b hne => by rw [hw']; simp [Array.getElem?_setIfInBounds_ne (Ne.symm hne)]
  have hnew : w'.heap[(g r).1]? = some (.stringIter str pos') := by rw [hw']; simp [hlt]
  have hc : ∀ (b o : Nat) (u : Value), w.cell? ⟨b, o, none⟩ = some u → w'.cell? ⟨b, o, none⟩ = some u := by
    intro b o u h
    by_cases e : b = (g r).1
    · subst e
      simp [World.cell?, hb] at h
    · exact (World.cell?_of_block (w := w) (a := ⟨b, o, none⟩) (hoth b e)).trans h
  have hm : ∀ {v x}, v.mps = false → VRep w (qt c s.H g) g v x → VRep w' (qt c s.H g) g v x := fun hv h => h.nomap (by omega) hc hv
  rw [← hw']
  refine ⟨hs.size, hs.defers, ?_, hs.nul, ?_, ?_, hs.inj, hs.base, hs.low, ?_⟩
  · intro i v hv
    simp only at hv
    rw [fnd_map] at hv
    cases hu : fnd s.T i with
    | none => rw [hu] at hv; cases hv
    | some u =>
      rw [hu] at hv
      simp only [Option.map_some, Option.some.injEq] at hv
      obtain ⟨x, h1, h2⟩ := hs.tmp i u hu
      refine ⟨x, h1, ?_⟩
      subst hv
      have hgen : ∀ u : V, VRep w (qt c s.H g) g u x → VRep w' (qt c s.H g) g (if u.mps then .junk else u) x := by
        intro u h2
        split
        · exact .junk _
        · rename_i hne; exact hm (by simpa using hne) h2
      cases u with
      | it k N s0 p0 =>
        simp only [upI]
        split
        · rename_i e
          subst e
          obtain rfl := hT i N s0 p0 hu
          cases h2 with
          | it _ _ _ _ h3 h4 => exact .it _ _ _ _ h3 hnew
        · exact .junk _
      | d _ => exact hgen _ h2
      | ad _ => exact hgen _ h2
      | ref _ _ => exact hgen _ h2
      | own _ _ _ _ => exact hgen _ h2
      | que _ _ _ _ => exact hgen _ h2
      | agg _ => exact hgen _ h2
      | tup _ => exact hgen _ h2
      | fn _ _ => exact hgen _ h2
      | mp _ _ _ => exact hgen _ h2
      | mq _ _ _ => exact hgen _ h2
      | mp2 _ _ _ _ _ _ => exact hgen _ h2
      | ifc _ _ => exact hgen _ h2
      | junk => exact .junk _
  · intro k row hk hn
    obtain ⟨arr, h1, h2, h3⟩ := hs.obj k row hk hn
    refine ⟨arr, (hoth _ fun e => ?_).trans h1, h2, fun j v hv => ?_⟩
    · rw [e, hb] at h1; cases h1
    · obtain ⟨x, h4, h5⟩ := h3 j v hv
      exact ⟨x, h4, hm (V.mpsL_false.1 (hH k row hk) v (List.mem_of_getElem? hv)) h5⟩
  · intro j v x h1 h2
    exact hm (V.mpsL_false.1 hK v (List.mem_of_getElem? h1)) (hs.keep j v x h1 h2)
  · refine hs.below.trans ⟨by rw [hw'], by rw [hw'], by rw [hw'], by omega, fun k hk => hoth k ?_⟩
    omega

theorem sm_range (r : Nat) {t : TypeId} {x : Operand} {str : ByteArray} (hu : c.P.underlying t = some .string) (ho : o.op = .range t x) (hx : s.ev x = some (.s str)) (hr : s.clean r = true) (hd : dok s o = true) : StepM c o s (fun s' => s' = s.put o.dst (.it r c.w0.heap.size str 0)) := by
  intro g a w hs K Q hK
  have hb : Below w.heap.size w (w.iter str 0) := (Below.refl _ _).alloc (Nat.le_refl _) _
  have h1 := (hs.move hb).regauge hr (w.heap.size, 0)
  have hxe := VRep.p_eq (hs.ev hx)
  unfold Oper.wp
  have hexec : (execOp a.eval o).run c.P w = .ok (.value (.pointer (some ⟨w.heap.size, 0, none⟩))) (w.iter str 0) := by
    simp only [execOp, ho, hxe, Sem.run_bind, run_range_string w t str hu, Result.andThen_ok]
    rfl
  rw [hexec]
  refine hK _ _ _ _ rfl (h1.put o.dst (dok_spec hd) ?_) hb
  have := VRep.it (w := w.iter str 0) (q := qt c s.H (fun k => if k = r then (w.heap.size, 0) else g k)) (g := fun k => if k = r then (w.heap.size, 0) else g k) r c.w0.heap.size str 0 (by simp; exact hs.below.size) (by simp only [if_true]; exact World.iter_heap w str 0)
  simpa using this
theorem run_next_at {P : Program} (w : World) (b : Nat) (s : ByteArray) (pos : Nat) (ty : TypeId) (hb : w.heap[b]? = some (.stringIter s pos)) (h : pos < s.size) (ha : (s[pos]'h).toNat < 128) :
    (Instr.next (.pointer (some ⟨b, 0, none⟩)) true ty).run P w = .ok (.tuple #[.bool true, .int .i64 pos, .int .i32 (s[pos]'h).toNat]) { w with heap := w.heap.setIfInBounds b (.stringIter s (pos + 1)) } := by
  simp only [Instr.next, getObj, setObj, Sem.run_bind, Sem.run, hb, Result.andThen, h, if_true, decode_ascii s pos h ha]
  simp [goInt, Sem.run, hb]
theorem run_next_atEnd {P : Program} (w : World) (b : Nat) (s : ByteArray) (pos : Nat) (ty : TypeId) (hb : w.heap[b]? = some (.stringIter s pos)) (h : ¬ pos < s.size) :
    (Instr.next (.pointer (some ⟨b, 0, none⟩)) true ty).run P w = .ok (.tuple #[.bool false]) w := by
  simp [Instr.next, getObj, Sem.run, hb, h]
theorem it_eval (hs : Sim c g s a w) {x : Operand} {r N pos : Nat} {str : ByteArray} (hx : s.ev x = some (.it r N str pos)) : a.eval x = .pointer (some ⟨(g r).1, 0, none⟩) ∧ N ≤ (g r).1 ∧ w.heap[(g r).1]? = some (.stringIter str pos) := by
  have h := hs.ev hx
  generalize a.eval x = u at h
  cases h with
  | it _ _ _ _ h1 h2 => exact ⟨rfl, h1, h2⟩
theorem st_next {x : Operand} {r N pos : Nat} {str : ByteArray} {b : UInt8} (ho : o.op = .next x true) (hx : s.ev x = some (.it r N str pos)) (hb : str.data.toList[pos]? = some b) (ha : b.toNat < 128) (hN : N = c.w0.heap.size) (hH : s.H.all (fun x => !V.mpsL x.2.cells) = true) (hK : V.mpsL s.K = false) (hT : s.T.all (fun x => match x.2 with | .it k _ s' _ => decide (k ≠ r) || decide (s' = str) | _ => true) = true) (hd : dok s o = true) :
    Step c o s (fun s' => s' = S.put ⟨s.n, s.T.map (fun x => (x.1, upI r (pos + 1) x.2)), s.H, s.K⟩ o.dst (.tup [.b true, .i (pos : Int), .d (.p (.int .i32 (b.toNat : Int)))])) := by
  subst hN
  intro g a w hs K Q hK'
  obtain ⟨hxe, hNb, hm⟩ := it_eval hs hx
  have hlen : str.data.toList.length = str.size := Array.length_toList
  have hlt : pos < str.size := by
    have := (List.getElem?_eq_some_iff.1 hb).1
    omega
  have hbe : (str[pos]'hlt) = b := by
    obtain ⟨_, he⟩ := List.getElem?_eq_some_iff.1 hb
    rw [← he]; rfl
  have hrun := run_next_at (P := c.P) w (g r).1 str pos o.type hm hlt (by rw [hbe]; exact ha)
  rw [hbe] at hrun
  unfold Oper.wp
  have hexec : (execOp a.eval o).run c.P w = .ok (.value (.tuple #[.bool true, .int .i64 pos, .int .i32 b.toNat])) { w with heap := w.heap.setIfInBounds (g r).1 (.stringIter str (pos + 1)) } := by
    simp only [execOp, ho, hxe, Sem.run_bind, hrun, Result.andThen_ok]
    rfl
  rw [hexec]
  have hsim := hs.upIt (pos' := pos + 1) hm hNb (fun k row hk => by
    have := List.all_eq_true.1 hH _ (fnd_mem hk)
    simpa using this) hK (fun i N' s' p' hi => by
    have := List.all_eq_true.1 hT _ (fnd_mem hi)
    simpa using this)
  refine hK' g _ _ _ rfl (hsim.put o.dst (dok_spec (s := s) hd) ?_)
  exact .tup _ [.bool true, .int .i64 pos, .int .i32 b.toNat] rfl fun j u y hu hy => by
    match j, hu, hy with
    | 0, hu, hy => simp at hu hy; subst hu hy; exact .d _ _ (.p _)
    | 1, hu, hy => simp at hu hy; subst hu hy; exact .d _ _ (.p _)
    | 2, hu, hy => simp at hu hy; subst hu hy; exact .d _ _ (.p _)
    | n + 3, hu, hy => simp at hu
theorem rd_nextEnd {x : Operand} {r N pos : Nat} {str : ByteArray} (ho : o.op = .next x true) (hx : s.ev x = some (.it r N str pos)) (hp : ¬ pos < str.size) : RD c o s (.tup [.b false]) := fun g a w hs => by
  obtain ⟨hxe, hNb, hm⟩ := it_eval hs hx
  refine ⟨.tuple #[.bool false], .tup _ [.bool false] rfl fun j u y hu hy => by
    match j, hu, hy with
    | 0, hu, hy => simp at hu hy; subst hu hy; exact .d _ _ (.p _)
    | n + 1, hu, hy => simp at hu, fun w' hb => ?_⟩
  have hrun := run_next_atEnd (P := c.P) w' (g r).1 str pos o.type ((hb.block _ (Array.getElem?_eq_some_iff.1 hm).1).trans hm) hp
  simp only [execOp, ho, hxe, Sem.run_bind, hrun, Result.andThen_ok]
  rfl
end
section
variable (r pos : Nat)
theorem upI_p (x : Value) : upI r pos (.d (.p x)) = .d (.p x) := rfl
theorem upI_ref (a b : Nat) : upI r pos (.ref a b) = .ref a b := rfl
theorem upI_junk : upI r pos .junk = .junk := rfl
theorem upI_it (N : Nat) (s : ByteArray) (p : Nat) : upI r pos (.it r N s p) = .it r N s pos := by simp [upI]
end
end Go.Proofs.YtbffolmgkkknpaaDoor

namespace Go.Proofs.YtbffolmgkkknpaaDoor
open Go.RowKit
set_option linter.unusedSimpArgs false
set_option linter.unusedVariables false

section
variable {c : Cx} {s : S} {o : Oper}
theorem rp_indexG {t e : TypeId} {x y : Operand} {sz bt len g k : Nat} {z : Value} {n' : Int} {kd : IntKind} (hu : c.P.underlying t = some (.array len e)) (hi : Inf c.P e sz bt z) (ho : o.op = .indexAddr t x y) (hx : s.ev x = some (.d (.p (.pointer (some ⟨g, 0, none⟩))))) (hy : s.ev y = some (.d (.p (.int kd n')))) (hk : n' = (k : Int)) (hlt : k < len) (h2 : 2 ≤ len) : RP c o s (.d (.p (.pointer (some ⟨g, k * sz, none⟩)))) := fun g' a w hs => by
  refine ⟨.pointer (some ⟨g, k * sz, none⟩), .d _ _ (.p _), fun w' => ?_⟩
  subst hk
  have hlt' : (k : Int) < len := by omega
  have htiny : ¬ len ≤ 1 := by omega
  simp [execOp, ho, VRep.p_eq (hs.ev hx), VRep.p_eq (hs.ev hy), Instr.indexAt, Instr.sureAddr, asIntOf, run_underlying hu, run_sizeOf hi, hlt', addr_add, hlt, htiny]
theorem rd_loadsG {t : TypeId} {d : TypeDesc} {x : Operand} {sz bt b off : Nat} {z : Value} (row : List Value) (hu : c.P.underlying t = some d) (hd : isAggD d = true) (hi : Inf c.P t sz bt z) (ho : o.op = .load t x) (hx : s.ev x = some (.d (.p (.pointer (some ⟨b, off, none⟩))))) (hl : row.length = sz) (hpre : ∀ j v, row[j]? = some v → c.w0.cell? ⟨b, off + j, none⟩ = some v) : RD c o s (.agg (row.map fun v => .d (.p v))) := fun g a w hs => by
  refine ⟨.agg row.toArray, .agg _ row (by simp) fun j u y hu hy => ?_, fun w' hb => ?_⟩
  · simp only [List.getElem?_map, hy, Option.map_some, Option.some.injEq] at hu
    subst hu
    exact .d _ _ (.p _)
  · have hbel : Below c.w0.heap.size c.w0 w' := hs.below.trans (hb.mono hs.below.size)
    have hcell : ∀ j v, row[j]? = some v → w'.cell? ⟨b, off + j, none⟩ = some v := fun j v hj => (hbel.cell (p := ⟨b, off + j, none⟩) (by
      have := hpre j v hj
      unfold World.cell? at this
      rcases Nat.lt_or_ge b c.w0.heap.size with h' | h'
      · exact h'
      · rw [Array.getElem?_eq_none h'] at this
        cases this)).trans (hpre j v hj)
    have := run_loadVar_agg (w := w') hu hd hi hl hcell
    simp [execOp, ho, VRep.p_eq (hs.ev hx), Instr.loadAt, Instr.sureAddr, this]
theorem rp_conv32 {t t' : TypeId} {x : Operand} {k : IntKind} {m : Int} (hu : c.P.underlying t = some (.int k)) (hu' : c.P.underlying t' = some (.int .i32)) (ho : o.op = .convert t t' x) (hx : s.ev x = some (.d (.p (.int k m)))) (hr : 0 ≤ m ∧ m ≤ 2147483647) : RP c o s (.d (.p (.int .i32 m))) := fun g a w hs =>
  ⟨.int .i32 m, .d _ _ (.p _), fun w' => by
    have hw : IntKind.i32.wrap m = m := by rw [IntKind.wrap_i32]; omega
    simp only [execOp, ho, VRep.p_eq (hs.ev hx)]
    simp [convert, run_underlying hu, run_underlying hu', Conv.intToInt, hw]⟩
theorem encode_ascii {m : Nat} (h : m < 128) : Utf8.encode (m : Int) = ⟨#[UInt8.ofNat m]⟩ := by
  have hv : Utf8.valid (m : Int) = true := by
    unfold Utf8.valid
    simp
    left; omega
  unfold Utf8.encode
  simp only [hv, if_true, Int.toNat_natCast]
  rw [if_pos (by omega)]
theorem rp_runeStr {t t' : TypeId} {x : Operand} {m : Nat} {m' : Int} (hu : c.P.underlying t = some (.int .i32)) (hu' : c.P.underlying t' = some .string) (ho : o.op = .convert t t' x) (hx : s.ev x = some (.d (.p (.int .i32 m')))) (hm : m' = (m : Int)) (h : m < 128) : RP c o s (.s ⟨#[UInt8.ofNat m]⟩) := fun g a w hs => by
  subst hm
  refine ⟨.string ⟨#[UInt8.ofNat m]⟩, .d _ _ (.p _), fun w' => ?_⟩
  have hrun := run_convert_int_string (P := c.P) w' t t' .i32 (m : Int) (by rw [hu]; rfl) hu'
  rw [encode_ascii h] at hrun
  simp only [execOp, ho, VRep.p_eq (hs.ev hx), Sem.run_bind, hrun, Result.andThen_ok]
  rfl
end
end Go.Proofs.YtbffolmgkkknpaaDoor

namespace Go.Proofs.YtbffolmgkkknpaaDoor
open Go.RowKit
set_option linter.unusedSimpArgs false
set_option linter.unusedVariables false
set_option maxRecDepth 100000

theorem pc_fieldT (r : Nat) (c : Int) (hc : c = 116) (H : List (Nat × Row)) (K : List V) : PC Tryd.prog 33 [.ref r 0, .d (.p (.int .i32 c))] H K (fun v H' K' => v = .ref r 1 ∧ H' = H ∧ K' = K) := by
 refine PC.intro (n := 19) ⟨Tryd.func33, rfl, rfl, rfl, rfl⟩ (by simp) fun w0 out kx => ?_
 simp only [enum]
 refine AW.seq ?_
 refine AW.region ?_
 refine AL.rp rfl rfl (rp_assign rfl rfl) ?_
 refine AL.nil ?_
 try simp only [thenS, S.put, enum, List.nil_append, List.cons_append, List.append_nil, Nat.zero_add, Nat.reduceAdd]
 refine AW.seq ?_
 refine AW.seq ?_
 refine AW.region ?_
 refine AL.rp rfl rfl (rp_move rfl rfl) ?_
 refine AL.nil ?_
 try simp only [thenS, S.put]
 refine AW.block ?_
 refine AW.seq ?_
 refine AW.region ?_
 (first | (refine AL.rp rfl rfl (rp_eqlT rfl rfl rfl (by first | assumption | omega | (dsimp only; omega))) ?_) | (refine AL.rp rfl rfl (rp_eqlF rfl rfl rfl (by first | assumption | omega | (dsimp only; omega))) ?_) | (refine AL.rp rfl rfl (rp_eql rfl rfl rfl) ?_))
 refine AL.rp rfl rfl (rp_assign rfl rfl) ?_
 refine AL.nil ?_
 try simp only [thenS, S.put]
 refine AW.condT rfl ?_
 refine AW.seq ?_
 refine AW.region ?_
 refine AL.rp rfl rfl (rp_move rfl rfl) ?_
 (first | (refine AL.rp rfl rfl (rp_nilCheck rfl rfl) ?_) | (refine AL.rp rfl rfl (rp_nilCheck_ad rfl rfl) ?_))
 (first | (refine AL.rp rfl rfl (rp_field_ref Tryd.underlying45 rfl rfl rfl inf3 (by decide) rfl) ?_) | (refine AL.rp rfl rfl (rp_field_ad Tryd.underlying45 rfl rfl rfl inf3 (by decide) rfl) ?_))
 refine AL.rp rfl rfl (rp_assign rfl rfl) ?_
 refine AL.nil ?_
 try simp only [thenS, S.put]
 refine AW.ret ?_
 exact ⟨[_], ⟨rfl, trivial⟩, rfl, rfl, rfl⟩
theorem pc_fieldA (r : Nat) (c : Int) (hc : c = 97) (H : List (Nat × Row)) (K : List V) : PC Tryd.prog 33 [.ref r 0, .d (.p (.int .i32 c))] H K (fun v H' K' => v = .ref r 2 ∧ H' = H ∧ K' = K) := by
 have h1 : ¬ c = 116 := by omega
 refine PC.intro (n := 19) ⟨Tryd.func33, rfl, rfl, rfl, rfl⟩ (by simp) fun w0 out kx => ?_
 simp only [enum]
 refine AW.seq ?_
 refine AW.region ?_
 refine AL.rp rfl rfl (rp_assign rfl rfl) ?_
 refine AL.nil ?_
 try simp only [thenS, S.put, enum, List.nil_append, List.cons_append, List.append_nil, Nat.zero_add, Nat.reduceAdd]
 refine AW.seq ?_
 refine AW.seq ?_
 refine AW.region ?_
 refine AL.rp rfl rfl (rp_move rfl rfl) ?_
 refine AL.nil ?_
 try simp only [thenS, S.put]
 refine AW.block ?_
 refine AW.seq ?_
 refine AW.region ?_
 (first | (refine AL.rp rfl rfl (rp_eqlT rfl rfl rfl (by first | assumption | omega | (dsimp only; omega))) ?_) | (refine AL.rp rfl rfl (rp_eqlF rfl rfl rfl (by first | assumption | omega | (dsimp only; omega))) ?_) | (refine AL.rp rfl rfl (rp_eql rfl rfl rfl) ?_))
 refine AL.rp rfl rfl (rp_assign rfl rfl) ?_
 refine AL.nil ?_
 try simp only [thenS, S.put]
 refine AW.condF rfl ?_
 refine AW.seq ?_
 refine AW.region ?_
 (first | (refine AL.rp rfl rfl (rp_eqlT rfl rfl rfl (by first | assumption | omega | (dsimp only; omega))) ?_) | (refine AL.rp rfl rfl (rp_eqlF rfl rfl rfl (by first | assumption | omega | (dsimp only; omega))) ?_) | (refine AL.rp rfl rfl (rp_eql rfl rfl rfl) ?_))
 refine AL.rp rfl rfl (rp_assign rfl rfl) ?_
 refine AL.nil ?_
 try simp only [thenS, S.put]
 refine AW.condT rfl ?_
 refine AW.seq ?_
 refine AW.region ?_
 refine AL.rp rfl rfl (rp_move rfl rfl) ?_
 (first | (refine AL.rp rfl rfl (rp_nilCheck rfl rfl) ?_) | (refine AL.rp rfl rfl (rp_nilCheck_ad rfl rfl) ?_))
 (first | (refine AL.rp rfl rfl (rp_field_ref Tryd.underlying45 rfl rfl rfl inf3 (by decide) rfl) ?_) | (refine AL.rp rfl rfl (rp_field_ad Tryd.underlying45 rfl rfl rfl inf3 (by decide) rfl) ?_))
 refine AL.rp rfl rfl (rp_assign rfl rfl) ?_
 refine AL.nil ?_
 try simp only [thenS, S.put]
 refine AW.ret ?_
 exact ⟨[_], ⟨rfl, trivial⟩, rfl, rfl, rfl⟩
theorem pc_fieldB (r : Nat) (c : Int) (hc : c = 98) (H : List (Nat × Row)) (K : List V) : PC Tryd.prog 33 [.ref r 0, .d (.p (.int .i32 c))] H K (fun v H' K' => v = .ref r 3 ∧ H' = H ∧ K' = K) := by
 have h1 : ¬ c = 116 := by omega
 have h2 : ¬ c = 97 := by omega
 refine PC.intro (n := 19) ⟨Tryd.func33, rfl, rfl, rfl, rfl⟩ (by simp) fun w0 out kx => ?_
 simp only [enum]
 refine AW.seq ?_
 refine AW.region ?_
 refine AL.rp rfl rfl (rp_assign rfl rfl) ?_
 refine AL.nil ?_
 try simp only [thenS, S.put, enum, List.nil_append, List.cons_append, List.append_nil, Nat.zero_add, Nat.reduceAdd]
 refine AW.seq ?_
 refine AW.seq ?_
 refine AW.region ?_
 refine AL.rp rfl rfl (rp_move rfl rfl) ?_
 refine AL.nil ?_
 try simp only [thenS, S.put]
 refine AW.block ?_
 refine AW.seq ?_
 refine AW.region ?_
 (first | (refine AL.rp rfl rfl (rp_eqlT rfl rfl rfl (by first | assumption | omega | (dsimp only; omega))) ?_) | (refine AL.rp rfl rfl (rp_eqlF rfl rfl rfl (by first | assumption | omega | (dsimp only; omega))) ?_) | (refine AL.rp rfl rfl (rp_eql rfl rfl rfl) ?_))
 refine AL.rp rfl rfl (rp_assign rfl rfl) ?_
 refine AL.nil ?_
 try simp only [thenS, S.put]
 refine AW.condF rfl ?_
 refine AW.seq ?_
 refine AW.region ?_
 (first | (refine AL.rp rfl rfl (rp_eqlT rfl rfl rfl (by first | assumption | omega | (dsimp only; omega))) ?_) | (refine AL.rp rfl rfl (rp_eqlF rfl rfl rfl (by first | assumption | omega | (dsimp only; omega))) ?_) | (refine AL.rp rfl rfl (rp_eql rfl rfl rfl) ?_))
 refine AL.rp rfl rfl (rp_assign rfl rfl) ?_
 refine AL.nil ?_
 try simp only [thenS, S.put]
 refine AW.condF rfl ?_
 refine AW.skip ?_
 try simp only [thenS]
 refine AW.seq ?_
 refine AW.region ?_
 refine AL.rp rfl rfl (rp_move rfl rfl) ?_
 (first | (refine AL.rp rfl rfl (rp_nilCheck rfl rfl) ?_) | (refine AL.rp rfl rfl (rp_nilCheck_ad rfl rfl) ?_))
 (first | (refine AL.rp rfl rfl (rp_field_ref Tryd.underlying45 rfl rfl rfl inf3 (by decide) rfl) ?_) | (refine AL.rp rfl rfl (rp_field_ad Tryd.underlying45 rfl rfl rfl inf3 (by decide) rfl) ?_))
 refine AL.rp rfl rfl (rp_assign rfl rfl) ?_
 refine AL.nil ?_
 try simp only [thenS, S.put]
 refine AW.ret ?_
 exact ⟨[_], ⟨rfl, trivial⟩, rfl, rfl, rfl⟩
end Go.Proofs.YtbffolmgkkknpaaDoor

namespace Go.Proofs.YtbffolmgkkknpaaDoor
open Go.RowKit
set_option linter.unusedSimpArgs false
set_option linter.unusedVariables false
set_option maxRecDepth 100000

structure Nm where
  t : ByteArray
  b : Int
deriving DecidableEq
instance : Inhabited Nm := ⟨⟨⟨#[]⟩, 0⟩⟩
def nmD (x : Nm) : List D := [.p (.string x.t), .p (.int .i64 x.b)]
def nmsD (l : List Nm) : D := .sl 2 24 (l.map nmD)

def chLet (b : UInt8) : Prop := (97 ≤ b.toNat ∧ b.toNat ≤ 122) ∨ b.toNat = 95
def chDig (b : UInt8) : Prop := 48 ≤ b.toNat ∧ b.toNat ≤ 57
def nmP (l : List UInt8) : Prop := 1 ≤ l.length ∧ l.length ≤ 12 ∧ ∀ (k : Nat) (b : UInt8), l[k]? = some b → chLet b ∨ (chDig b ∧ 0 < k)
open Classical in
noncomputable def nmB (l : List UInt8) : Bool := decide (nmP l)
theorem nmB_true {l : List UInt8} (h : nmP l) : nmB l = true := by simp [nmB, h]
theorem nmB_false {l : List UInt8} (h : ¬ nmP l) : nmB l = false := by simp [nmB, h]

def dupP (l : List Nm) (n : Nat) : Prop := ∃ (i j : Nat) (x y : Nm), j < i ∧ i < n ∧ l[i]? = some x ∧ l[j]? = some y ∧ (x.t = y.t ∨ x.b = y.b)
def labP (l : List Nm) (n : Nat) : Prop := ∀ (i : Nat) (x : Nm), i < n → l[i]? = some x → 1 ≤ x.b ∧ x.b ≤ 1000
def txtP (l : List Nm) (n : Nat) : Prop := ∀ (i : Nat) (x : Nm), i < n → l[i]? = some x → nmB x.t.data.toList = true
open Classical in
noncomputable def nmF (l : List Nm) : Int := if 100 < l.length then 1 else if ¬ labP l l.length then 2 else if ¬ txtP l l.length then 9 else if dupP l l.length then 10 else 0
theorem nmF_size {l : List Nm} (h : 100 < l.length) : nmF l = 1 := by unfold nmF; rw [if_pos h]
theorem nmF_lab {l : List Nm} (h : ¬ 100 < l.length) (h1 : ¬ labP l l.length) : nmF l = 2 := by unfold nmF; rw [if_neg h, if_pos h1]
theorem nmF_txt {l : List Nm} (h : ¬ 100 < l.length) (h1 : labP l l.length) (h2 : ¬ txtP l l.length) : nmF l = 9 := by unfold nmF; rw [if_neg h, if_neg (not_not_intro h1), if_pos h2]
theorem nmF_dup {l : List Nm} (h : ¬ 100 < l.length) (h1 : labP l l.length) (h2 : txtP l l.length) (h3 : dupP l l.length) : nmF l = 10 := by unfold nmF; rw [if_neg h, if_neg (not_not_intro h1), if_neg (not_not_intro h2), if_pos h3]
theorem nmF_ok {l : List Nm} (h : ¬ 100 < l.length) (h1 : labP l l.length) (h2 : txtP l l.length) (h3 : ¬ dupP l l.length) : nmF l = 0 := by unfold nmF; rw [if_neg h, if_neg (not_not_intro h1), if_neg (not_not_intro h2), if_neg h3]
theorem nmF_0 {l : List Nm} (h : nmF l = 0) : ¬ 100 < l.length ∧ labP l l.length ∧ txtP l l.length ∧ ¬ dupP l l.length := by
  unfold nmF at h
  split at h
  · omega
  split at h
  · omega
  split at h
  · omega
  split at h
  · omega
  rename_i h1 h2 h3 h4
  exact ⟨h1, Classical.not_not.1 h2, Classical.not_not.1 h3, h4⟩
theorem labP_snoc {l : List Nm} {k : Nat} {x : Nm} (h : labP l k) (hx : l[k]? = some x) (h1 : 1 ≤ x.b ∧ x.b ≤ 1000) : labP l (k + 1) := by
  intro i y hi hy
  by_cases e : i = k
  · subst e
    rw [hx] at hy
    cases hy
    exact h1
  · exact h i y (by omega) hy
theorem txtP_snoc {l : List Nm} {k : Nat} {x : Nm} (h : txtP l k) (hx : l[k]? = some x) (h1 : nmB x.t.data.toList = true) : txtP l (k + 1) := by
  intro i y hi hy
  by_cases e : i = k
  · subst e
    rw [hx] at hy
    cases hy
    exact h1
  · exact h i y (by omega) hy
theorem labP_not {l : List Nm} {k : Nat} {x : Nm} (hx : l[k]? = some x) (h1 : ¬ (1 ≤ x.b ∧ x.b ≤ 1000)) : ¬ labP l l.length := fun h => h1 (h k x (List.getElem?_eq_some_iff.1 hx).1 hx)
theorem txtP_not {l : List Nm} {k : Nat} {x : Nm} (hx : l[k]? = some x) (h1 : nmB x.t.data.toList = false) : ¬ txtP l l.length := fun h => by rw [h k x (List.getElem?_eq_some_iff.1 hx).1 hx] at h1; cases h1
theorem dupP_snoc {l : List Nm} {k : Nat} {x : Nm} (h : ¬ dupP l k) (hx : l[k]? = some x) (h1 : ∀ (j : Nat) (y : Nm), j < k → l[j]? = some y → x.t ≠ y.t ∧ x.b ≠ y.b) : ¬ dupP l (k + 1) := by
  rintro ⟨i, j, u, v, h2, h3, h4, h5, h6⟩
  by_cases e : i = k
  · subst e
    rw [hx] at h4
    cases h4
    have := h1 j v h2 h5
    rcases h6 with h6 | h6
    · exact this.1 h6
    · exact this.2 h6
  · exact h ⟨i, j, u, v, h2, by omega, h4, h5, h6⟩
theorem dupP_get {l : List Nm} {i j : Nat} {x y : Nm} (hji : j < i) (hx : l[i]? = some x) (hy : l[j]? = some y) (h : x.t = y.t ∨ x.b = y.b) : dupP l l.length := ⟨i, j, x, y, hji, (List.getElem?_eq_some_iff.1 hx).1, hx, hy, h⟩

section
variable {K : Type} [DecidableEq K]
theorem mget_mput (a : K) (v : Int) (b : K) : ∀ l : List (K × Int), mget (mput l a v) b = if b = a then some v else mget l b
  | [] => by simp [mput, mfind, mget_cons, mget]
  | (k, u) :: l => by
    have ih := mget_mput a v b l
    by_cases e : a = k
    · subst e
      have h0 : mput ((a, u) :: l) a v = (a, v) :: l := by simp [mput, mfind]
      rw [h0, mget_cons, mget_cons]
      split <;> rfl
    · have h0 : mput ((k, u) :: l) a v = (k, u) :: mput l a v := by
        unfold mput
        simp only [mfind, if_neg e]
        rw [mfind_shift]
        cases h : mfind l a 0 with
        | none => simp
        | some p => simp
      rw [h0, mget_cons, mget_cons, ih]
      by_cases e2 : b = k
      · rw [if_pos e2, if_pos e2, if_neg (fun h => e (h.symm.trans e2))]
      · rw [if_neg e2, if_neg e2]
theorem mput_len (a : K) (v : Int) (l : List (K × Int)) : (mput l a v).length = if mget l a = none then l.length + 1 else l.length := by
  unfold mput mget
  cases h : mfind l a 0 with
  | none => simp
  | some p => simp

/-- The index of a table: each key stands for the last place where it is found. -/
def bldM (f : Nm → K) (l : List Nm) : Nat → List (K × Int)
  | 0 => []
  | n + 1 => match l[n]? with
    | some x => mput (bldM f l n) (f x) n
    | none => bldM f l n
theorem bldM_snoc {f : Nm → K} {l : List Nm} {k : Nat} {x : Nm} (hx : l[k]? = some x) : bldM f l (k + 1) = mput (bldM f l k) (f x) k := by simp only [bldM, hx]
theorem bldM_some {f : Nm → K} {l : List Nm} {a : K} {v : Int} : ∀ n, mget (bldM f l n) a = some v → ∃ (j : Nat) (x : Nm), j < n ∧ v = j ∧ l[j]? = some x ∧ f x = a
  | 0, h => by simp [bldM, mget, mfind] at h
  | n + 1, h => by
    cases hx : l[n]? with
    | none =>
      simp only [bldM, hx] at h
      obtain ⟨j, x, h1, h2⟩ := bldM_some n h
      exact ⟨j, x, by omega, h2⟩
    | some x =>
      rw [bldM_snoc hx, mget_mput] at h
      split at h
      · rename_i e
        simp only [Option.some.injEq] at h
        exact ⟨n, x, by omega, h.symm, hx, e.symm⟩
      · obtain ⟨j, x, h1, h2⟩ := bldM_some n h
        exact ⟨j, x, by omega, h2⟩
theorem bldM_none {f : Nm → K} {l : List Nm} {a : K} : ∀ n, mget (bldM f l n) a = none → ∀ (j : Nat) (x : Nm), j < n → l[j]? = some x → f x ≠ a
  | 0, _, j, x, hj, _ => by omega
  | n + 1, h, j, x, hj, hx => by
    cases hy : l[n]? with
    | none =>
      simp only [bldM, hy] at h
      by_cases e : j = n
      · subst e; rw [hx] at hy; cases hy
      · exact bldM_none n h j x (by omega) hx
    | some y =>
      rw [bldM_snoc hy, mget_mput] at h
      split at h
      · cases h
      · rename_i e
        by_cases e2 : j = n
        · subst e2
          rw [hx] at hy
          cases hy
          exact fun h => e h.symm
        · exact bldM_none n h j x (by omega) hx
/-- The index is as long as the table if no key stands there twice, else shorter. -/
theorem bldM_len {f : Nm → K} {l : List Nm} : ∀ n, n ≤ l.length → (bldM f l n).length ≤ n ∧ ((bldM f l n).length = n ↔ ∀ (i j : Nat) (x y : Nm), j < i → i < n → l[i]? = some x → l[j]? = some y → f x ≠ f y)
  | 0, _ => ⟨by simp [bldM], by simp [bldM]⟩
  | n + 1, hn => by
    obtain ⟨h1, h2⟩ := bldM_len (f := f) (l := l) n (by omega)
    obtain ⟨x, hx⟩ : ∃ x, l[n]? = some x := ⟨_, List.getElem?_eq_getElem (by omega)⟩
    rw [bldM_snoc hx, mput_len]
    cases hg : mget (bldM f l n) (f x) with
    | none =>
      rw [if_pos rfl]
      refine ⟨by omega, ?_⟩
      have hno := bldM_none n hg
      constructor
      · intro h i j u v hji hi hu hv
        by_cases e : i = n
        · subst e
          rw [hx] at hu
          cases hu
          exact Ne.symm (hno j v hji hv)
        · exact h2.1 (by omega) i j u v hji (by omega) hu hv
      · intro h
        have := h2.2 fun i j u v hji hi hu hv => h i j u v hji (by omega) hu hv
        omega
    | some v =>
      rw [if_neg (by simp)]
      refine ⟨by omega, ?_⟩
      obtain ⟨j, y, hj, _, hy, he⟩ := bldM_some n hg
      constructor
      · intro h; omega
      · intro h
        exact absurd he.symm (h n j x y hj (by omega) hx hy)
end
theorem nms_dup {l : List Nm} : ((bldM Nm.t l l.length).length < l.length ∨ (bldM Nm.b l l.length).length < l.length) ↔ dupP l l.length := by
  obtain ⟨h1, h2⟩ := bldM_len (f := Nm.t) (l := l) l.length (Nat.le_refl _)
  obtain ⟨h3, h4⟩ := bldM_len (f := Nm.b) (l := l) l.length (Nat.le_refl _)
  constructor
  · intro h
    refine Classical.byContradiction fun hd => ?_
    have e1 := h2.2 fun i j x y hji hi hx hy e => hd ⟨i, j, x, y, hji, hi, hx, hy, .inl e⟩
    have e2 := h4.2 fun i j x y hji hi hx hy e => hd ⟨i, j, x, y, hji, hi, hx, hy, .inr e⟩
    omega
  · rintro ⟨i, j, x, y, hji, hi, hx, hy, he⟩
    refine Classical.byContradiction fun hd => ?_
    have e1 := h2.1 (by omega) i j x y hji hi hx hy
    have e2 := h4.1 (by omega) i j x y hji hi hx hy
    rcases he with he | he
    · exact e1 he
    · exact e2 he

open Classical in
/-- Where a text, or a label, stands in a table. -/
noncomputable def fndL (l : List Nm) (t : ByteArray) : Int × Int := if h : ∃ (j : Nat) (x : Nm), l[j]? = some x ∧ x.t = t then (h.choose_spec.choose.b, 0) else (0, 12)
open Classical in
noncomputable def fndT (l : List Nm) (b : Int) : ByteArray × Int := if h : ∃ (j : Nat) (x : Nm), l[j]? = some x ∧ x.b = b then (h.choose_spec.choose.t, 0) else (⟨#[]⟩, 12)
theorem nodup_eq {l : List Nm} (hd : ¬ dupP l l.length) {i j : Nat} {x y : Nm} (hx : l[i]? = some x) (hy : l[j]? = some y) (he : x.t = y.t ∨ x.b = y.b) : x = y := by
  rcases Nat.lt_trichotomy i j with h | h | h
  · exact absurd (dupP_get h hy hx (he.imp Eq.symm Eq.symm)) hd
  · subst h; rw [hx] at hy; cases hy; rfl
  · exact absurd (dupP_get h hx hy he) hd
theorem fndL_some {l : List Nm} (hd : ¬ dupP l l.length) {j : Nat} {x : Nm} (hx : l[j]? = some x) : fndL l x.t = (x.b, 0) := by
  have h : ∃ (j : Nat) (y : Nm), l[j]? = some y ∧ y.t = x.t := ⟨j, x, hx, rfl⟩
  unfold fndL
  rw [dif_pos h]
  have h1 := h.choose_spec.choose_spec
  rw [nodup_eq hd h1.1 hx (.inl h1.2)]
theorem fndL_none {l : List Nm} {t : ByteArray} (h : ∀ (j : Nat) (x : Nm), j < l.length → l[j]? = some x → x.t ≠ t) : fndL l t = (0, 12) := by
  unfold fndL
  rw [dif_neg]
  rintro ⟨j, x, h1, h2⟩
  exact h j x (List.getElem?_eq_some_iff.1 h1).1 h1 h2
theorem fndT_some {l : List Nm} (hd : ¬ dupP l l.length) {j : Nat} {x : Nm} (hx : l[j]? = some x) : fndT l x.b = (x.t, 0) := by
  have h : ∃ (j : Nat) (y : Nm), l[j]? = some y ∧ y.b = x.b := ⟨j, x, hx, rfl⟩
  unfold fndT
  rw [dif_pos h]
  have h1 := h.choose_spec.choose_spec
  rw [nodup_eq hd h1.1 hx (.inr h1.2)]
theorem fndT_none {l : List Nm} {b : Int} (h : ∀ (j : Nat) (x : Nm), j < l.length → l[j]? = some x → x.b ≠ b) : fndT l b = (⟨#[]⟩, 12) := by
  unfold fndT
  rw [dif_neg]
  rintro ⟨j, x, h1, h2⟩
  exact h j x (List.getElem?_eq_some_iff.1 h1).1 h1 h2
theorem mpsR_nms (l : List Nm) : D.mpsR (l.map nmD) = false := mpsR_map _ (fun _ => rfl) l
theorem upB_nms (y : Bool) (r r' : Nat) (m : List (Value × Value)) (l : List Nm) : upB y r r' m (.d (nmsD l)) = .d (nmsD l) := upB_sl y r r' m 2 24 _ (mpsR_nms l)
theorem idx_t (l : List Nm) (k : Nat) : smap (bldM Nm.t l 0) = [] := rfl
/-- What names.Find and names.Of answer. -/
noncomputable def findR (l : List Nm) (t : ByteArray) : Int × Int := if nmF l = 0 then fndL l t else (0, nmF l)
noncomputable def ofR (l : List Nm) (b : Int) : ByteArray × Int := if nmF l = 0 then fndT l b else (⟨#[]⟩, nmF l)
end Go.Proofs.YtbffolmgkkknpaaDoor

namespace Go.Proofs.YtbffolmgkkknpaaDoor
open Go.RowKit
set_option linter.unusedSimpArgs false
set_option linter.unusedVariables false
set_option maxRecDepth 100000

theorem iter_below (w : World) (s : ByteArray) (pos : Nat) : Below w.heap.size w (w.iter s pos) := (Below.refl _ _).alloc (Nat.le_refl _) _
def wdP (l : List UInt8) (n : Nat) : Prop := ∀ (k : Nat) (b : UInt8), k < n → l[k]? = some b → chLet b ∨ (chDig b ∧ 0 < k)
theorem wdP_ok {l : List UInt8} (h1 : 1 ≤ l.length) (h2 : l.length ≤ 12) (h : wdP l l.length) : nmB l = true := nmB_true ⟨h1, h2, fun k b hb => h k b (List.getElem?_eq_some_iff.1 hb).1 hb⟩
theorem wdP_no {l : List UInt8} {k : Nat} {b : UInt8} (hb : l[k]? = some b) (h : ¬ (chLet b ∨ (chDig b ∧ 0 < k))) : nmB l = false := nmB_false fun ⟨_, _, hp⟩ => h (hp k b hb)
theorem wdP_snoc {l : List UInt8} {n : Nat} {b : UInt8} (h : wdP l n) (hb : l[n]? = some b) (hc : chLet b ∨ (chDig b ∧ 0 < n)) : wdP l (n + 1) := by
  intro k c hk hc'
  by_cases e : k = n
  · subst e; rw [hb] at hc'; cases hc'; exact hc
  · exact h k c (by omega) hc'
theorem byte_at (s : ByteArray) (pos : Nat) (h : pos < s.size) : s.data.toList[pos]? = some (s[pos]'h) := by
  have hl : s.data.toList.length = s.size := Array.length_toList
  rw [List.getElem?_eq_getElem (by omega)]
  rfl
theorem dec_lt {s : ByteArray} {pos c wd : Nat} (h : pos < s.size) (hd : Utf8.decode s pos = (c, wd)) (hc : c < 128) : ∃ b : UInt8, s.data.toList[pos]? = some b ∧ b.toNat = c ∧ wd = 1 := by
  refine ⟨_, byte_at s pos h, ?_⟩
  by_cases ha : (s[pos]'h).toNat < 128
  · rw [decode_ascii s pos h ha] at hd
    simp only [Prod.mk.injEq] at hd
    exact ⟨hd.1, hd.2.symm⟩
  · have := (decode_high s pos h (by omega)).1
    rw [hd] at this
    simp only at this
    omega
theorem dec_no {s : ByteArray} {pos c wd : Nat} (h : pos < s.size) (hd : Utf8.decode s pos = (c, wd)) (hc : ¬ ((97 ≤ c ∧ c ≤ 122) ∨ c = 95 ∨ ((48 ≤ c ∧ c ≤ 57) ∧ 0 < pos))) : nmB s.data.toList = false := by
  by_cases h1 : c < 128
  · obtain ⟨b, hb, e, _⟩ := dec_lt h hd h1
    refine wdP_no hb ?_
    unfold chLet chDig
    rw [e]
    omega
  · refine wdP_no (byte_at s pos h) ?_
    by_cases ha : (s[pos]'h).toNat < 128
    · rw [decode_ascii s pos h ha] at hd
      simp only [Prod.mk.injEq] at hd
      omega
    · unfold chLet chDig
      omega
theorem dec_yes {s : ByteArray} {pos c wd : Nat} (h : pos < s.size) (hd : Utf8.decode s pos = (c, wd)) (hc : (97 ≤ c ∧ c ≤ 122) ∨ c = 95 ∨ ((48 ≤ c ∧ c ≤ 57) ∧ 0 < pos)) (hw : wdP s.data.toList pos) : wd = 1 ∧ wdP s.data.toList (pos + 1) := by
  obtain ⟨b, hb, e, e2⟩ := dec_lt h hd (by omega)
  refine ⟨e2, wdP_snoc hw hb ?_⟩
  unfold chLet chDig
  rw [e]
  omega
end Go.Proofs.YtbffolmgkkknpaaDoor

namespace Go.Proofs.YtbffolmgkkknpaaDoor
open Go.RowKit
set_option linter.unusedSimpArgs false
set_option linter.unusedVariables false
set_option maxRecDepth 100000

set_option maxHeartbeats 1000000 in
theorem am_NameMay (s : ByteArray) : Fn Tryd.prog 37 [.s s] (fun v => v = .b (nmB s.data.toList)) := by
 obtain ⟨l, hl⟩ : ∃ l, s.data.toList = l := ⟨_, rfl⟩
 obtain ⟨n, hn⟩ : ∃ n, l.length = n := ⟨_, rfl⟩
 have hsz : s.size = n := by rw [← hn, ← hl]; exact Array.length_toList.symm
 rw [hl]
 by_cases hr : 1 ≤ n ∧ n ≤ 12
 ·obtain ⟨hr1, hr2⟩ := hr
  obtain ⟨b0, hb0⟩ : ∃ b0, l[0]? = some b0 := ⟨_, List.getElem?_eq_getElem (by omega)⟩
  have hs0 : s.data.toList[0]? = some b0 := by rw [hl]; exact hb0
  by_cases hd0 : 48 ≤ b0.toNat ∧ b0.toNat ≤ 57
  ·have hR : nmB l = false := wdP_no hb0 (by unfold chLet chDig; omega)
   rw [hR]
   have hcon := Fn.decT (am_Digit b0) hd0
   refine Fn.intro (n := 39) ⟨Tryd.func37, rfl, rfl, rfl, rfl⟩ (by simp [V.pure, V.has, V.hasL]) (by simp) fun w0 out => ?_
   refine AW.seq ?_
   refine AW.region ?_
   refine AL.rp rfl rfl (rp_assign rfl rfl) ?_
   refine AL.nil ?_
   try simp only [thenS, S.put, enum, List.nil_append, List.cons_append, List.append_nil, Nat.zero_add, Nat.reduceAdd]
   refine AW.seq ?_
   refine AW.seq ?_
   refine AW.region ?_
   refine AL.rp rfl rfl (rp_move rfl rfl) ?_
   (first | (refine AL.rp rfl rfl (rp_len_map Tryd.underlying9 rfl rfl (by assumption)) ?_) | (refine AL.rp rfl rfl (rp_len_own Tryd.underlying9 rfl rfl) ?_) | (refine AL.rp rfl rfl (rp_len_sl Tryd.underlying9 rfl rfl) ?_) | (refine AL.rp rfl rfl (rp_len_nil Tryd.underlying9 rfl rfl) ?_) | (refine AL.rp rfl rfl (rp_len_str Tryd.underlying9 rfl rfl) ?_))
   refine AL.call (post := ?pc0) rfl (sm_call (args := [_, _, _]) ?hc0 ⟨Tryd.func36, rfl, rfl, rfl, rfl⟩ rfl rfl rfl rfl) ?_
   case hc0 => first | (refine Fn.decT (am_In _ _ _) ?_; omega) | (refine Fn.decF (am_In _ _ _) ?_; omega) | exact am_In _ _ _
   rintro _ rfl -
   try dsimp only
   refine AL.rp rfl rfl (rp_not rfl rfl) ?_
   refine AL.rp rfl rfl (rp_move rfl rfl) ?_
   (first | (refine AL.noV rfl rfl rfl rfl ?_) | (refine AL.noU rfl ⟨_, rfl, rfl⟩ rfl ?_) | (refine AL.rpy rfl rfl rfl (rp_move rfl rfl) ?_))
   (first | (refine AL.noV rfl rfl rfl rfl ?_) | (refine AL.noU rfl ⟨_, rfl, rfl⟩ rfl ?_) | (refine AL.rpy rfl rfl rfl (rp_index_str Tryd.underlying9 rfl rfl rfl (by first | rfl | omega) (by assumption)) ?_))
   (first | (refine AL.no rfl rfl rfl rfl ?_) | (refine AL.noU rfl ⟨_, rfl, rfl⟩ rfl ?_) | (refine AL.cally (post := ?pc1) rfl rfl (sm_call (args := [_]) ?hc1 ⟨Tryd.func58, rfl, rfl, rfl, rfl⟩ rfl rfl rfl rfl) ?_; (case hc1 => (first | (refine Fn.decT (am_Digit _) ?_; omega) | (refine Fn.decF (am_Digit _) ?_; omega) | exact am_Digit _)); rintro _ rfl -; try dsimp only))
   refine AL.rp rfl rfl (rp_pick rfl rfl rfl) ?_
   refine AL.nil ?_
   try simp only [thenS, S.put, S.newObj, setL, V.cs, List.length_cons, List.length_nil, List.take_succ_cons, List.take_zero, List.drop_succ_cons, List.drop_zero, List.drop_nil, List.nil_append, List.cons_append, List.append_nil, Nat.zero_add, Nat.reduceAdd, List.map_cons, List.map_nil, List.set_cons_zero, List.set_cons_succ]
   refine AW.condT rfl ?_
   refine AW.seq ?_
   refine AW.region ?_
   refine AL.rp rfl rfl (rp_assign rfl rfl) ?_
   refine AL.nil ?_
   try simp only [thenS, S.put]
   refine AW.ret ?_
   -- left over: 
   exact ⟨[_], ⟨rfl, trivial⟩, rfl, by simp [tupOf, V.pure, V.has, V.hasL]⟩
  ·refine Fn.intro (n := 39) ⟨Tryd.func37, rfl, rfl, rfl, rfl⟩ (by simp [V.pure, V.has, V.hasL]) (by simp) fun w0 out => ?_
   refine AW.seq ?_
   refine AW.region ?_
   refine AL.rp rfl rfl (rp_assign rfl rfl) ?_
   refine AL.nil ?_
   try simp only [thenS, S.put, enum, List.nil_append, List.cons_append, List.append_nil, Nat.zero_add, Nat.reduceAdd]
   refine AW.seq ?_
   refine AW.seq ?_
   refine AW.region ?_
   refine AL.rp rfl rfl (rp_move rfl rfl) ?_
   (first | (refine AL.rp rfl rfl (rp_len_map Tryd.underlying9 rfl rfl (by assumption)) ?_) | (refine AL.rp rfl rfl (rp_len_own Tryd.underlying9 rfl rfl) ?_) | (refine AL.rp rfl rfl (rp_len_sl Tryd.underlying9 rfl rfl) ?_) | (refine AL.rp rfl rfl (rp_len_nil Tryd.underlying9 rfl rfl) ?_) | (refine AL.rp rfl rfl (rp_len_str Tryd.underlying9 rfl rfl) ?_))
   refine AL.call (post := ?pc2) rfl (sm_call (args := [_, _, _]) ?hc2 ⟨Tryd.func36, rfl, rfl, rfl, rfl⟩ rfl rfl rfl rfl) ?_
   case hc2 => first | (refine Fn.decT (am_In _ _ _) ?_; omega) | (refine Fn.decF (am_In _ _ _) ?_; omega) | exact am_In _ _ _
   rintro _ rfl -
   try dsimp only
   refine AL.rp rfl rfl (rp_not rfl rfl) ?_
   refine AL.rp rfl rfl (rp_move rfl rfl) ?_
   (first | (refine AL.noV rfl rfl rfl rfl ?_) | (refine AL.noU rfl ⟨_, rfl, rfl⟩ rfl ?_) | (refine AL.rpy rfl rfl rfl (rp_move rfl rfl) ?_))
   (first | (refine AL.noV rfl rfl rfl rfl ?_) | (refine AL.noU rfl ⟨_, rfl, rfl⟩ rfl ?_) | (refine AL.rpy rfl rfl rfl (rp_index_str Tryd.underlying9 rfl rfl rfl (by first | rfl | omega) (by assumption)) ?_))
   (first | (refine AL.no rfl rfl rfl rfl ?_) | (refine AL.noU rfl ⟨_, rfl, rfl⟩ rfl ?_) | (refine AL.cally (post := ?pc3) rfl rfl (sm_call (args := [_]) ?hc3 ⟨Tryd.func58, rfl, rfl, rfl, rfl⟩ rfl rfl rfl rfl) ?_; (case hc3 => (first | (refine Fn.decT (am_Digit _) ?_; omega) | (refine Fn.decF (am_Digit _) ?_; omega) | exact am_Digit _)); rintro _ rfl -; try dsimp only))
   refine AL.rp rfl rfl (rp_pick rfl rfl rfl) ?_
   refine AL.nil ?_
   try simp only [thenS, S.put, S.newObj, setL, V.cs, List.length_cons, List.length_nil, List.take_succ_cons, List.take_zero, List.drop_succ_cons, List.drop_zero, List.drop_nil, List.nil_append, List.cons_append, List.append_nil, Nat.zero_add, Nat.reduceAdd, List.map_cons, List.map_nil, List.set_cons_zero, List.set_cons_succ]
   refine AW.condF rfl ?_
   refine AW.skip ?_
   try simp only [thenS]
   refine AW.seq ?_
   refine AW.seq ?_
   refine AW.region ?_
   refine AL.rp rfl rfl (rp_assign rfl rfl) ?_
   refine AL.nil ?_
   try simp only [thenS, S.put]
   refine AW.block ?_
   -- left over: 
   refine AW.loop (fun s' => ∃ k : Nat, k ≤ n ∧ wdP l k ∧ s' = ⟨39, [(0, .s s), (3, .i k)], [], []⟩) (fun s' => n - s'.nat 3) ⟨_, ?_, 0, by omega, fun k b hk => absurd hk (by omega), rfl⟩ ?_
   ·exact (Less.of rfl (by repeat (first | exact trivial | refine ⟨⟨_, rfl, Wk.refl _⟩, ?_⟩ | refine ⟨⟨_, rfl, Wk.nil _ _⟩, ?_⟩ | refine ⟨⟨_, rfl, Wk.junk _⟩, ?_⟩)) (by repeat (first | exact trivial | refine ⟨rfl, ?_⟩)) rfl)
   rintro s' ⟨k, hk, hw, rfl⟩
   by_cases hlt : k < n
   ·obtain ⟨b, hb⟩ : ∃ b, l[k]? = some b := ⟨_, List.getElem?_eq_getElem (by omega)⟩
    have hsb : s.data.toList[k]? = some b := by rw [hl]; exact hb
    by_cases h1 : 97 ≤ b.toNat ∧ b.toNat ≤ 122
    ·have hw2 := wdP_snoc hw hb (.inl (.inl h1))
     obtain ⟨h1a, h1b⟩ := h1
     refine AW.seq ?_
     refine AW.seq ?_
     refine AW.region ?_
     refine AL.rp rfl rfl (rp_move rfl rfl) ?_
     refine AL.rp rfl rfl (rp_move rfl rfl) ?_
     (first | (refine AL.rp rfl rfl (rp_len_map Tryd.underlying9 rfl rfl (by assumption)) ?_) | (refine AL.rp rfl rfl (rp_len_own Tryd.underlying9 rfl rfl) ?_) | (refine AL.rp rfl rfl (rp_len_sl Tryd.underlying9 rfl rfl) ?_) | (refine AL.rp rfl rfl (rp_len_nil Tryd.underlying9 rfl rfl) ?_) | (refine AL.rp rfl rfl (rp_len_str Tryd.underlying9 rfl rfl) ?_))
     (first | (refine AL.rp rfl rfl (rp_lssT rfl rfl rfl (by first | assumption | omega | (dsimp only; omega))) ?_) | (refine AL.rp rfl rfl (rp_lssF rfl rfl rfl (by first | assumption | omega | (dsimp only; omega))) ?_) | (refine AL.rp rfl rfl (rp_lss rfl rfl rfl) ?_))
     refine AL.nil ?_
     try simp only [thenS, S.put]
     refine AW.condT rfl ?_
     refine AW.skip ?_
     try simp only [thenS]
     refine AW.seq ?_
     refine AW.block ?_
     refine AW.seq ?_
     refine AW.region ?_
     refine AL.rp rfl rfl (rp_move rfl rfl) ?_
     refine AL.rp rfl rfl (rp_move rfl rfl) ?_
     refine AL.rp rfl rfl (rp_index_str Tryd.underlying9 rfl rfl rfl (by first | rfl | omega) (by assumption)) ?_
     refine AL.rp rfl rfl (rp_assign rfl rfl) ?_
     refine AL.nil ?_
     try simp only [thenS, S.put]
     refine AW.seq ?_
     refine AW.region ?_
     refine AL.rp rfl rfl (rp_move rfl rfl) ?_
     (first | (refine AL.rp rfl rfl (rp_geqT rfl rfl rfl (by first | assumption | omega | (dsimp only; omega))) ?_) | (refine AL.rp rfl rfl (rp_geqF rfl rfl rfl (by first | assumption | omega | (dsimp only; omega))) ?_) | (refine AL.rp rfl rfl (rp_geq rfl rfl rfl) ?_))
     refine AL.rp rfl rfl (rp_move rfl rfl) ?_
     (first | (refine AL.noV rfl rfl rfl rfl ?_) | (refine AL.noU rfl ⟨_, rfl, rfl⟩ rfl ?_) | (refine AL.rpy rfl rfl rfl (rp_move rfl rfl) ?_))
     (first | (refine AL.noV rfl rfl rfl rfl ?_) | (refine AL.noU rfl ⟨_, rfl, rfl⟩ rfl ?_) | (refine AL.rpy rfl rfl rfl (rp_leqT rfl rfl rfl (by first | assumption | omega | (dsimp only; omega))) ?_) | (refine AL.rpy rfl rfl rfl (rp_leqF rfl rfl rfl (by first | assumption | omega | (dsimp only; omega))) ?_) | (refine AL.rpy rfl rfl rfl (rp_leq rfl rfl rfl) ?_))
     refine AL.rp rfl rfl (rp_pick rfl rfl rfl) ?_
     refine AL.rp rfl rfl (rp_not rfl rfl) ?_
     refine AL.rp rfl rfl (rp_move rfl rfl) ?_
     (first | (refine AL.noV rfl rfl rfl rfl ?_) | (refine AL.noU rfl ⟨_, rfl, rfl⟩ rfl ?_) | (refine AL.rpy rfl rfl rfl (rp_move rfl rfl) ?_))
     (first | (refine AL.noV rfl rfl rfl rfl ?_) | (refine AL.noU rfl ⟨_, rfl, rfl⟩ rfl ?_) | (refine AL.rpy rfl rfl rfl (rp_neqT rfl rfl rfl (by first | assumption | omega | (dsimp only; omega))) ?_) | (refine AL.rpy rfl rfl rfl (rp_neqF rfl rfl rfl (by first | assumption | omega | (dsimp only; omega))) ?_) | (refine AL.rpy rfl rfl rfl (rp_neq rfl rfl rfl) ?_))
     refine AL.rp rfl rfl (rp_pick rfl rfl rfl) ?_
     refine AL.rp rfl rfl (rp_move rfl rfl) ?_
     (first | (refine AL.noV rfl rfl rfl rfl ?_) | (refine AL.noU rfl ⟨_, rfl, rfl⟩ rfl ?_) | (refine AL.rpy rfl rfl rfl (rp_move rfl rfl) ?_))
     (first | (refine AL.no rfl rfl rfl rfl ?_) | (refine AL.noU rfl ⟨_, rfl, rfl⟩ rfl ?_) | (refine AL.cally (post := ?pc4) rfl rfl (sm_call (args := [_]) ?hc4 ⟨Tryd.func58, rfl, rfl, rfl, rfl⟩ rfl rfl rfl rfl) ?_; (case hc4 => (first | (refine Fn.decT (am_Digit _) ?_; omega) | (refine Fn.decF (am_Digit _) ?_; omega) | exact am_Digit _)); rintro _ rfl -; try dsimp only))
     (first | (refine AL.noV rfl rfl rfl rfl ?_) | (refine AL.noU rfl ⟨_, rfl, rfl⟩ rfl ?_) | (refine AL.rpy rfl rfl rfl (rp_not rfl rfl) ?_))
     refine AL.rp rfl rfl (rp_pick rfl rfl rfl) ?_
     refine AL.nil ?_
     try simp only [thenS, S.put, S.newObj, setL, V.cs, List.length_cons, List.length_nil, List.take_succ_cons, List.take_zero, List.drop_succ_cons, List.drop_zero, List.drop_nil, List.nil_append, List.cons_append, List.append_nil, Nat.zero_add, Nat.reduceAdd, List.map_cons, List.map_nil, List.set_cons_zero, List.set_cons_succ]
     refine AW.condF rfl ?_
     refine AW.skip ?_
     try simp only [thenS]
     refine AW.region ?_
     refine AL.rp rfl rfl (rp_move rfl rfl) ?_
     refine AL.rp rfl rfl (rp_add rfl rfl rfl (by first | omega | (dsimp only; omega))) ?_
     refine AL.rp rfl rfl (rp_assign rfl rfl) ?_
     refine AL.nil ?_
     try simp only [thenS, S.put]
     -- left over: 
     refine ⟨_, ?_, ⟨k + 1, by omega, hw2, rfl⟩, ?_⟩
     ·exact (Less.of rfl (by repeat (first | exact trivial | refine ⟨⟨_, rfl, Wk.refl _⟩, ?_⟩ | refine ⟨⟨_, rfl, Wk.nil _ _⟩, ?_⟩ | refine ⟨⟨_, rfl, Wk.junk _⟩, ?_⟩)) (by repeat (first | exact trivial | refine ⟨rfl, ?_⟩)) rfl)
     ·simp [S.nat, fnd]; omega
    ·by_cases h2 : b.toNat = 95
     ·have hw2 := wdP_snoc hw hb (.inl (.inr h2))
      have h2a : ¬ 97 ≤ b.toNat := by omega
      have h2b : (b.toNat : Int) = 95 := by omega
      refine AW.seq ?_
      refine AW.seq ?_
      refine AW.region ?_
      refine AL.rp rfl rfl (rp_move rfl rfl) ?_
      refine AL.rp rfl rfl (rp_move rfl rfl) ?_
      (first | (refine AL.rp rfl rfl (rp_len_map Tryd.underlying9 rfl rfl (by assumption)) ?_) | (refine AL.rp rfl rfl (rp_len_own Tryd.underlying9 rfl rfl) ?_) | (refine AL.rp rfl rfl (rp_len_sl Tryd.underlying9 rfl rfl) ?_) | (refine AL.rp rfl rfl (rp_len_nil Tryd.underlying9 rfl rfl) ?_) | (refine AL.rp rfl rfl (rp_len_str Tryd.underlying9 rfl rfl) ?_))
      (first | (refine AL.rp rfl rfl (rp_lssT rfl rfl rfl (by first | assumption | omega | (dsimp only; omega))) ?_) | (refine AL.rp rfl rfl (rp_lssF rfl rfl rfl (by first | assumption | omega | (dsimp only; omega))) ?_) | (refine AL.rp rfl rfl (rp_lss rfl rfl rfl) ?_))
      refine AL.nil ?_
      try simp only [thenS, S.put]
      refine AW.condT rfl ?_
      refine AW.skip ?_
      try simp only [thenS]
      refine AW.seq ?_
      refine AW.block ?_
      refine AW.seq ?_
      refine AW.region ?_
      refine AL.rp rfl rfl (rp_move rfl rfl) ?_
      refine AL.rp rfl rfl (rp_move rfl rfl) ?_
      refine AL.rp rfl rfl (rp_index_str Tryd.underlying9 rfl rfl rfl (by first | rfl | omega) (by assumption)) ?_
      refine AL.rp rfl rfl (rp_assign rfl rfl) ?_
      refine AL.nil ?_
      try simp only [thenS, S.put]
      refine AW.seq ?_
      refine AW.region ?_
      refine AL.rp rfl rfl (rp_move rfl rfl) ?_
      (first | (refine AL.rp rfl rfl (rp_geqT rfl rfl rfl (by first | assumption | omega | (dsimp only; omega))) ?_) | (refine AL.rp rfl rfl (rp_geqF rfl rfl rfl (by first | assumption | omega | (dsimp only; omega))) ?_) | (refine AL.rp rfl rfl (rp_geq rfl rfl rfl) ?_))
      refine AL.rp rfl rfl (rp_move rfl rfl) ?_
      (first | (refine AL.noV rfl rfl rfl rfl ?_) | (refine AL.noU rfl ⟨_, rfl, rfl⟩ rfl ?_) | (refine AL.rpy rfl rfl rfl (rp_move rfl rfl) ?_))
      (first | (refine AL.noV rfl rfl rfl rfl ?_) | (refine AL.noU rfl ⟨_, rfl, rfl⟩ rfl ?_) | (refine AL.rpy rfl rfl rfl (rp_leqT rfl rfl rfl (by first | assumption | omega | (dsimp only; omega))) ?_) | (refine AL.rpy rfl rfl rfl (rp_leqF rfl rfl rfl (by first | assumption | omega | (dsimp only; omega))) ?_) | (refine AL.rpy rfl rfl rfl (rp_leq rfl rfl rfl) ?_))
      refine AL.rp rfl rfl (rp_pick rfl rfl rfl) ?_
      refine AL.rp rfl rfl (rp_not rfl rfl) ?_
      refine AL.rp rfl rfl (rp_move rfl rfl) ?_
      (first | (refine AL.noV rfl rfl rfl rfl ?_) | (refine AL.noU rfl ⟨_, rfl, rfl⟩ rfl ?_) | (refine AL.rpy rfl rfl rfl (rp_move rfl rfl) ?_))
      (first | (refine AL.noV rfl rfl rfl rfl ?_) | (refine AL.noU rfl ⟨_, rfl, rfl⟩ rfl ?_) | (refine AL.rpy rfl rfl rfl (rp_neqT rfl rfl rfl (by first | assumption | omega | (dsimp only; omega))) ?_) | (refine AL.rpy rfl rfl rfl (rp_neqF rfl rfl rfl (by first | assumption | omega | (dsimp only; omega))) ?_) | (refine AL.rpy rfl rfl rfl (rp_neq rfl rfl rfl) ?_))
      refine AL.rp rfl rfl (rp_pick rfl rfl rfl) ?_
      refine AL.rp rfl rfl (rp_move rfl rfl) ?_
      (first | (refine AL.noV rfl rfl rfl rfl ?_) | (refine AL.noU rfl ⟨_, rfl, rfl⟩ rfl ?_) | (refine AL.rpy rfl rfl rfl (rp_move rfl rfl) ?_))
      (first | (refine AL.no rfl rfl rfl rfl ?_) | (refine AL.noU rfl ⟨_, rfl, rfl⟩ rfl ?_) | (refine AL.cally (post := ?pc5) rfl rfl (sm_call (args := [_]) ?hc5 ⟨Tryd.func58, rfl, rfl, rfl, rfl⟩ rfl rfl rfl rfl) ?_; (case hc5 => (first | (refine Fn.decT (am_Digit _) ?_; omega) | (refine Fn.decF (am_Digit _) ?_; omega) | exact am_Digit _)); rintro _ rfl -; try dsimp only))
      (first | (refine AL.noV rfl rfl rfl rfl ?_) | (refine AL.noU rfl ⟨_, rfl, rfl⟩ rfl ?_) | (refine AL.rpy rfl rfl rfl (rp_not rfl rfl) ?_))
      refine AL.rp rfl rfl (rp_pick rfl rfl rfl) ?_
      refine AL.nil ?_
      try simp only [thenS, S.put, S.newObj, setL, V.cs, List.length_cons, List.length_nil, List.take_succ_cons, List.take_zero, List.drop_succ_cons, List.drop_zero, List.drop_nil, List.nil_append, List.cons_append, List.append_nil, Nat.zero_add, Nat.reduceAdd, List.map_cons, List.map_nil, List.set_cons_zero, List.set_cons_succ]
      refine AW.condF rfl ?_
      refine AW.skip ?_
      try simp only [thenS]
      refine AW.region ?_
      refine AL.rp rfl rfl (rp_move rfl rfl) ?_
      refine AL.rp rfl rfl (rp_add rfl rfl rfl (by first | omega | (dsimp only; omega))) ?_
      refine AL.rp rfl rfl (rp_assign rfl rfl) ?_
      refine AL.nil ?_
      try simp only [thenS, S.put]
      -- left over: 
      refine ⟨_, ?_, ⟨k + 1, by omega, hw2, rfl⟩, ?_⟩
      ·exact (Less.of rfl (by repeat (first | exact trivial | refine ⟨⟨_, rfl, Wk.refl _⟩, ?_⟩ | refine ⟨⟨_, rfl, Wk.nil _ _⟩, ?_⟩ | refine ⟨⟨_, rfl, Wk.junk _⟩, ?_⟩)) (by repeat (first | exact trivial | refine ⟨rfl, ?_⟩)) rfl)
      ·simp [S.nat, fnd]; omega
     ·by_cases h3 : 48 ≤ b.toNat ∧ b.toNat ≤ 57
      ·have hk0 : 0 < k := by
        rcases Nat.eq_zero_or_pos k with h0 | h0
        ·subst h0
         rw [hb0] at hb
         cases hb
         exact absurd h3 hd0
        ·exact h0
       have hw2 := wdP_snoc hw hb (.inr ⟨h3, hk0⟩)
       have h3a : ¬ 97 ≤ b.toNat := by omega
       have h3b : ¬ (b.toNat : Int) = 95 := by omega
       refine AW.seq ?_
       refine AW.seq ?_
       refine AW.region ?_
       refine AL.rp rfl rfl (rp_move rfl rfl) ?_
       refine AL.rp rfl rfl (rp_move rfl rfl) ?_
       (first | (refine AL.rp rfl rfl (rp_len_map Tryd.underlying9 rfl rfl (by assumption)) ?_) | (refine AL.rp rfl rfl (rp_len_own Tryd.underlying9 rfl rfl) ?_) | (refine AL.rp rfl rfl (rp_len_sl Tryd.underlying9 rfl rfl) ?_) | (refine AL.rp rfl rfl (rp_len_nil Tryd.underlying9 rfl rfl) ?_) | (refine AL.rp rfl rfl (rp_len_str Tryd.underlying9 rfl rfl) ?_))
       (first | (refine AL.rp rfl rfl (rp_lssT rfl rfl rfl (by first | assumption | omega | (dsimp only; omega))) ?_) | (refine AL.rp rfl rfl (rp_lssF rfl rfl rfl (by first | assumption | omega | (dsimp only; omega))) ?_) | (refine AL.rp rfl rfl (rp_lss rfl rfl rfl) ?_))
       refine AL.nil ?_
       try simp only [thenS, S.put]
       refine AW.condT rfl ?_
       refine AW.skip ?_
       try simp only [thenS]
       refine AW.seq ?_
       refine AW.block ?_
       refine AW.seq ?_
       refine AW.region ?_
       refine AL.rp rfl rfl (rp_move rfl rfl) ?_
       refine AL.rp rfl rfl (rp_move rfl rfl) ?_
       refine AL.rp rfl rfl (rp_index_str Tryd.underlying9 rfl rfl rfl (by first | rfl | omega) (by assumption)) ?_
       refine AL.rp rfl rfl (rp_assign rfl rfl) ?_
       refine AL.nil ?_
       try simp only [thenS, S.put]
       refine AW.seq ?_
       refine AW.region ?_
       refine AL.rp rfl rfl (rp_move rfl rfl) ?_
       (first | (refine AL.rp rfl rfl (rp_geqT rfl rfl rfl (by first | assumption | omega | (dsimp only; omega))) ?_) | (refine AL.rp rfl rfl (rp_geqF rfl rfl rfl (by first | assumption | omega | (dsimp only; omega))) ?_) | (refine AL.rp rfl rfl (rp_geq rfl rfl rfl) ?_))
       refine AL.rp rfl rfl (rp_move rfl rfl) ?_
       (first | (refine AL.noV rfl rfl rfl rfl ?_) | (refine AL.noU rfl ⟨_, rfl, rfl⟩ rfl ?_) | (refine AL.rpy rfl rfl rfl (rp_move rfl rfl) ?_))
       (first | (refine AL.noV rfl rfl rfl rfl ?_) | (refine AL.noU rfl ⟨_, rfl, rfl⟩ rfl ?_) | (refine AL.rpy rfl rfl rfl (rp_leqT rfl rfl rfl (by first | assumption | omega | (dsimp only; omega))) ?_) | (refine AL.rpy rfl rfl rfl (rp_leqF rfl rfl rfl (by first | assumption | omega | (dsimp only; omega))) ?_) | (refine AL.rpy rfl rfl rfl (rp_leq rfl rfl rfl) ?_))
       refine AL.rp rfl rfl (rp_pick rfl rfl rfl) ?_
       refine AL.rp rfl rfl (rp_not rfl rfl) ?_
       refine AL.rp rfl rfl (rp_move rfl rfl) ?_
       (first | (refine AL.noV rfl rfl rfl rfl ?_) | (refine AL.noU rfl ⟨_, rfl, rfl⟩ rfl ?_) | (refine AL.rpy rfl rfl rfl (rp_move rfl rfl) ?_))
       (first | (refine AL.noV rfl rfl rfl rfl ?_) | (refine AL.noU rfl ⟨_, rfl, rfl⟩ rfl ?_) | (refine AL.rpy rfl rfl rfl (rp_neqT rfl rfl rfl (by first | assumption | omega | (dsimp only; omega))) ?_) | (refine AL.rpy rfl rfl rfl (rp_neqF rfl rfl rfl (by first | assumption | omega | (dsimp only; omega))) ?_) | (refine AL.rpy rfl rfl rfl (rp_neq rfl rfl rfl) ?_))
       refine AL.rp rfl rfl (rp_pick rfl rfl rfl) ?_
       refine AL.rp rfl rfl (rp_move rfl rfl) ?_
       (first | (refine AL.noV rfl rfl rfl rfl ?_) | (refine AL.noU rfl ⟨_, rfl, rfl⟩ rfl ?_) | (refine AL.rpy rfl rfl rfl (rp_move rfl rfl) ?_))
       (first | (refine AL.no rfl rfl rfl rfl ?_) | (refine AL.noU rfl ⟨_, rfl, rfl⟩ rfl ?_) | (refine AL.cally (post := ?pc6) rfl rfl (sm_call (args := [_]) ?hc6 ⟨Tryd.func58, rfl, rfl, rfl, rfl⟩ rfl rfl rfl rfl) ?_; (case hc6 => (first | (refine Fn.decT (am_Digit _) ?_; omega) | (refine Fn.decF (am_Digit _) ?_; omega) | exact am_Digit _)); rintro _ rfl -; try dsimp only))
       (first | (refine AL.noV rfl rfl rfl rfl ?_) | (refine AL.noU rfl ⟨_, rfl, rfl⟩ rfl ?_) | (refine AL.rpy rfl rfl rfl (rp_not rfl rfl) ?_))
       refine AL.rp rfl rfl (rp_pick rfl rfl rfl) ?_
       refine AL.nil ?_
       try simp only [thenS, S.put, S.newObj, setL, V.cs, List.length_cons, List.length_nil, List.take_succ_cons, List.take_zero, List.drop_succ_cons, List.drop_zero, List.drop_nil, List.nil_append, List.cons_append, List.append_nil, Nat.zero_add, Nat.reduceAdd, List.map_cons, List.map_nil, List.set_cons_zero, List.set_cons_succ]
       refine AW.condF rfl ?_
       refine AW.skip ?_
       try simp only [thenS]
       refine AW.region ?_
       refine AL.rp rfl rfl (rp_move rfl rfl) ?_
       refine AL.rp rfl rfl (rp_add rfl rfl rfl (by first | omega | (dsimp only; omega))) ?_
       refine AL.rp rfl rfl (rp_assign rfl rfl) ?_
       refine AL.nil ?_
       try simp only [thenS, S.put]
       -- left over: 
       refine ⟨_, ?_, ⟨k + 1, by omega, hw2, rfl⟩, ?_⟩
       ·exact (Less.of rfl (by repeat (first | exact trivial | refine ⟨⟨_, rfl, Wk.refl _⟩, ?_⟩ | refine ⟨⟨_, rfl, Wk.nil _ _⟩, ?_⟩ | refine ⟨⟨_, rfl, Wk.junk _⟩, ?_⟩)) (by repeat (first | exact trivial | refine ⟨rfl, ?_⟩)) rfl)
       ·simp [S.nat, fnd]; omega
      ·have hR : nmB l = false := wdP_no hb (by unfold chLet chDig; omega)
       rw [hR]
       by_cases h4 : 97 ≤ b.toNat
       ·have h4b : ¬ b.toNat ≤ 122 := by omega
        refine AW.seq ?_
        refine AW.seq ?_
        refine AW.region ?_
        refine AL.rp rfl rfl (rp_move rfl rfl) ?_
        refine AL.rp rfl rfl (rp_move rfl rfl) ?_
        (first | (refine AL.rp rfl rfl (rp_len_map Tryd.underlying9 rfl rfl (by assumption)) ?_) | (refine AL.rp rfl rfl (rp_len_own Tryd.underlying9 rfl rfl) ?_) | (refine AL.rp rfl rfl (rp_len_sl Tryd.underlying9 rfl rfl) ?_) | (refine AL.rp rfl rfl (rp_len_nil Tryd.underlying9 rfl rfl) ?_) | (refine AL.rp rfl rfl (rp_len_str Tryd.underlying9 rfl rfl) ?_))
        (first | (refine AL.rp rfl rfl (rp_lssT rfl rfl rfl (by first | assumption | omega | (dsimp only; omega))) ?_) | (refine AL.rp rfl rfl (rp_lssF rfl rfl rfl (by first | assumption | omega | (dsimp only; omega))) ?_) | (refine AL.rp rfl rfl (rp_lss rfl rfl rfl) ?_))
        refine AL.nil ?_
        try simp only [thenS, S.put]
        refine AW.condT rfl ?_
        refine AW.skip ?_
        try simp only [thenS]
        refine AW.seq ?_
        refine AW.block ?_
        refine AW.seq ?_
        refine AW.region ?_
        refine AL.rp rfl rfl (rp_move rfl rfl) ?_
        refine AL.rp rfl rfl (rp_move rfl rfl) ?_
        refine AL.rp rfl rfl (rp_index_str Tryd.underlying9 rfl rfl rfl (by first | rfl | omega) (by assumption)) ?_
        refine AL.rp rfl rfl (rp_assign rfl rfl) ?_
        refine AL.nil ?_
        try simp only [thenS, S.put]
        refine AW.seq ?_
        refine AW.region ?_
        refine AL.rp rfl rfl (rp_move rfl rfl) ?_
        (first | (refine AL.rp rfl rfl (rp_geqT rfl rfl rfl (by first | assumption | omega | (dsimp only; omega))) ?_) | (refine AL.rp rfl rfl (rp_geqF rfl rfl rfl (by first | assumption | omega | (dsimp only; omega))) ?_) | (refine AL.rp rfl rfl (rp_geq rfl rfl rfl) ?_))
        refine AL.rp rfl rfl (rp_move rfl rfl) ?_
        (first | (refine AL.noV rfl rfl rfl rfl ?_) | (refine AL.noU rfl ⟨_, rfl, rfl⟩ rfl ?_) | (refine AL.rpy rfl rfl rfl (rp_move rfl rfl) ?_))
        (first | (refine AL.noV rfl rfl rfl rfl ?_) | (refine AL.noU rfl ⟨_, rfl, rfl⟩ rfl ?_) | (refine AL.rpy rfl rfl rfl (rp_leqT rfl rfl rfl (by first | assumption | omega | (dsimp only; omega))) ?_) | (refine AL.rpy rfl rfl rfl (rp_leqF rfl rfl rfl (by first | assumption | omega | (dsimp only; omega))) ?_) | (refine AL.rpy rfl rfl rfl (rp_leq rfl rfl rfl) ?_))
        refine AL.rp rfl rfl (rp_pick rfl rfl rfl) ?_
        refine AL.rp rfl rfl (rp_not rfl rfl) ?_
        refine AL.rp rfl rfl (rp_move rfl rfl) ?_
        (first | (refine AL.noV rfl rfl rfl rfl ?_) | (refine AL.noU rfl ⟨_, rfl, rfl⟩ rfl ?_) | (refine AL.rpy rfl rfl rfl (rp_move rfl rfl) ?_))
        (first | (refine AL.noV rfl rfl rfl rfl ?_) | (refine AL.noU rfl ⟨_, rfl, rfl⟩ rfl ?_) | (refine AL.rpy rfl rfl rfl (rp_neqT rfl rfl rfl (by first | assumption | omega | (dsimp only; omega))) ?_) | (refine AL.rpy rfl rfl rfl (rp_neqF rfl rfl rfl (by first | assumption | omega | (dsimp only; omega))) ?_) | (refine AL.rpy rfl rfl rfl (rp_neq rfl rfl rfl) ?_))
        refine AL.rp rfl rfl (rp_pick rfl rfl rfl) ?_
        refine AL.rp rfl rfl (rp_move rfl rfl) ?_
        (first | (refine AL.noV rfl rfl rfl rfl ?_) | (refine AL.noU rfl ⟨_, rfl, rfl⟩ rfl ?_) | (refine AL.rpy rfl rfl rfl (rp_move rfl rfl) ?_))
        (first | (refine AL.no rfl rfl rfl rfl ?_) | (refine AL.noU rfl ⟨_, rfl, rfl⟩ rfl ?_) | (refine AL.cally (post := ?pc7) rfl rfl (sm_call (args := [_]) ?hc7 ⟨Tryd.func58, rfl, rfl, rfl, rfl⟩ rfl rfl rfl rfl) ?_; (case hc7 => (first | (refine Fn.decT (am_Digit _) ?_; omega) | (refine Fn.decF (am_Digit _) ?_; omega) | exact am_Digit _)); rintro _ rfl -; try dsimp only))
        (first | (refine AL.noV rfl rfl rfl rfl ?_) | (refine AL.noU rfl ⟨_, rfl, rfl⟩ rfl ?_) | (refine AL.rpy rfl rfl rfl (rp_not rfl rfl) ?_))
        refine AL.rp rfl rfl (rp_pick rfl rfl rfl) ?_
        refine AL.nil ?_
        try simp only [thenS, S.put, S.newObj, setL, V.cs, List.length_cons, List.length_nil, List.take_succ_cons, List.take_zero, List.drop_succ_cons, List.drop_zero, List.drop_nil, List.nil_append, List.cons_append, List.append_nil, Nat.zero_add, Nat.reduceAdd, List.map_cons, List.map_nil, List.set_cons_zero, List.set_cons_succ]
        refine AW.condT rfl ?_
        refine AW.seq ?_
        refine AW.region ?_
        refine AL.rp rfl rfl (rp_assign rfl rfl) ?_
        refine AL.nil ?_
        try simp only [thenS, S.put]
        refine AW.ret ?_
        -- left over: 
        exact ⟨[_], ⟨rfl, trivial⟩, rfl, by simp [tupOf, V.pure, V.has, V.hasL]⟩
       ·skip
        refine AW.seq ?_
        refine AW.seq ?_
        refine AW.region ?_
        refine AL.rp rfl rfl (rp_move rfl rfl) ?_
        refine AL.rp rfl rfl (rp_move rfl rfl) ?_
        (first | (refine AL.rp rfl rfl (rp_len_map Tryd.underlying9 rfl rfl (by assumption)) ?_) | (refine AL.rp rfl rfl (rp_len_own Tryd.underlying9 rfl rfl) ?_) | (refine AL.rp rfl rfl (rp_len_sl Tryd.underlying9 rfl rfl) ?_) | (refine AL.rp rfl rfl (rp_len_nil Tryd.underlying9 rfl rfl) ?_) | (refine AL.rp rfl rfl (rp_len_str Tryd.underlying9 rfl rfl) ?_))
        (first | (refine AL.rp rfl rfl (rp_lssT rfl rfl rfl (by first | assumption | omega | (dsimp only; omega))) ?_) | (refine AL.rp rfl rfl (rp_lssF rfl rfl rfl (by first | assumption | omega | (dsimp only; omega))) ?_) | (refine AL.rp rfl rfl (rp_lss rfl rfl rfl) ?_))
        refine AL.nil ?_
        try simp only [thenS, S.put]
        refine AW.condT rfl ?_
        refine AW.skip ?_
        try simp only [thenS]
        refine AW.seq ?_
        refine AW.block ?_
        refine AW.seq ?_
        refine AW.region ?_
        refine AL.rp rfl rfl (rp_move rfl rfl) ?_
        refine AL.rp rfl rfl (rp_move rfl rfl) ?_
        refine AL.rp rfl rfl (rp_index_str Tryd.underlying9 rfl rfl rfl (by first | rfl | omega) (by assumption)) ?_
        refine AL.rp rfl rfl (rp_assign rfl rfl) ?_
        refine AL.nil ?_
        try simp only [thenS, S.put]
        refine AW.seq ?_
        refine AW.region ?_
        refine AL.rp rfl rfl (rp_move rfl rfl) ?_
        (first | (refine AL.rp rfl rfl (rp_geqT rfl rfl rfl (by first | assumption | omega | (dsimp only; omega))) ?_) | (refine AL.rp rfl rfl (rp_geqF rfl rfl rfl (by first | assumption | omega | (dsimp only; omega))) ?_) | (refine AL.rp rfl rfl (rp_geq rfl rfl rfl) ?_))
        refine AL.rp rfl rfl (rp_move rfl rfl) ?_
        (first | (refine AL.noV rfl rfl rfl rfl ?_) | (refine AL.noU rfl ⟨_, rfl, rfl⟩ rfl ?_) | (refine AL.rpy rfl rfl rfl (rp_move rfl rfl) ?_))
        (first | (refine AL.noV rfl rfl rfl rfl ?_) | (refine AL.noU rfl ⟨_, rfl, rfl⟩ rfl ?_) | (refine AL.rpy rfl rfl rfl (rp_leqT rfl rfl rfl (by first | assumption | omega | (dsimp only; omega))) ?_) | (refine AL.rpy rfl rfl rfl (rp_leqF rfl rfl rfl (by first | assumption | omega | (dsimp only; omega))) ?_) | (refine AL.rpy rfl rfl rfl (rp_leq rfl rfl rfl) ?_))
        refine AL.rp rfl rfl (rp_pick rfl rfl rfl) ?_
        refine AL.rp rfl rfl (rp_not rfl rfl) ?_
        refine AL.rp rfl rfl (rp_move rfl rfl) ?_
        (first | (refine AL.noV rfl rfl rfl rfl ?_) | (refine AL.noU rfl ⟨_, rfl, rfl⟩ rfl ?_) | (refine AL.rpy rfl rfl rfl (rp_move rfl rfl) ?_))
        (first | (refine AL.noV rfl rfl rfl rfl ?_) | (refine AL.noU rfl ⟨_, rfl, rfl⟩ rfl ?_) | (refine AL.rpy rfl rfl rfl (rp_neqT rfl rfl rfl (by first | assumption | omega | (dsimp only; omega))) ?_) | (refine AL.rpy rfl rfl rfl (rp_neqF rfl rfl rfl (by first | assumption | omega | (dsimp only; omega))) ?_) | (refine AL.rpy rfl rfl rfl (rp_neq rfl rfl rfl) ?_))
        refine AL.rp rfl rfl (rp_pick rfl rfl rfl) ?_
        refine AL.rp rfl rfl (rp_move rfl rfl) ?_
        (first | (refine AL.noV rfl rfl rfl rfl ?_) | (refine AL.noU rfl ⟨_, rfl, rfl⟩ rfl ?_) | (refine AL.rpy rfl rfl rfl (rp_move rfl rfl) ?_))
        (first | (refine AL.no rfl rfl rfl rfl ?_) | (refine AL.noU rfl ⟨_, rfl, rfl⟩ rfl ?_) | (refine AL.cally (post := ?pc8) rfl rfl (sm_call (args := [_]) ?hc8 ⟨Tryd.func58, rfl, rfl, rfl, rfl⟩ rfl rfl rfl rfl) ?_; (case hc8 => (first | (refine Fn.decT (am_Digit _) ?_; omega) | (refine Fn.decF (am_Digit _) ?_; omega) | exact am_Digit _)); rintro _ rfl -; try dsimp only))
        (first | (refine AL.noV rfl rfl rfl rfl ?_) | (refine AL.noU rfl ⟨_, rfl, rfl⟩ rfl ?_) | (refine AL.rpy rfl rfl rfl (rp_not rfl rfl) ?_))
        refine AL.rp rfl rfl (rp_pick rfl rfl rfl) ?_
        refine AL.nil ?_
        try simp only [thenS, S.put, S.newObj, setL, V.cs, List.length_cons, List.length_nil, List.take_succ_cons, List.take_zero, List.drop_succ_cons, List.drop_zero, List.drop_nil, List.nil_append, List.cons_append, List.append_nil, Nat.zero_add, Nat.reduceAdd, List.map_cons, List.map_nil, List.set_cons_zero, List.set_cons_succ]
        refine AW.condT rfl ?_
        refine AW.seq ?_
        refine AW.region ?_
        refine AL.rp rfl rfl (rp_assign rfl rfl) ?_
        refine AL.nil ?_
        try simp only [thenS, S.put]
        refine AW.ret ?_
        -- left over: 
        exact ⟨[_], ⟨rfl, trivial⟩, rfl, by simp [tupOf, V.pure, V.has, V.hasL]⟩
   ·obtain rfl : k = n := by omega
    have hR : nmB l = true := wdP_ok (by omega) (by omega) (by rw [hn]; exact hw)
    rw [hR]
    refine AW.seq ?_
    refine AW.seq ?_
    refine AW.region ?_
    refine AL.rp rfl rfl (rp_move rfl rfl) ?_
    refine AL.rp rfl rfl (rp_move rfl rfl) ?_
    (first | (refine AL.rp rfl rfl (rp_len_map Tryd.underlying9 rfl rfl (by assumption)) ?_) | (refine AL.rp rfl rfl (rp_len_own Tryd.underlying9 rfl rfl) ?_) | (refine AL.rp rfl rfl (rp_len_sl Tryd.underlying9 rfl rfl) ?_) | (refine AL.rp rfl rfl (rp_len_nil Tryd.underlying9 rfl rfl) ?_) | (refine AL.rp rfl rfl (rp_len_str Tryd.underlying9 rfl rfl) ?_))
    (first | (refine AL.rp rfl rfl (rp_lssT rfl rfl rfl (by first | assumption | omega | (dsimp only; omega))) ?_) | (refine AL.rp rfl rfl (rp_lssF rfl rfl rfl (by first | assumption | omega | (dsimp only; omega))) ?_) | (refine AL.rp rfl rfl (rp_lss rfl rfl rfl) ?_))
    refine AL.nil ?_
    try simp only [thenS, S.put]
    refine AW.condF rfl ?_
    refine AW.exit ?_
    try simp only [thenS, inBlockS, ↓reduceIte, Nat.reduceEqDiff]
    refine AW.seq ?_
    refine AW.region ?_
    refine AL.rp rfl rfl (rp_assign rfl rfl) ?_
    refine AL.nil ?_
    try simp only [thenS, S.put]
    refine AW.ret ?_
    exact ⟨[_], ⟨rfl, trivial⟩, rfl, by simp [tupOf, V.pure, V.has, V.hasL]⟩
 ·have hR : nmB l = false := nmB_false fun ⟨h1, h2, _⟩ => by omega
  rw [hR]
  refine Fn.intro (n := 39) ⟨Tryd.func37, rfl, rfl, rfl, rfl⟩ (by simp [V.pure, V.has, V.hasL]) (by simp) fun w0 out => ?_
  refine AW.seq ?_
  refine AW.region ?_
  refine AL.rp rfl rfl (rp_assign rfl rfl) ?_
  refine AL.nil ?_
  try simp only [thenS, S.put, enum, List.nil_append, List.cons_append, List.append_nil, Nat.zero_add, Nat.reduceAdd]
  refine AW.seq ?_
  refine AW.seq ?_
  refine AW.region ?_
  refine AL.rp rfl rfl (rp_move rfl rfl) ?_
  (first | (refine AL.rp rfl rfl (rp_len_map Tryd.underlying9 rfl rfl (by assumption)) ?_) | (refine AL.rp rfl rfl (rp_len_own Tryd.underlying9 rfl rfl) ?_) | (refine AL.rp rfl rfl (rp_len_sl Tryd.underlying9 rfl rfl) ?_) | (refine AL.rp rfl rfl (rp_len_nil Tryd.underlying9 rfl rfl) ?_) | (refine AL.rp rfl rfl (rp_len_str Tryd.underlying9 rfl rfl) ?_))
  refine AL.call (post := ?pc9) rfl (sm_call (args := [_, _, _]) ?hc9 ⟨Tryd.func36, rfl, rfl, rfl, rfl⟩ rfl rfl rfl rfl) ?_
  case hc9 => first | (refine Fn.decT (am_In _ _ _) ?_; omega) | (refine Fn.decF (am_In _ _ _) ?_; omega) | exact am_In _ _ _
  rintro _ rfl -
  try dsimp only
  refine AL.rp rfl rfl (rp_not rfl rfl) ?_
  refine AL.rp rfl rfl (rp_move rfl rfl) ?_
  (first | (refine AL.noV rfl rfl rfl rfl ?_) | (refine AL.noU rfl ⟨_, rfl, rfl⟩ rfl ?_) | (refine AL.rpy rfl rfl rfl (rp_move rfl rfl) ?_))
  (first | (refine AL.noV rfl rfl rfl rfl ?_) | (refine AL.noU rfl ⟨_, rfl, rfl⟩ rfl ?_) | (refine AL.rpy rfl rfl rfl (rp_index_str Tryd.underlying9 rfl rfl rfl (by first | rfl | omega) (by assumption)) ?_))
  (first | (refine AL.no rfl rfl rfl rfl ?_) | (refine AL.noU rfl ⟨_, rfl, rfl⟩ rfl ?_) | (refine AL.cally (post := ?pc10) rfl rfl (sm_call (args := [_]) ?hc10 ⟨Tryd.func58, rfl, rfl, rfl, rfl⟩ rfl rfl rfl rfl) ?_; (case hc10 => (first | (refine Fn.decT (am_Digit _) ?_; omega) | (refine Fn.decF (am_Digit _) ?_; omega) | exact am_Digit _)); rintro _ rfl -; try dsimp only))
  refine AL.rp rfl rfl (rp_pick rfl rfl rfl) ?_
  refine AL.nil ?_
  try simp only [thenS, S.put, S.newObj, setL, V.cs, List.length_cons, List.length_nil, List.take_succ_cons, List.take_zero, List.drop_succ_cons, List.drop_zero, List.drop_nil, List.nil_append, List.cons_append, List.append_nil, Nat.zero_add, Nat.reduceAdd, List.map_cons, List.map_nil, List.set_cons_zero, List.set_cons_succ]
  refine AW.condT rfl ?_
  refine AW.seq ?_
  refine AW.region ?_
  refine AL.rp rfl rfl (rp_assign rfl rfl) ?_
  refine AL.nil ?_
  try simp only [thenS, S.put]
  refine AW.ret ?_
  -- left over: 
  exact ⟨[_], ⟨rfl, trivial⟩, rfl, by simp [tupOf, V.pure, V.has, V.hasL]⟩
end Go.Proofs.YtbffolmgkkknpaaDoor

namespace Go.Proofs.YtbffolmgkkknpaaDoor
open Go.RowKit
set_option linter.unusedSimpArgs false
set_option linter.unusedVariables false
set_option maxRecDepth 100000

structure Stp where
  k : Int
  t : Int
  a : Int
  b : Int
  n : ByteArray
deriving DecidableEq
instance : Inhabited Stp := ⟨⟨0, 0, 0, 0, ⟨#[]⟩⟩⟩
def stpD (x : Stp) : List D := [.p (.int .i64 x.k), .p (.int .i64 x.t), .p (.int .i64 x.a), .p (.int .i64 x.b), .p (.string x.n)]
def stpsD (l : List Stp) : D := .sl 5 48 (l.map stpD)
/-- The words of the kinds, and what stands behind them. -/
def wds : List ByteArray := [⟨#[108, 111, 97, 100]⟩, ⟨#[117, 110, 105, 111, 110]⟩, ⟨#[99, 111, 110, 99, 97, 116]⟩, ⟨#[115, 116, 97, 114]⟩, ⟨#[105, 110, 118, 101, 114, 116]⟩, ⟨#[114, 101, 97, 100, 115]⟩, ⟨#[119, 114, 105, 116, 101, 115]⟩, ⟨#[114, 101, 118, 101, 114, 115, 101]⟩, ⟨#[99, 111, 109, 112, 111, 115, 101]⟩, ⟨#[116, 114, 105, 109]⟩, ⟨#[115, 111, 114, 116]⟩, ⟨#[114, 101, 109, 111, 118, 101]⟩, ⟨#[99, 101, 114, 116, 97, 105, 110]⟩, ⟨#[108, 101, 97, 115, 116]⟩, ⟨#[115, 97, 118, 101]⟩]
def pts : List Nat := [0, 1, 1, 2, 2, 2, 2, 2, 1, 2, 2, 2, 2, 2, 3]
def wdK (k : Nat) : ByteArray := wds.getD (k - 1) ⟨#[]⟩
def ptK (k : Nat) : Nat := pts.getD (k - 1) 0
def arK (p : Nat) : ByteArray := match p with
  | 0 => ⟨#[116, 110]⟩
  | 1 => ⟨#[116, 97, 98]⟩
  | 2 => ⟨#[116, 97]⟩
  | _ => ⟨#[97, 110]⟩
def hasT (p : Nat) : Bool := p != 3
def hasA (p : Nat) : Bool := p != 0
def hasB (p : Nat) : Bool := p == 1
def hasN (p : Nat) : Bool := p == 0 || p == 3
def rgOk (r : Int) : Prop := 0 ≤ r ∧ r ≤ 25
instance (r : Int) : Decidable (rgOk r) := by unfold rgOk; infer_instance
/-- A blank and a register's letter. -/
def ltR (r : Int) : ByteArray := ⟨#[32]⟩ ++ ⟨#[UInt8.ofNat (97 + r.toNat)]⟩
def lnK (k : Nat) (x : Stp) : ByteArray :=
  let l := wdK k
  let l := if hasT (ptK k) then l ++ ltR x.t else l
  let l := if hasA (ptK k) then l ++ ltR x.a else l
  let l := if hasB (ptK k) then l ++ ltR x.b else l
  let l := if hasN (ptK k) then l ++ (⟨#[32]⟩ ++ x.n) else l
  l ++ ⟨#[10]⟩
def badR (p : Nat) (x : Stp) : Prop := (hasT p = true ∧ ¬ rgOk x.t) ∨ (hasA p = true ∧ ¬ rgOk x.a) ∨ (hasB p = true ∧ ¬ rgOk x.b)
def badN (p : Nat) (x : Stp) : Prop := hasN p = true ∧ nmB x.n.data.toList = false
def badF (p : Nat) (x : Stp) : Prop := (hasT p = false ∧ x.t ≠ 0) ∨ (hasA p = false ∧ x.a ≠ 0) ∨ (hasB p = false ∧ x.b ≠ 0) ∨ (hasN p = false ∧ x.n ≠ ⟨#[]⟩)
open Classical in
noncomputable def stE (x : Stp) : Int := if ¬ (1 ≤ x.k ∧ x.k ≤ 15) then 14 else if badR (ptK x.k.toNat) x then 2 else if badN (ptK x.k.toNat) x then 9 else if badF (ptK x.k.toNat) x then 3 else 0
noncomputable def stS (x : Stp) : ByteArray := if stE x = 0 then lnK x.k.toNat x else ⟨#[]⟩
theorem stE_kind {x : Stp} (h : ¬ (1 ≤ x.k ∧ x.k ≤ 15)) : stE x = 14 := by unfold stE; rw [if_pos h]
theorem stE_r {x : Stp} {k p : Nat} (hk : x.k = k) (h1 : 1 ≤ k) (h2 : k ≤ 15) (hp : ptK k = p) (h : badR p x) : stE x = 2 := by
  unfold stE
  have e : x.k.toNat = k := by omega
  rw [if_neg (by omega), e, hp, if_pos h]
theorem stE_n {x : Stp} {k p : Nat} (hk : x.k = k) (h1 : 1 ≤ k) (h2 : k ≤ 15) (hp : ptK k = p) (hr : ¬ badR p x) (h : badN p x) : stE x = 9 := by
  unfold stE
  have e : x.k.toNat = k := by omega
  rw [if_neg (by omega), e, hp, if_neg hr, if_pos h]
theorem stE_f {x : Stp} {k p : Nat} (hk : x.k = k) (h1 : 1 ≤ k) (h2 : k ≤ 15) (hp : ptK k = p) (hr : ¬ badR p x) (hn : ¬ badN p x) (h : badF p x) : stE x = 3 := by
  unfold stE
  have e : x.k.toNat = k := by omega
  rw [if_neg (by omega), e, hp, if_neg hr, if_neg hn, if_pos h]
theorem stE_ok {x : Stp} {k p : Nat} (hk : x.k = k) (h1 : 1 ≤ k) (h2 : k ≤ 15) (hp : ptK k = p) (hr : ¬ badR p x) (hn : ¬ badN p x) (h : ¬ badF p x) : stE x = 0 := by
  unfold stE
  have e : x.k.toNat = k := by omega
  rw [if_neg (by omega), e, hp, if_neg hr, if_neg hn, if_neg h]
theorem ptK_lt : ∀ k, k < 16 → ptK k < 4 := by decide
theorem wdK_size : ∀ k, k < 16 → (wdK k).size ≤ 7 := by decide
theorem wdK_pos : ∀ k, k < 16 → 1 ≤ k → 0 < (wdK k).size := by decide

def fldS (x : Stp) (c : Nat) : Int := if c = 116 then x.t else if c = 97 then x.a else x.b
def zerS (x : Stp) (c : Nat) : Stp := if c = 116 then { x with t := 0 } else if c = 97 then { x with a := 0 } else { x with b := 0 }
/-- What the program does with a step, letter by letter: what is wrong, the text, what is left of the step. -/
noncomputable def proc (x : Stp) : List UInt8 → ByteArray → Stp → Int × ByteArray × Stp
  | [], L, R => (0, L, R)
  | c :: ls, L, R => if c.toNat = 110 then (if nmB x.n.data.toList = true then proc x ls (L ++ (⟨#[32]⟩ ++ x.n)) { R with n := ⟨#[]⟩ } else (9, L, R)) else if rgOk (fldS x c.toNat) then proc x ls (L ++ ltR (fldS x c.toNat)) (zerS R c.toNat) else (2, L, R)
theorem proc_n {x : Stp} {c : UInt8} {ls : List UInt8} {L : ByteArray} {R : Stp} (hc : c.toNat = 110) (h : nmB x.n.data.toList = true) : proc x (c :: ls) L R = proc x ls (L ++ (⟨#[32]⟩ ++ x.n)) { R with n := ⟨#[]⟩ } := by
  rw [proc, if_pos hc, if_pos h]
theorem proc_nF {x : Stp} {c : UInt8} {ls : List UInt8} {L : ByteArray} {R : Stp} (hc : c.toNat = 110) (h : nmB x.n.data.toList = false) : proc x (c :: ls) L R = (9, L, R) := by
  rw [proc, if_pos hc, if_neg (by rw [h]; simp)]
theorem proc_r {x : Stp} {c : UInt8} {ls : List UInt8} {L : ByteArray} {R : Stp} (hc : c.toNat ≠ 110) (h : rgOk (fldS x c.toNat)) : proc x (c :: ls) L R = proc x ls (L ++ ltR (fldS x c.toNat)) (zerS R c.toNat) := by
  rw [proc, if_neg hc, if_pos h]
theorem proc_rF {x : Stp} {c : UInt8} {ls : List UInt8} {L : ByteArray} {R : Stp} (hc : c.toNat ≠ 110) (h : ¬ rgOk (fldS x c.toNat)) : proc x (c :: ls) L R = (2, L, R) := by
  rw [proc, if_neg hc, if_neg h]
open Classical in
/-- What the program then answers. -/
noncomputable def prR (r : Int × ByteArray × Stp) : ByteArray × Int := if r.1 = 0 then (if r.2.2 = ⟨0, 0, 0, 0, ⟨#[]⟩⟩ then (r.2.1 ++ ⟨#[10]⟩, 0) else (⟨#[]⟩, 3)) else (⟨#[]⟩, r.1)
theorem prR_err {e : Int} {L : ByteArray} {R : Stp} (h : e ≠ 0) : prR (e, L, R) = (⟨#[]⟩, e) := by unfold prR; rw [if_neg h]
theorem prR_ok {L : ByteArray} {R : Stp} (h : R = ⟨0, 0, 0, 0, ⟨#[]⟩⟩) : prR (0, L, R) = (L ++ ⟨#[10]⟩, 0) := by unfold prR; rw [if_pos rfl, if_pos h]
theorem prR_form {L : ByteArray} {R : Stp} (h : R ≠ ⟨0, 0, 0, 0, ⟨#[]⟩⟩) : prR (0, L, R) = (⟨#[]⟩, 3) := by unfold prR; rw [if_pos rfl, if_neg h]
theorem arK_let : ∀ p, p < 4 → ∀ b ∈ (arK p).data.toList, b.toNat = 110 ∨ b.toNat = 116 ∨ b.toNat = 97 ∨ b.toNat = 98 := by decide
theorem arK_len : ∀ p, p < 4 → (arK p).data.toList.length ≤ 3 := by decide
theorem ar0 : (arK 0).data.toList = [116, 110] := rfl
theorem ar1 : (arK 1).data.toList = [116, 97, 98] := rfl
theorem ar2 : (arK 2).data.toList = [116, 97] := rfl
theorem ar3 : (arK 3).data.toList = [97, 110] := rfl
set_option maxHeartbeats 2000000 in
theorem prR_spec0 (x : Stp) (k : Nat) (hk : x.k = k) (h1 : 1 ≤ k) (h2 : k ≤ 15) (hp : ptK k = 0) : prR (proc x (arK 0).data.toList (wdK k) { x with k := 0 }) = (stS x, stE x) := by
  have hkt : x.k.toNat = k := by omega
  have key : ∀ e, stE x = e → e ≠ 0 → stS x = ⟨#[]⟩ := fun e he hn => by unfold stS; rw [he, if_neg hn]
  have key0 : stE x = 0 → stS x = lnK k x := fun he => by unfold stS; rw [he, if_pos rfl, hkt]
  obtain ⟨xk, xt, xa, xb, xn⟩ := x
  simp only at hk
  rw [ar0]
  by_cases ht : rgOk xt
  rotate_left
  · have hE : stE ⟨xk, xt, xa, xb, xn⟩ = 2 := stE_r (k := k) (p := 0) hk h1 h2 hp (by simp [badR, hasT, hasA, hasB, ht])
    rw [key _ hE (by decide), hE]
    simp [proc, fldS, zerS, prR, ht]
  by_cases hn : nmB xn.data.toList = true
  rotate_left
  · have hn' : nmB xn.data.toList = false := by simpa using hn
    have hE : stE ⟨xk, xt, xa, xb, xn⟩ = 9 := stE_n (k := k) (p := 0) hk h1 h2 hp (by simp [badR, hasT, hasA, hasB, ht]) (by simp [badN, hasN, hn'])
    rw [key _ hE (by decide), hE]
    simp [proc, fldS, zerS, prR, hn', ht]
  by_cases hz : xa = 0 ∧ xb = 0
  · have hE : stE ⟨xk, xt, xa, xb, xn⟩ = 0 := stE_ok (k := k) (p := 0) hk h1 h2 hp (by simp [badR, hasT, hasA, hasB, ht, hn]) (by simp [badN, hasN, ht, hn]) (by simp [badF, hasT, hasA, hasB, hasN, hz])
    rw [key0 hE, hE]
    simp [proc, fldS, zerS, prR, ht, hn, hz, lnK, hp, hasT, hasA, hasB, hasN]
  · have hE : stE ⟨xk, xt, xa, xb, xn⟩ = 3 := stE_f (k := k) (p := 0) hk h1 h2 hp (by simp [badR, hasT, hasA, hasB, ht, hn]) (by simp [badN, hasN, ht, hn]) (Classical.byContradiction fun hb => hz (by simp [badF, hasT, hasA, hasB, hasN] at hb; simp_all))
    rw [key _ hE (by decide), hE]
    simp [proc, fldS, zerS, prR, ht, hn]
    try simpa using hz
set_option maxHeartbeats 2000000 in
theorem prR_spec1 (x : Stp) (k : Nat) (hk : x.k = k) (h1 : 1 ≤ k) (h2 : k ≤ 15) (hp : ptK k = 1) : prR (proc x (arK 1).data.toList (wdK k) { x with k := 0 }) = (stS x, stE x) := by
  have hkt : x.k.toNat = k := by omega
  have key : ∀ e, stE x = e → e ≠ 0 → stS x = ⟨#[]⟩ := fun e he hn => by unfold stS; rw [he, if_neg hn]
  have key0 : stE x = 0 → stS x = lnK k x := fun he => by unfold stS; rw [he, if_pos rfl, hkt]
  obtain ⟨xk, xt, xa, xb, xn⟩ := x
  simp only at hk
  rw [ar1]
  by_cases ht : rgOk xt
  rotate_left
  · have hE : stE ⟨xk, xt, xa, xb, xn⟩ = 2 := stE_r (k := k) (p := 1) hk h1 h2 hp (by simp [badR, hasT, hasA, hasB, ht])
    rw [key _ hE (by decide), hE]
    simp [proc, fldS, zerS, prR, ht]
  by_cases ha : rgOk xa
  rotate_left
  · have hE : stE ⟨xk, xt, xa, xb, xn⟩ = 2 := stE_r (k := k) (p := 1) hk h1 h2 hp (by simp [badR, hasT, hasA, hasB, ha])
    rw [key _ hE (by decide), hE]
    simp [proc, fldS, zerS, prR, ht, ha]
  by_cases hb : rgOk xb
  rotate_left
  · have hE : stE ⟨xk, xt, xa, xb, xn⟩ = 2 := stE_r (k := k) (p := 1) hk h1 h2 hp (by simp [badR, hasT, hasA, hasB, hb])
    rw [key _ hE (by decide), hE]
    simp [proc, fldS, zerS, prR, ht, ha, hb]
  by_cases hz : xn = ⟨#[]⟩
  · have hE : stE ⟨xk, xt, xa, xb, xn⟩ = 0 := stE_ok (k := k) (p := 1) hk h1 h2 hp (by simp [badR, hasT, hasA, hasB, ht, ha, hb]) (by simp [badN, hasN, ht, ha, hb]) (by simp [badF, hasT, hasA, hasB, hasN, hz])
    rw [key0 hE, hE]
    simp [proc, fldS, zerS, prR, ht, ha, hb, hz, lnK, hp, hasT, hasA, hasB, hasN]
  · have hE : stE ⟨xk, xt, xa, xb, xn⟩ = 3 := stE_f (k := k) (p := 1) hk h1 h2 hp (by simp [badR, hasT, hasA, hasB, ht, ha, hb]) (by simp [badN, hasN, ht, ha, hb]) (Classical.byContradiction fun hb => hz (by simp [badF, hasT, hasA, hasB, hasN] at hb; simp_all))
    rw [key _ hE (by decide), hE]
    simp [proc, fldS, zerS, prR, ht, ha, hb]
    try simpa using hz
set_option maxHeartbeats 2000000 in
theorem prR_spec2 (x : Stp) (k : Nat) (hk : x.k = k) (h1 : 1 ≤ k) (h2 : k ≤ 15) (hp : ptK k = 2) : prR (proc x (arK 2).data.toList (wdK k) { x with k := 0 }) = (stS x, stE x) := by
  have hkt : x.k.toNat = k := by omega
  have key : ∀ e, stE x = e → e ≠ 0 → stS x = ⟨#[]⟩ := fun e he hn => by unfold stS; rw [he, if_neg hn]
  have key0 : stE x = 0 → stS x = lnK k x := fun he => by unfold stS; rw [he, if_pos rfl, hkt]
  obtain ⟨xk, xt, xa, xb, xn⟩ := x
  simp only at hk
  rw [ar2]
  by_cases ht : rgOk xt
  rotate_left
  · have hE : stE ⟨xk, xt, xa, xb, xn⟩ = 2 := stE_r (k := k) (p := 2) hk h1 h2 hp (by simp [badR, hasT, hasA, hasB, ht])
    rw [key _ hE (by decide), hE]
    simp [proc, fldS, zerS, prR, ht]
  by_cases ha : rgOk xa
  rotate_left
  · have hE : stE ⟨xk, xt, xa, xb, xn⟩ = 2 := stE_r (k := k) (p := 2) hk h1 h2 hp (by simp [badR, hasT, hasA, hasB, ha])
    rw [key _ hE (by decide), hE]
    simp [proc, fldS, zerS, prR, ht, ha]
  by_cases hz : xb = 0 ∧ xn = ⟨#[]⟩
  · have hE : stE ⟨xk, xt, xa, xb, xn⟩ = 0 := stE_ok (k := k) (p := 2) hk h1 h2 hp (by simp [badR, hasT, hasA, hasB, ht, ha]) (by simp [badN, hasN, ht, ha]) (by simp [badF, hasT, hasA, hasB, hasN, hz])
    rw [key0 hE, hE]
    simp [proc, fldS, zerS, prR, ht, ha, hz, lnK, hp, hasT, hasA, hasB, hasN]
  · have hE : stE ⟨xk, xt, xa, xb, xn⟩ = 3 := stE_f (k := k) (p := 2) hk h1 h2 hp (by simp [badR, hasT, hasA, hasB, ht, ha]) (by simp [badN, hasN, ht, ha]) (Classical.byContradiction fun hb => hz (by simp [badF, hasT, hasA, hasB, hasN] at hb; simp_all))
    rw [key _ hE (by decide), hE]
    simp [proc, fldS, zerS, prR, ht, ha]
    try simpa using hz
set_option maxHeartbeats 2000000 in
theorem prR_spec3 (x : Stp) (k : Nat) (hk : x.k = k) (h1 : 1 ≤ k) (h2 : k ≤ 15) (hp : ptK k = 3) : prR (proc x (arK 3).data.toList (wdK k) { x with k := 0 }) = (stS x, stE x) := by
  have hkt : x.k.toNat = k := by omega
  have key : ∀ e, stE x = e → e ≠ 0 → stS x = ⟨#[]⟩ := fun e he hn => by unfold stS; rw [he, if_neg hn]
  have key0 : stE x = 0 → stS x = lnK k x := fun he => by unfold stS; rw [he, if_pos rfl, hkt]
  obtain ⟨xk, xt, xa, xb, xn⟩ := x
  simp only at hk
  rw [ar3]
  by_cases ha : rgOk xa
  rotate_left
  · have hE : stE ⟨xk, xt, xa, xb, xn⟩ = 2 := stE_r (k := k) (p := 3) hk h1 h2 hp (by simp [badR, hasT, hasA, hasB, ha])
    rw [key _ hE (by decide), hE]
    simp [proc, fldS, zerS, prR, ha]
  by_cases hn : nmB xn.data.toList = true
  rotate_left
  · have hn' : nmB xn.data.toList = false := by simpa using hn
    have hE : stE ⟨xk, xt, xa, xb, xn⟩ = 9 := stE_n (k := k) (p := 3) hk h1 h2 hp (by simp [badR, hasT, hasA, hasB, ha]) (by simp [badN, hasN, hn'])
    rw [key _ hE (by decide), hE]
    simp [proc, fldS, zerS, prR, hn', ha]
  by_cases hz : xt = 0 ∧ xb = 0
  · have hE : stE ⟨xk, xt, xa, xb, xn⟩ = 0 := stE_ok (k := k) (p := 3) hk h1 h2 hp (by simp [badR, hasT, hasA, hasB, ha, hn]) (by simp [badN, hasN, ha, hn]) (by simp [badF, hasT, hasA, hasB, hasN, hz])
    rw [key0 hE, hE]
    simp [proc, fldS, zerS, prR, ha, hn, hz, lnK, hp, hasT, hasA, hasB, hasN]
  · have hE : stE ⟨xk, xt, xa, xb, xn⟩ = 3 := stE_f (k := k) (p := 3) hk h1 h2 hp (by simp [badR, hasT, hasA, hasB, ha, hn]) (by simp [badN, hasN, ha, hn]) (Classical.byContradiction fun hb => hz (by simp [badF, hasT, hasA, hasB, hasN] at hb; simp_all))
    rw [key _ hE (by decide), hE]
    simp [proc, fldS, zerS, prR, ha, hn]
    try simpa using hz
theorem prR_spec (x : Stp) (k p : Nat) (hk : x.k = k) (h1 : 1 ≤ k) (h2 : k ≤ 15) (hp : ptK k = p) : prR (proc x (arK p).data.toList (wdK k) { x with k := 0 }) = (stS x, stE x) := by
  have hp4 : p < 4 := hp ▸ ptK_lt k (by omega)
  match p, hp4 with
  | 0, _ => exact prR_spec0 x k hk h1 h2 hp
  | 1, _ => exact prR_spec1 x k hk h1 h2 hp
  | 2, _ => exact prR_spec2 x k hk h1 h2 hp
  | 3, _ => exact prR_spec3 x k hk h1 h2 hp
end Go.Proofs.YtbffolmgkkknpaaDoor

namespace Go.Proofs.YtbffolmgkkknpaaDoor
open Go.Shelf Go.RowKit Go.Lib
def laysTrim_ren : Go.Shelf.Ren := ⟨fun | 160 => 56 | 232 => 67 | 231 => 66 | 227 => 68 | 234 => 70 | 233 => 69 | 236 => 72 | 235 => 71 | 228 => 83 | 271 => 86 | 151 => 85 | 197 => 84 | 120 => 98 | 152 => 97 | 260 => 96 | 137 => 51 | 119 => 104 | 224 => 102 | 225 => 101 | 217 => 63 | 266 => 78 | n => n, fun | 9 => 9 | 4 => 4 | 3 => 3 | 5 => 5 | 117 => 105 | 116 => 104 | 0 => 0 | 124 => 108 | 21 => 21 | 105 => 118 | 46 => 126 | 119 => 131 | 139 => 134 | 138 => 133 | n => n, fun | 3 => 3 | 4 => 4 | n => n⟩
theorem laysTrim : Go.Proofs.Lays.n160 Tryd.prog laysTrim_ren := {
  mixed := by kernel_rfl
  f119 := Tryd.func104.trans (congrArg some (by kernel_rfl))
  f120 := Tryd.func98.trans (congrArg some (by kernel_rfl))
  f137 := Tryd.func51.trans (congrArg some (by kernel_rfl))
  f151 := Tryd.func85.trans (congrArg some (by kernel_rfl))
  f152 := Tryd.func97.trans (congrArg some (by kernel_rfl))
  f160 := Tryd.func56.trans (congrArg some (by kernel_rfl))
  f197 := Tryd.func84.trans (congrArg some (by kernel_rfl))
  f217 := Tryd.func63.trans (congrArg some (by kernel_rfl))
  f224 := Tryd.func102.trans (congrArg some (by kernel_rfl))
  f225 := Tryd.func101.trans (congrArg some (by kernel_rfl))
  f227 := Tryd.func68.trans (congrArg some (by kernel_rfl))
  f228 := Tryd.func83.trans (congrArg some (by kernel_rfl))
  f231 := Tryd.func66.trans (congrArg some (by kernel_rfl))
  f232 := Tryd.func67.trans (congrArg some (by kernel_rfl))
  f233 := Tryd.func69.trans (congrArg some (by kernel_rfl))
  f234 := Tryd.func70.trans (congrArg some (by kernel_rfl))
  f235 := Tryd.func71.trans (congrArg some (by kernel_rfl))
  f236 := Tryd.func72.trans (congrArg some (by kernel_rfl))
  f260 := Tryd.func96.trans (congrArg some (by kernel_rfl))
  f266 := Tryd.func78.trans (congrArg some (by kernel_rfl))
  f271 := Tryd.func86.trans (congrArg some (by kernel_rfl))
  t0 := Tryd.underlying0
  a0 := Tryd.isAgg0
  z0 := Tryd.sizeOf0
  v0 := Tryd.zeroValue0
  t3 := Tryd.underlying3
  a3 := Tryd.isAgg3
  z3 := Tryd.sizeOf3
  v3 := Tryd.zeroValue3
  t4 := Tryd.underlying4
  a4 := Tryd.isAgg4
  z4 := Tryd.sizeOf4
  v4 := Tryd.zeroValue4
  t5 := Tryd.underlying5
  a5 := Tryd.isAgg5
  z5 := Tryd.sizeOf5
  v5 := Tryd.zeroValue5
  t9 := Tryd.underlying9
  a9 := Tryd.isAgg9
  z9 := Tryd.sizeOf9
  v9 := Tryd.zeroValue9
  t21 := Tryd.underlying21
  a21 := Tryd.isAgg21
  z21 := Tryd.sizeOf21
  v21 := Tryd.zeroValue21
  t46 := Tryd.underlying126
  a46 := Tryd.isAgg126
  z46 := Tryd.sizeOf126
  v46 := Tryd.zeroValue126
  t105 := Tryd.underlying118
  a105 := Tryd.isAgg118
  z105 := Tryd.sizeOf118
  v105 := Tryd.zeroValue118
  t116 := Tryd.underlying104
  a116 := Tryd.isAgg104
  z116 := Tryd.sizeOf104
  t117 := Tryd.underlying105
  a117 := Tryd.isAgg105
  z117 := Tryd.sizeOf105
  v117 := Tryd.zeroValue105
  t119 := Tryd.underlying131
  a119 := Tryd.isAgg131
  z119 := Tryd.sizeOf131
  t124 := Tryd.underlying108
  a124 := Tryd.isAgg108
  z124 := Tryd.sizeOf108
  v124 := Tryd.zeroValue108
  t138 := Tryd.underlying133
  a138 := Tryd.isAgg133
  z138 := Tryd.sizeOf133
  v138 := Tryd.zeroValue133
  t139 := Tryd.underlying134
  a139 := Tryd.isAgg134
  z139 := Tryd.sizeOf134
  v139 := Tryd.zeroValue134
  g3 := by kernel_rfl
  g4 := by kernel_rfl }
def nmAl : List UInt8 := [97, 98, 99, 100, 101, 102, 103, 104, 105, 106, 107, 108, 109, 110, 111, 112, 113, 114, 115, 116, 117, 118, 119, 120, 121, 122, 48, 49, 50, 51, 52, 53, 54, 55, 56, 57, 95]
theorem trimN_call (s : ByteArray) (w : World) (hs : s.size ≤ 9223372036854775807) :
    Calls Tryd.prog 56 #[.string s, .string ⟨#[97, 98, 99, 100, 101, 102, 103, 104, 105, 106, 107, 108, 109, 110, 111, 112, 113, 114, 115, 116, 117, 118, 119, 120, 121, 122, 48, 49, 50, 51, 52, 53, 54, 55, 56, 57, 95]⟩] w fun e w' => e = .returned (.string ⟨(Lib.trimS s.data.toList nmAl).toArray⟩) ∧ Below w.heap.size w w' :=
  Any.strings_Trim_laid laysTrim (by kernel_rfl) s ⟨#[97, 98, 99, 100, 101, 102, 103, 104, 105, 106, 107, 108, 109, 110, 111, 112, 113, 114, 115, 116, 117, 118, 119, 120, 121, 122, 48, 49, 50, 51, 52, 53, 54, 55, 56, 57, 95]⟩ w hs (by decide) (ascii_of_all (by decide))
end Go.Proofs.YtbffolmgkkknpaaDoor

namespace Go.Proofs.YtbffolmgkkknpaaDoor
open Go.RowKit
set_option linter.unusedSimpArgs false
set_option linter.unusedVariables false
set_option maxRecDepth 100000

theorem nmAl_all : ∀ n, n < 256 → (nmAl.contains (UInt8.ofNat n) = true ↔ ((97 ≤ n ∧ n ≤ 122) ∨ n = 95 ∨ (48 ≤ n ∧ n ≤ 57))) := by decide +kernel
theorem nmAl_mem (b : UInt8) : b ∈ nmAl ↔ chLet b ∨ chDig b := by
 have h := nmAl_all b.toNat b.toNat_lt
 rw [UInt8.ofNat_toNat, List.contains_iff_mem] at h
 rw [h]
 unfold chLet chDig
 omega
theorem wdN_ok {l : List UInt8} {b0 : UInt8} (h1 : 1 ≤ l.length) (h2 : l.length ≤ 12) (hb : l[0]? = some b0) (hd : ¬ chDig b0) (h : ∀ b ∈ l, b ∈ nmAl) : nmB l = true := nmB_true ⟨h1, h2, fun k b hk => by
 rcases (nmAl_mem b).1 (h b (List.mem_of_getElem? hk)) with h3 | h3
 ·exact .inl h3
 ·refine .inr ⟨h3, ?_⟩
  rcases Nat.eq_zero_or_pos k with e | e
  ·subst e
   rw [hb] at hk
   cases hk
   exact absurd h3 hd
  ·exact e⟩
theorem wdN_dig {l : List UInt8} {b0 : UInt8} (hb : l[0]? = some b0) (hd : chDig b0) : nmB l = false := nmB_false fun ⟨_, _, h⟩ => by
 rcases h 0 b0 hb with h | h
 ·unfold chLet at h; unfold chDig at hd; omega
 ·omega
theorem wdN_not {l : List UInt8} (h : ¬ ∀ b ∈ l, b ∈ nmAl) : nmB l = false := nmB_false fun ⟨_, _, hp⟩ => h fun b hb => by
 obtain ⟨k, hk⟩ := List.getElem?_of_mem hb
 rcases hp k b hk with h1 | h1
 ·exact (nmAl_mem b).2 (.inl h1)
 ·exact (nmAl_mem b).2 (.inr h1.1)
theorem dropWhile_nil {p : UInt8 → Bool} : ∀ {l : List UInt8}, l.dropWhile p = [] ↔ ∀ b ∈ l, p b = true
 | [] => by simp
 | x :: l => by
  rw [List.dropWhile_cons]
  by_cases h : p x = true
  ·rw [if_pos h, dropWhile_nil (l := l)]
   simp [h]
  ·rw [if_neg h]
   simp [h]
theorem takeWhile_all {p : UInt8 → Bool} : ∀ {l : List UInt8} {b : UInt8}, b ∈ l.takeWhile p → p b = true
 | [], b, h => by simp at h
 | x :: l, b, h => by
  rw [List.takeWhile_cons] at h
  by_cases hx : p x = true
  ·rw [if_pos hx] at h
   rcases List.mem_cons.1 h with rfl | h
   ·exact hx
   ·exact takeWhile_all h
  ·rw [if_neg hx] at h
   simp at h
theorem trimS_nil {l : List UInt8} : Lib.trimS l nmAl = [] ↔ ∀ b ∈ l, b ∈ nmAl := by
 have key : ∀ m : List UInt8, (∀ b ∈ m, nmAl.contains b = true) ↔ ∀ b ∈ m, b ∈ nmAl := fun m => by simp only [List.contains_iff_mem]
 unfold Lib.trimS Lib.trimLeftS Lib.trimRightS
 rw [dropWhile_nil, key]
 constructor
 ·intro h b hb
  have h1 := List.takeWhile_append_dropWhile (p := (nmAl.contains ·)) (l := l.reverse)
  have h2 : b ∈ l.reverse := by simpa using hb
  rw [← h1] at h2
  rcases List.mem_append.1 h2 with h3 | h3
  ·have := takeWhile_all h3
   simpa [List.contains_iff_mem] using this
  ·exact h b (by simpa using h3)
 ·intro h b hb
  rw [List.mem_reverse] at hb
  have := (List.dropWhile_sublist (nmAl.contains ·)).subset hb
  exact h b (by simpa using this)
theorem reps_s2' {a b : ByteArray} {w : World} {q : Nat → Prop} {g : Nat → Nat × Nat} {zs : List Value} (h : VReps w q g [.s a, .s b] zs) : zs = [.string a, .string b] := by
 obtain ⟨h1, h2⟩ := h
 match zs, h1, h2 with
 | [z, y], _, h2 => rw [VRep.p_eq (h2 0 _ z rfl rfl), VRep.p_eq (h2 1 _ y rfl rfl)]
theorem am_TrimN (s : ByteArray) (hs : s.size ≤ 9223372036854775807) : Fn Tryd.prog 56 [.s s, .s ⟨#[97, 98, 99, 100, 101, 102, 103, 104, 105, 106, 107, 108, 109, 110, 111, 112, 113, 114, 115, 116, 117, 118, 119, 120, 121, 122, 48, 49, 50, 51, 52, 53, 54, 55, 56, 57, 95]⟩] (fun v => v = .s ⟨(Lib.trimS s.data.toList nmAl).toArray⟩) :=
 Fn.ofCalls (fun w => trimN_call s w hs) (fun _ _ _ _ h => reps_s2' h) (fun _ _ _ => .d _ _ (.p _)) (by simp [V.pure, V.has, V.hasL])
set_option maxHeartbeats 1000000 in
theorem am_scName (s : ByteArray) : Fn Tryd.prog 32 [.s s] (fun v => v = .b (nmB s.data.toList)) := by
 obtain ⟨l, hl⟩ : ∃ l, s.data.toList = l := ⟨_, rfl⟩
 obtain ⟨n, hn⟩ : ∃ n, l.length = n := ⟨_, rfl⟩
 have hsz : s.size = n := by rw [← hn, ← hl]; exact Array.length_toList.symm
 rw [hl]
 by_cases hr1 : 1 ≤ n
 ·by_cases hr2 : n ≤ 12
  ·obtain ⟨b0, hb0⟩ : ∃ b0, l[0]? = some b0 := ⟨_, List.getElem?_eq_getElem (by omega)⟩
   have hs0 : s.data.toList[0]? = some b0 := by rw [hl]; exact hb0
   have htr := am_TrimN s (by omega)
   rw [hl] at htr
   by_cases hd0 : chDig b0
   ·have hR : nmB l = false := wdN_dig hb0 hd0
    rw [hR]
    obtain ⟨d1, d2⟩ : 48 ≤ b0.toNat ∧ b0.toNat ≤ 57 := hd0
    have d1' : ¬ b0.toNat < 48 := by omega
    have d2' : ¬ 57 < b0.toNat := by omega
    refine Fn.intro (n := 28) ⟨Tryd.func32, rfl, rfl, rfl, rfl⟩ (by simp [V.pure, V.has, V.hasL]) (by simp) fun w0 out => ?_
    refine AW.seq ?_
    refine AW.region ?_
    refine AL.rp rfl rfl (rp_assign rfl rfl) ?_
    refine AL.nil ?_
    try simp only [thenS, S.put, enum, List.nil_append, List.cons_append, List.append_nil, Nat.zero_add, Nat.reduceAdd]
    refine AW.seq ?_
    refine AW.region ?_
    refine AL.rp rfl rfl (rp_move rfl rfl) ?_
    (first | (refine AL.rp rfl rfl (rp_len_map Tryd.underlying9 rfl rfl (by assumption)) ?_) | (refine AL.rp rfl rfl (rp_len_own Tryd.underlying9 rfl rfl) ?_) | (refine AL.rp rfl rfl (rp_len_sl Tryd.underlying9 rfl rfl) ?_) | (refine AL.rp rfl rfl (rp_len_nil Tryd.underlying9 rfl rfl) ?_) | (refine AL.rp rfl rfl (rp_len_str Tryd.underlying9 rfl rfl) ?_))
    (first | (refine AL.rp rfl rfl (rp_geqT rfl rfl rfl (by first | assumption | omega | (dsimp only; omega))) ?_) | (refine AL.rp rfl rfl (rp_geqF rfl rfl rfl (by first | assumption | omega | (dsimp only; omega))) ?_) | (refine AL.rp rfl rfl (rp_geq rfl rfl rfl) ?_))
    refine AL.rp rfl rfl (rp_move rfl rfl) ?_
    (first | (refine AL.noV rfl rfl rfl rfl ?_) | (refine AL.noU rfl ⟨_, rfl, rfl⟩ rfl ?_) | (refine AL.rpy rfl rfl rfl (rp_move rfl rfl) ?_))
    (first | (refine AL.noV rfl rfl rfl rfl ?_) | (refine AL.noU rfl ⟨_, rfl, rfl⟩ rfl ?_) | (refine AL.rpy rfl rfl rfl (rp_len_map Tryd.underlying9 rfl rfl (by assumption)) ?_) | (refine AL.rpy rfl rfl rfl (rp_len_own Tryd.underlying9 rfl rfl) ?_) | (refine AL.rpy rfl rfl rfl (rp_len_sl Tryd.underlying9 rfl rfl) ?_) | (refine AL.rpy rfl rfl rfl (rp_len_nil Tryd.underlying9 rfl rfl) ?_) | (refine AL.rpy rfl rfl rfl (rp_len_str Tryd.underlying9 rfl rfl) ?_))
    (first | (refine AL.noV rfl rfl rfl rfl ?_) | (refine AL.noU rfl ⟨_, rfl, rfl⟩ rfl ?_) | (refine AL.rpy rfl rfl rfl (rp_leqT rfl rfl rfl (by first | assumption | omega | (dsimp only; omega))) ?_) | (refine AL.rpy rfl rfl rfl (rp_leqF rfl rfl rfl (by first | assumption | omega | (dsimp only; omega))) ?_) | (refine AL.rpy rfl rfl rfl (rp_leq rfl rfl rfl) ?_))
    refine AL.rp rfl rfl (rp_pick rfl rfl rfl) ?_
    refine AL.rp rfl rfl (rp_move rfl rfl) ?_
    (first | (refine AL.noV rfl rfl rfl rfl ?_) | (refine AL.noU rfl ⟨_, rfl, rfl⟩ rfl ?_) | (refine AL.rpy rfl rfl rfl (rp_move rfl rfl) ?_))
    (first | (refine AL.noV rfl rfl rfl rfl ?_) | (refine AL.noU rfl ⟨_, rfl, rfl⟩ rfl ?_) | (refine AL.rpy rfl rfl rfl (rp_index_str Tryd.underlying9 rfl rfl rfl (by first | rfl | omega) (by assumption)) ?_))
    (first | (refine AL.noV rfl rfl rfl rfl ?_) | (refine AL.noU rfl ⟨_, rfl, rfl⟩ rfl ?_) | (refine AL.rpy rfl rfl rfl (rp_lssT rfl rfl rfl (by first | assumption | omega | (dsimp only; omega))) ?_) | (refine AL.rpy rfl rfl rfl (rp_lssF rfl rfl rfl (by first | assumption | omega | (dsimp only; omega))) ?_) | (refine AL.rpy rfl rfl rfl (rp_lss rfl rfl rfl) ?_))
    (first | (refine AL.noV rfl rfl rfl rfl ?_) | (refine AL.noU rfl ⟨_, rfl, rfl⟩ rfl ?_) | (refine AL.rpy rfl rfl rfl (rp_move rfl rfl) ?_))
    (first | (refine AL.noV rfl rfl rfl rfl ?_) | (refine AL.noU rfl ⟨_, rfl, rfl⟩ rfl ?_) | (refine AL.rpy rfl rfl rfl (rp_move rfl rfl) ?_))
    (first | (refine AL.noV rfl rfl rfl rfl ?_) | (refine AL.noU rfl ⟨_, rfl, rfl⟩ rfl ?_) | (refine AL.rpy rfl rfl rfl (rp_index_str Tryd.underlying9 rfl rfl rfl (by first | rfl | omega) (by assumption)) ?_))
    (first | (refine AL.noV rfl rfl rfl rfl ?_) | (refine AL.noU rfl ⟨_, rfl, rfl⟩ rfl ?_) | (refine AL.rpy rfl rfl rfl (rp_gtrT rfl rfl rfl (by first | assumption | omega | (dsimp only; omega))) ?_) | (refine AL.rpy rfl rfl rfl (rp_gtrF rfl rfl rfl (by first | assumption | omega | (dsimp only; omega))) ?_) | (refine AL.rpy rfl rfl rfl (rp_gtr rfl rfl rfl) ?_))
    (first | (refine AL.noV rfl rfl rfl rfl ?_) | (refine AL.noU rfl ⟨_, rfl, rfl⟩ rfl ?_) | (refine AL.rpy rfl rfl rfl (rp_pick rfl rfl rfl) ?_))
    refine AL.rp rfl rfl (rp_pick rfl rfl rfl) ?_
    refine AL.rp rfl rfl (rp_assign rfl rfl) ?_
    refine AL.nil ?_
    try simp only [thenS, S.put]
    refine AW.seq ?_
    refine AW.region ?_
    refine AL.rp rfl rfl (rp_move rfl rfl) ?_
    refine AL.rp rfl rfl (rp_move rfl rfl) ?_
    (first | (refine AL.noV rfl rfl rfl rfl ?_) | (refine AL.noU rfl ⟨_, rfl, rfl⟩ rfl ?_) | (refine AL.rpy rfl rfl rfl (rp_move rfl rfl) ?_))
    (first | (refine AL.no rfl rfl rfl rfl ?_) | (refine AL.noU rfl ⟨_, rfl, rfl⟩ rfl ?_) | (refine AL.cally (post := ?pc0) rfl rfl (sm_call (args := [_, _]) ?hc0 ⟨Tryd.func56, rfl, rfl, rfl, rfl⟩ rfl rfl rfl rfl) ?_; (case hc0 => (exact htr)); rintro _ rfl -; try dsimp only))
    (first | (refine AL.noV rfl rfl rfl rfl ?_) | (refine AL.noU rfl ⟨_, rfl, rfl⟩ rfl ?_) | (refine AL.rpy rfl rfl rfl (rp_eqlsT rfl rfl rfl (by assumption)) ?_) | (refine AL.rpy rfl rfl rfl (rp_eqlsF rfl rfl rfl (by assumption)) ?_) | (refine AL.rpy rfl rfl rfl (rp_eqls rfl rfl rfl) ?_))
    refine AL.rp rfl rfl (rp_pick rfl rfl rfl) ?_
    refine AL.rp rfl rfl (rp_assign rfl rfl) ?_
    refine AL.nil ?_
    try simp only [thenS, S.put, S.newObj, setL, V.cs, List.length_cons, List.length_nil, List.take_succ_cons, List.take_zero, List.drop_succ_cons, List.drop_zero, List.drop_nil, List.nil_append, List.cons_append, List.append_nil, Nat.zero_add, Nat.reduceAdd, List.map_cons, List.map_nil, List.set_cons_zero, List.set_cons_succ]
    refine AW.ret ?_
    exact ⟨[_], ⟨rfl, trivial⟩, rfl, by simp [tupOf, V.pure, V.has, V.hasL]⟩
   ·by_cases hall : ∀ b ∈ l, b ∈ nmAl
    ·have hR : nmB l = true := wdN_ok (by omega) (by omega) hb0 hd0 hall
     rw [hR]
     rw [trimS_nil.2 hall] at htr
     have he : (⟨([] : List UInt8).toArray⟩ : ByteArray) = ⟨#[]⟩ := rfl
     rw [he] at htr
     have hee : (⟨#[]⟩ : ByteArray) = ⟨#[]⟩ := rfl
     unfold chDig at hd0
     by_cases h48 : b0.toNat < 48
     ·refine Fn.intro (n := 28) ⟨Tryd.func32, rfl, rfl, rfl, rfl⟩ (by simp [V.pure, V.has, V.hasL]) (by simp) fun w0 out => ?_
      refine AW.seq ?_
      refine AW.region ?_
      refine AL.rp rfl rfl (rp_assign rfl rfl) ?_
      refine AL.nil ?_
      try simp only [thenS, S.put, enum, List.nil_append, List.cons_append, List.append_nil, Nat.zero_add, Nat.reduceAdd]
      refine AW.seq ?_
      refine AW.region ?_
      refine AL.rp rfl rfl (rp_move rfl rfl) ?_
      (first | (refine AL.rp rfl rfl (rp_len_map Tryd.underlying9 rfl rfl (by assumption)) ?_) | (refine AL.rp rfl rfl (rp_len_own Tryd.underlying9 rfl rfl) ?_) | (refine AL.rp rfl rfl (rp_len_sl Tryd.underlying9 rfl rfl) ?_) | (refine AL.rp rfl rfl (rp_len_nil Tryd.underlying9 rfl rfl) ?_) | (refine AL.rp rfl rfl (rp_len_str Tryd.underlying9 rfl rfl) ?_))
      (first | (refine AL.rp rfl rfl (rp_geqT rfl rfl rfl (by first | assumption | omega | (dsimp only; omega))) ?_) | (refine AL.rp rfl rfl (rp_geqF rfl rfl rfl (by first | assumption | omega | (dsimp only; omega))) ?_) | (refine AL.rp rfl rfl (rp_geq rfl rfl rfl) ?_))
      refine AL.rp rfl rfl (rp_move rfl rfl) ?_
      (first | (refine AL.noV rfl rfl rfl rfl ?_) | (refine AL.noU rfl ⟨_, rfl, rfl⟩ rfl ?_) | (refine AL.rpy rfl rfl rfl (rp_move rfl rfl) ?_))
      (first | (refine AL.noV rfl rfl rfl rfl ?_) | (refine AL.noU rfl ⟨_, rfl, rfl⟩ rfl ?_) | (refine AL.rpy rfl rfl rfl (rp_len_map Tryd.underlying9 rfl rfl (by assumption)) ?_) | (refine AL.rpy rfl rfl rfl (rp_len_own Tryd.underlying9 rfl rfl) ?_) | (refine AL.rpy rfl rfl rfl (rp_len_sl Tryd.underlying9 rfl rfl) ?_) | (refine AL.rpy rfl rfl rfl (rp_len_nil Tryd.underlying9 rfl rfl) ?_) | (refine AL.rpy rfl rfl rfl (rp_len_str Tryd.underlying9 rfl rfl) ?_))
      (first | (refine AL.noV rfl rfl rfl rfl ?_) | (refine AL.noU rfl ⟨_, rfl, rfl⟩ rfl ?_) | (refine AL.rpy rfl rfl rfl (rp_leqT rfl rfl rfl (by first | assumption | omega | (dsimp only; omega))) ?_) | (refine AL.rpy rfl rfl rfl (rp_leqF rfl rfl rfl (by first | assumption | omega | (dsimp only; omega))) ?_) | (refine AL.rpy rfl rfl rfl (rp_leq rfl rfl rfl) ?_))
      refine AL.rp rfl rfl (rp_pick rfl rfl rfl) ?_
      refine AL.rp rfl rfl (rp_move rfl rfl) ?_
      (first | (refine AL.noV rfl rfl rfl rfl ?_) | (refine AL.noU rfl ⟨_, rfl, rfl⟩ rfl ?_) | (refine AL.rpy rfl rfl rfl (rp_move rfl rfl) ?_))
      (first | (refine AL.noV rfl rfl rfl rfl ?_) | (refine AL.noU rfl ⟨_, rfl, rfl⟩ rfl ?_) | (refine AL.rpy rfl rfl rfl (rp_index_str Tryd.underlying9 rfl rfl rfl (by first | rfl | omega) (by assumption)) ?_))
      (first | (refine AL.noV rfl rfl rfl rfl ?_) | (refine AL.noU rfl ⟨_, rfl, rfl⟩ rfl ?_) | (refine AL.rpy rfl rfl rfl (rp_lssT rfl rfl rfl (by first | assumption | omega | (dsimp only; omega))) ?_) | (refine AL.rpy rfl rfl rfl (rp_lssF rfl rfl rfl (by first | assumption | omega | (dsimp only; omega))) ?_) | (refine AL.rpy rfl rfl rfl (rp_lss rfl rfl rfl) ?_))
      (first | (refine AL.noV rfl rfl rfl rfl ?_) | (refine AL.noU rfl ⟨_, rfl, rfl⟩ rfl ?_) | (refine AL.rpy rfl rfl rfl (rp_move rfl rfl) ?_))
      (first | (refine AL.noV rfl rfl rfl rfl ?_) | (refine AL.noU rfl ⟨_, rfl, rfl⟩ rfl ?_) | (refine AL.rpy rfl rfl rfl (rp_move rfl rfl) ?_))
      (first | (refine AL.noV rfl rfl rfl rfl ?_) | (refine AL.noU rfl ⟨_, rfl, rfl⟩ rfl ?_) | (refine AL.rpy rfl rfl rfl (rp_index_str Tryd.underlying9 rfl rfl rfl (by first | rfl | omega) (by assumption)) ?_))
      (first | (refine AL.noV rfl rfl rfl rfl ?_) | (refine AL.noU rfl ⟨_, rfl, rfl⟩ rfl ?_) | (refine AL.rpy rfl rfl rfl (rp_gtrT rfl rfl rfl (by first | assumption | omega | (dsimp only; omega))) ?_) | (refine AL.rpy rfl rfl rfl (rp_gtrF rfl rfl rfl (by first | assumption | omega | (dsimp only; omega))) ?_) | (refine AL.rpy rfl rfl rfl (rp_gtr rfl rfl rfl) ?_))
      (first | (refine AL.noV rfl rfl rfl rfl ?_) | (refine AL.noU rfl ⟨_, rfl, rfl⟩ rfl ?_) | (refine AL.rpy rfl rfl rfl (rp_pick rfl rfl rfl) ?_))
      refine AL.rp rfl rfl (rp_pick rfl rfl rfl) ?_
      refine AL.rp rfl rfl (rp_assign rfl rfl) ?_
      refine AL.nil ?_
      try simp only [thenS, S.put]
      refine AW.seq ?_
      refine AW.region ?_
      refine AL.rp rfl rfl (rp_move rfl rfl) ?_
      refine AL.rp rfl rfl (rp_move rfl rfl) ?_
      (first | (refine AL.noV rfl rfl rfl rfl ?_) | (refine AL.noU rfl ⟨_, rfl, rfl⟩ rfl ?_) | (refine AL.rpy rfl rfl rfl (rp_move rfl rfl) ?_))
      (first | (refine AL.no rfl rfl rfl rfl ?_) | (refine AL.noU rfl ⟨_, rfl, rfl⟩ rfl ?_) | (refine AL.cally (post := ?pc1) rfl rfl (sm_call (args := [_, _]) ?hc1 ⟨Tryd.func56, rfl, rfl, rfl, rfl⟩ rfl rfl rfl rfl) ?_; (case hc1 => (exact htr)); rintro _ rfl -; try dsimp only))
      (first | (refine AL.noV rfl rfl rfl rfl ?_) | (refine AL.noU rfl ⟨_, rfl, rfl⟩ rfl ?_) | (refine AL.rpy rfl rfl rfl (rp_eqlsT rfl rfl rfl (by assumption)) ?_) | (refine AL.rpy rfl rfl rfl (rp_eqlsF rfl rfl rfl (by assumption)) ?_) | (refine AL.rpy rfl rfl rfl (rp_eqls rfl rfl rfl) ?_))
      refine AL.rp rfl rfl (rp_pick rfl rfl rfl) ?_
      refine AL.rp rfl rfl (rp_assign rfl rfl) ?_
      refine AL.nil ?_
      try simp only [thenS, S.put, S.newObj, setL, V.cs, List.length_cons, List.length_nil, List.take_succ_cons, List.take_zero, List.drop_succ_cons, List.drop_zero, List.drop_nil, List.nil_append, List.cons_append, List.append_nil, Nat.zero_add, Nat.reduceAdd, List.map_cons, List.map_nil, List.set_cons_zero, List.set_cons_succ]
      refine AW.ret ?_
      exact ⟨[_], ⟨rfl, trivial⟩, rfl, by simp [tupOf, V.pure, V.has, V.hasL]⟩
     ·have h57 : 57 < b0.toNat := by omega
      refine Fn.intro (n := 28) ⟨Tryd.func32, rfl, rfl, rfl, rfl⟩ (by simp [V.pure, V.has, V.hasL]) (by simp) fun w0 out => ?_
      refine AW.seq ?_
      refine AW.region ?_
      refine AL.rp rfl rfl (rp_assign rfl rfl) ?_
      refine AL.nil ?_
      try simp only [thenS, S.put, enum, List.nil_append, List.cons_append, List.append_nil, Nat.zero_add, Nat.reduceAdd]
      refine AW.seq ?_
      refine AW.region ?_
      refine AL.rp rfl rfl (rp_move rfl rfl) ?_
      (first | (refine AL.rp rfl rfl (rp_len_map Tryd.underlying9 rfl rfl (by assumption)) ?_) | (refine AL.rp rfl rfl (rp_len_own Tryd.underlying9 rfl rfl) ?_) | (refine AL.rp rfl rfl (rp_len_sl Tryd.underlying9 rfl rfl) ?_) | (refine AL.rp rfl rfl (rp_len_nil Tryd.underlying9 rfl rfl) ?_) | (refine AL.rp rfl rfl (rp_len_str Tryd.underlying9 rfl rfl) ?_))
      (first | (refine AL.rp rfl rfl (rp_geqT rfl rfl rfl (by first | assumption | omega | (dsimp only; omega))) ?_) | (refine AL.rp rfl rfl (rp_geqF rfl rfl rfl (by first | assumption | omega | (dsimp only; omega))) ?_) | (refine AL.rp rfl rfl (rp_geq rfl rfl rfl) ?_))
      refine AL.rp rfl rfl (rp_move rfl rfl) ?_
      (first | (refine AL.noV rfl rfl rfl rfl ?_) | (refine AL.noU rfl ⟨_, rfl, rfl⟩ rfl ?_) | (refine AL.rpy rfl rfl rfl (rp_move rfl rfl) ?_))
      (first | (refine AL.noV rfl rfl rfl rfl ?_) | (refine AL.noU rfl ⟨_, rfl, rfl⟩ rfl ?_) | (refine AL.rpy rfl rfl rfl (rp_len_map Tryd.underlying9 rfl rfl (by assumption)) ?_) | (refine AL.rpy rfl rfl rfl (rp_len_own Tryd.underlying9 rfl rfl) ?_) | (refine AL.rpy rfl rfl rfl (rp_len_sl Tryd.underlying9 rfl rfl) ?_) | (refine AL.rpy rfl rfl rfl (rp_len_nil Tryd.underlying9 rfl rfl) ?_) | (refine AL.rpy rfl rfl rfl (rp_len_str Tryd.underlying9 rfl rfl) ?_))
      (first | (refine AL.noV rfl rfl rfl rfl ?_) | (refine AL.noU rfl ⟨_, rfl, rfl⟩ rfl ?_) | (refine AL.rpy rfl rfl rfl (rp_leqT rfl rfl rfl (by first | assumption | omega | (dsimp only; omega))) ?_) | (refine AL.rpy rfl rfl rfl (rp_leqF rfl rfl rfl (by first | assumption | omega | (dsimp only; omega))) ?_) | (refine AL.rpy rfl rfl rfl (rp_leq rfl rfl rfl) ?_))
      refine AL.rp rfl rfl (rp_pick rfl rfl rfl) ?_
      refine AL.rp rfl rfl (rp_move rfl rfl) ?_
      (first | (refine AL.noV rfl rfl rfl rfl ?_) | (refine AL.noU rfl ⟨_, rfl, rfl⟩ rfl ?_) | (refine AL.rpy rfl rfl rfl (rp_move rfl rfl) ?_))
      (first | (refine AL.noV rfl rfl rfl rfl ?_) | (refine AL.noU rfl ⟨_, rfl, rfl⟩ rfl ?_) | (refine AL.rpy rfl rfl rfl (rp_index_str Tryd.underlying9 rfl rfl rfl (by first | rfl | omega) (by assumption)) ?_))
      (first | (refine AL.noV rfl rfl rfl rfl ?_) | (refine AL.noU rfl ⟨_, rfl, rfl⟩ rfl ?_) | (refine AL.rpy rfl rfl rfl (rp_lssT rfl rfl rfl (by first | assumption | omega | (dsimp only; omega))) ?_) | (refine AL.rpy rfl rfl rfl (rp_lssF rfl rfl rfl (by first | assumption | omega | (dsimp only; omega))) ?_) | (refine AL.rpy rfl rfl rfl (rp_lss rfl rfl rfl) ?_))
      (first | (refine AL.noV rfl rfl rfl rfl ?_) | (refine AL.noU rfl ⟨_, rfl, rfl⟩ rfl ?_) | (refine AL.rpy rfl rfl rfl (rp_move rfl rfl) ?_))
      (first | (refine AL.noV rfl rfl rfl rfl ?_) | (refine AL.noU rfl ⟨_, rfl, rfl⟩ rfl ?_) | (refine AL.rpy rfl rfl rfl (rp_move rfl rfl) ?_))
      (first | (refine AL.noV rfl rfl rfl rfl ?_) | (refine AL.noU rfl ⟨_, rfl, rfl⟩ rfl ?_) | (refine AL.rpy rfl rfl rfl (rp_index_str Tryd.underlying9 rfl rfl rfl (by first | rfl | omega) (by assumption)) ?_))
      (first | (refine AL.noV rfl rfl rfl rfl ?_) | (refine AL.noU rfl ⟨_, rfl, rfl⟩ rfl ?_) | (refine AL.rpy rfl rfl rfl (rp_gtrT rfl rfl rfl (by first | assumption | omega | (dsimp only; omega))) ?_) | (refine AL.rpy rfl rfl rfl (rp_gtrF rfl rfl rfl (by first | assumption | omega | (dsimp only; omega))) ?_) | (refine AL.rpy rfl rfl rfl (rp_gtr rfl rfl rfl) ?_))
      (first | (refine AL.noV rfl rfl rfl rfl ?_) | (refine AL.noU rfl ⟨_, rfl, rfl⟩ rfl ?_) | (refine AL.rpy rfl rfl rfl (rp_pick rfl rfl rfl) ?_))
      refine AL.rp rfl rfl (rp_pick rfl rfl rfl) ?_
      refine AL.rp rfl rfl (rp_assign rfl rfl) ?_
      refine AL.nil ?_
      try simp only [thenS, S.put]
      refine AW.seq ?_
      refine AW.region ?_
      refine AL.rp rfl rfl (rp_move rfl rfl) ?_
      refine AL.rp rfl rfl (rp_move rfl rfl) ?_
      (first | (refine AL.noV rfl rfl rfl rfl ?_) | (refine AL.noU rfl ⟨_, rfl, rfl⟩ rfl ?_) | (refine AL.rpy rfl rfl rfl (rp_move rfl rfl) ?_))
      (first | (refine AL.no rfl rfl rfl rfl ?_) | (refine AL.noU rfl ⟨_, rfl, rfl⟩ rfl ?_) | (refine AL.cally (post := ?pc2) rfl rfl (sm_call (args := [_, _]) ?hc2 ⟨Tryd.func56, rfl, rfl, rfl, rfl⟩ rfl rfl rfl rfl) ?_; (case hc2 => (exact htr)); rintro _ rfl -; try dsimp only))
      (first | (refine AL.noV rfl rfl rfl rfl ?_) | (refine AL.noU rfl ⟨_, rfl, rfl⟩ rfl ?_) | (refine AL.rpy rfl rfl rfl (rp_eqlsT rfl rfl rfl (by assumption)) ?_) | (refine AL.rpy rfl rfl rfl (rp_eqlsF rfl rfl rfl (by assumption)) ?_) | (refine AL.rpy rfl rfl rfl (rp_eqls rfl rfl rfl) ?_))
      refine AL.rp rfl rfl (rp_pick rfl rfl rfl) ?_
      refine AL.rp rfl rfl (rp_assign rfl rfl) ?_
      refine AL.nil ?_
      try simp only [thenS, S.put, S.newObj, setL, V.cs, List.length_cons, List.length_nil, List.take_succ_cons, List.take_zero, List.drop_succ_cons, List.drop_zero, List.drop_nil, List.nil_append, List.cons_append, List.append_nil, Nat.zero_add, Nat.reduceAdd, List.map_cons, List.map_nil, List.set_cons_zero, List.set_cons_succ]
      refine AW.ret ?_
      exact ⟨[_], ⟨rfl, trivial⟩, rfl, by simp [tupOf, V.pure, V.has, V.hasL]⟩
    ·have hR : nmB l = false := wdN_not hall
     rw [hR]
     obtain ⟨tr, htre⟩ : ∃ tr, Lib.trimS l nmAl = tr := ⟨_, rfl⟩
     have hne : tr ≠ [] := fun e => hall (trimS_nil.1 (htre.trans e))
     rw [htre] at htr
     have hne2 : (⟨tr.toArray⟩ : ByteArray).data.toList ≠ (⟨#[]⟩ : ByteArray).data.toList := by simpa using hne
     unfold chDig at hd0
     by_cases h48 : b0.toNat < 48
     ·refine Fn.intro (n := 28) ⟨Tryd.func32, rfl, rfl, rfl, rfl⟩ (by simp [V.pure, V.has, V.hasL]) (by simp) fun w0 out => ?_
      refine AW.seq ?_
      refine AW.region ?_
      refine AL.rp rfl rfl (rp_assign rfl rfl) ?_
      refine AL.nil ?_
      try simp only [thenS, S.put, enum, List.nil_append, List.cons_append, List.append_nil, Nat.zero_add, Nat.reduceAdd]
      refine AW.seq ?_
      refine AW.region ?_
      refine AL.rp rfl rfl (rp_move rfl rfl) ?_
      (first | (refine AL.rp rfl rfl (rp_len_map Tryd.underlying9 rfl rfl (by assumption)) ?_) | (refine AL.rp rfl rfl (rp_len_own Tryd.underlying9 rfl rfl) ?_) | (refine AL.rp rfl rfl (rp_len_sl Tryd.underlying9 rfl rfl) ?_) | (refine AL.rp rfl rfl (rp_len_nil Tryd.underlying9 rfl rfl) ?_) | (refine AL.rp rfl rfl (rp_len_str Tryd.underlying9 rfl rfl) ?_))
      (first | (refine AL.rp rfl rfl (rp_geqT rfl rfl rfl (by first | assumption | omega | (dsimp only; omega))) ?_) | (refine AL.rp rfl rfl (rp_geqF rfl rfl rfl (by first | assumption | omega | (dsimp only; omega))) ?_) | (refine AL.rp rfl rfl (rp_geq rfl rfl rfl) ?_))
      refine AL.rp rfl rfl (rp_move rfl rfl) ?_
      (first | (refine AL.noV rfl rfl rfl rfl ?_) | (refine AL.noU rfl ⟨_, rfl, rfl⟩ rfl ?_) | (refine AL.rpy rfl rfl rfl (rp_move rfl rfl) ?_))
      (first | (refine AL.noV rfl rfl rfl rfl ?_) | (refine AL.noU rfl ⟨_, rfl, rfl⟩ rfl ?_) | (refine AL.rpy rfl rfl rfl (rp_len_map Tryd.underlying9 rfl rfl (by assumption)) ?_) | (refine AL.rpy rfl rfl rfl (rp_len_own Tryd.underlying9 rfl rfl) ?_) | (refine AL.rpy rfl rfl rfl (rp_len_sl Tryd.underlying9 rfl rfl) ?_) | (refine AL.rpy rfl rfl rfl (rp_len_nil Tryd.underlying9 rfl rfl) ?_) | (refine AL.rpy rfl rfl rfl (rp_len_str Tryd.underlying9 rfl rfl) ?_))
      (first | (refine AL.noV rfl rfl rfl rfl ?_) | (refine AL.noU rfl ⟨_, rfl, rfl⟩ rfl ?_) | (refine AL.rpy rfl rfl rfl (rp_leqT rfl rfl rfl (by first | assumption | omega | (dsimp only; omega))) ?_) | (refine AL.rpy rfl rfl rfl (rp_leqF rfl rfl rfl (by first | assumption | omega | (dsimp only; omega))) ?_) | (refine AL.rpy rfl rfl rfl (rp_leq rfl rfl rfl) ?_))
      refine AL.rp rfl rfl (rp_pick rfl rfl rfl) ?_
      refine AL.rp rfl rfl (rp_move rfl rfl) ?_
      (first | (refine AL.noV rfl rfl rfl rfl ?_) | (refine AL.noU rfl ⟨_, rfl, rfl⟩ rfl ?_) | (refine AL.rpy rfl rfl rfl (rp_move rfl rfl) ?_))
      (first | (refine AL.noV rfl rfl rfl rfl ?_) | (refine AL.noU rfl ⟨_, rfl, rfl⟩ rfl ?_) | (refine AL.rpy rfl rfl rfl (rp_index_str Tryd.underlying9 rfl rfl rfl (by first | rfl | omega) (by assumption)) ?_))
      (first | (refine AL.noV rfl rfl rfl rfl ?_) | (refine AL.noU rfl ⟨_, rfl, rfl⟩ rfl ?_) | (refine AL.rpy rfl rfl rfl (rp_lssT rfl rfl rfl (by first | assumption | omega | (dsimp only; omega))) ?_) | (refine AL.rpy rfl rfl rfl (rp_lssF rfl rfl rfl (by first | assumption | omega | (dsimp only; omega))) ?_) | (refine AL.rpy rfl rfl rfl (rp_lss rfl rfl rfl) ?_))
      (first | (refine AL.noV rfl rfl rfl rfl ?_) | (refine AL.noU rfl ⟨_, rfl, rfl⟩ rfl ?_) | (refine AL.rpy rfl rfl rfl (rp_move rfl rfl) ?_))
      (first | (refine AL.noV rfl rfl rfl rfl ?_) | (refine AL.noU rfl ⟨_, rfl, rfl⟩ rfl ?_) | (refine AL.rpy rfl rfl rfl (rp_move rfl rfl) ?_))
      (first | (refine AL.noV rfl rfl rfl rfl ?_) | (refine AL.noU rfl ⟨_, rfl, rfl⟩ rfl ?_) | (refine AL.rpy rfl rfl rfl (rp_index_str Tryd.underlying9 rfl rfl rfl (by first | rfl | omega) (by assumption)) ?_))
      (first | (refine AL.noV rfl rfl rfl rfl ?_) | (refine AL.noU rfl ⟨_, rfl, rfl⟩ rfl ?_) | (refine AL.rpy rfl rfl rfl (rp_gtrT rfl rfl rfl (by first | assumption | omega | (dsimp only; omega))) ?_) | (refine AL.rpy rfl rfl rfl (rp_gtrF rfl rfl rfl (by first | assumption | omega | (dsimp only; omega))) ?_) | (refine AL.rpy rfl rfl rfl (rp_gtr rfl rfl rfl) ?_))
      (first | (refine AL.noV rfl rfl rfl rfl ?_) | (refine AL.noU rfl ⟨_, rfl, rfl⟩ rfl ?_) | (refine AL.rpy rfl rfl rfl (rp_pick rfl rfl rfl) ?_))
      refine AL.rp rfl rfl (rp_pick rfl rfl rfl) ?_
      refine AL.rp rfl rfl (rp_assign rfl rfl) ?_
      refine AL.nil ?_
      try simp only [thenS, S.put]
      refine AW.seq ?_
      refine AW.region ?_
      refine AL.rp rfl rfl (rp_move rfl rfl) ?_
      refine AL.rp rfl rfl (rp_move rfl rfl) ?_
      (first | (refine AL.noV rfl rfl rfl rfl ?_) | (refine AL.noU rfl ⟨_, rfl, rfl⟩ rfl ?_) | (refine AL.rpy rfl rfl rfl (rp_move rfl rfl) ?_))
      (first | (refine AL.no rfl rfl rfl rfl ?_) | (refine AL.noU rfl ⟨_, rfl, rfl⟩ rfl ?_) | (refine AL.cally (post := ?pc3) rfl rfl (sm_call (args := [_, _]) ?hc3 ⟨Tryd.func56, rfl, rfl, rfl, rfl⟩ rfl rfl rfl rfl) ?_; (case hc3 => (exact htr)); rintro _ rfl -; try dsimp only))
      (first | (refine AL.noV rfl rfl rfl rfl ?_) | (refine AL.noU rfl ⟨_, rfl, rfl⟩ rfl ?_) | (refine AL.rpy rfl rfl rfl (rp_eqlsT rfl rfl rfl (by assumption)) ?_) | (refine AL.rpy rfl rfl rfl (rp_eqlsF rfl rfl rfl (by assumption)) ?_) | (refine AL.rpy rfl rfl rfl (rp_eqls rfl rfl rfl) ?_))
      refine AL.rp rfl rfl (rp_pick rfl rfl rfl) ?_
      refine AL.rp rfl rfl (rp_assign rfl rfl) ?_
      refine AL.nil ?_
      try simp only [thenS, S.put, S.newObj, setL, V.cs, List.length_cons, List.length_nil, List.take_succ_cons, List.take_zero, List.drop_succ_cons, List.drop_zero, List.drop_nil, List.nil_append, List.cons_append, List.append_nil, Nat.zero_add, Nat.reduceAdd, List.map_cons, List.map_nil, List.set_cons_zero, List.set_cons_succ]
      refine AW.ret ?_
      exact ⟨[_], ⟨rfl, trivial⟩, rfl, by simp [tupOf, V.pure, V.has, V.hasL]⟩
     ·have h57 : 57 < b0.toNat := by omega
      refine Fn.intro (n := 28) ⟨Tryd.func32, rfl, rfl, rfl, rfl⟩ (by simp [V.pure, V.has, V.hasL]) (by simp) fun w0 out => ?_
      refine AW.seq ?_
      refine AW.region ?_
      refine AL.rp rfl rfl (rp_assign rfl rfl) ?_
      refine AL.nil ?_
      try simp only [thenS, S.put, enum, List.nil_append, List.cons_append, List.append_nil, Nat.zero_add, Nat.reduceAdd]
      refine AW.seq ?_
      refine AW.region ?_
      refine AL.rp rfl rfl (rp_move rfl rfl) ?_
      (first | (refine AL.rp rfl rfl (rp_len_map Tryd.underlying9 rfl rfl (by assumption)) ?_) | (refine AL.rp rfl rfl (rp_len_own Tryd.underlying9 rfl rfl) ?_) | (refine AL.rp rfl rfl (rp_len_sl Tryd.underlying9 rfl rfl) ?_) | (refine AL.rp rfl rfl (rp_len_nil Tryd.underlying9 rfl rfl) ?_) | (refine AL.rp rfl rfl (rp_len_str Tryd.underlying9 rfl rfl) ?_))
      (first | (refine AL.rp rfl rfl (rp_geqT rfl rfl rfl (by first | assumption | omega | (dsimp only; omega))) ?_) | (refine AL.rp rfl rfl (rp_geqF rfl rfl rfl (by first | assumption | omega | (dsimp only; omega))) ?_) | (refine AL.rp rfl rfl (rp_geq rfl rfl rfl) ?_))
      refine AL.rp rfl rfl (rp_move rfl rfl) ?_
      (first | (refine AL.noV rfl rfl rfl rfl ?_) | (refine AL.noU rfl ⟨_, rfl, rfl⟩ rfl ?_) | (refine AL.rpy rfl rfl rfl (rp_move rfl rfl) ?_))
      (first | (refine AL.noV rfl rfl rfl rfl ?_) | (refine AL.noU rfl ⟨_, rfl, rfl⟩ rfl ?_) | (refine AL.rpy rfl rfl rfl (rp_len_map Tryd.underlying9 rfl rfl (by assumption)) ?_) | (refine AL.rpy rfl rfl rfl (rp_len_own Tryd.underlying9 rfl rfl) ?_) | (refine AL.rpy rfl rfl rfl (rp_len_sl Tryd.underlying9 rfl rfl) ?_) | (refine AL.rpy rfl rfl rfl (rp_len_nil Tryd.underlying9 rfl rfl) ?_) | (refine AL.rpy rfl rfl rfl (rp_len_str Tryd.underlying9 rfl rfl) ?_))
      (first | (refine AL.noV rfl rfl rfl rfl ?_) | (refine AL.noU rfl ⟨_, rfl, rfl⟩ rfl ?_) | (refine AL.rpy rfl rfl rfl (rp_leqT rfl rfl rfl (by first | assumption | omega | (dsimp only; omega))) ?_) | (refine AL.rpy rfl rfl rfl (rp_leqF rfl rfl rfl (by first | assumption | omega | (dsimp only; omega))) ?_) | (refine AL.rpy rfl rfl rfl (rp_leq rfl rfl rfl) ?_))
      refine AL.rp rfl rfl (rp_pick rfl rfl rfl) ?_
      refine AL.rp rfl rfl (rp_move rfl rfl) ?_
      (first | (refine AL.noV rfl rfl rfl rfl ?_) | (refine AL.noU rfl ⟨_, rfl, rfl⟩ rfl ?_) | (refine AL.rpy rfl rfl rfl (rp_move rfl rfl) ?_))
      (first | (refine AL.noV rfl rfl rfl rfl ?_) | (refine AL.noU rfl ⟨_, rfl, rfl⟩ rfl ?_) | (refine AL.rpy rfl rfl rfl (rp_index_str Tryd.underlying9 rfl rfl rfl (by first | rfl | omega) (by assumption)) ?_))
      (first | (refine AL.noV rfl rfl rfl rfl ?_) | (refine AL.noU rfl ⟨_, rfl, rfl⟩ rfl ?_) | (refine AL.rpy rfl rfl rfl (rp_lssT rfl rfl rfl (by first | assumption | omega | (dsimp only; omega))) ?_) | (refine AL.rpy rfl rfl rfl (rp_lssF rfl rfl rfl (by first | assumption | omega | (dsimp only; omega))) ?_) | (refine AL.rpy rfl rfl rfl (rp_lss rfl rfl rfl) ?_))
      (first | (refine AL.noV rfl rfl rfl rfl ?_) | (refine AL.noU rfl ⟨_, rfl, rfl⟩ rfl ?_) | (refine AL.rpy rfl rfl rfl (rp_move rfl rfl) ?_))
      (first | (refine AL.noV rfl rfl rfl rfl ?_) | (refine AL.noU rfl ⟨_, rfl, rfl⟩ rfl ?_) | (refine AL.rpy rfl rfl rfl (rp_move rfl rfl) ?_))
      (first | (refine AL.noV rfl rfl rfl rfl ?_) | (refine AL.noU rfl ⟨_, rfl, rfl⟩ rfl ?_) | (refine AL.rpy rfl rfl rfl (rp_index_str Tryd.underlying9 rfl rfl rfl (by first | rfl | omega) (by assumption)) ?_))
      (first | (refine AL.noV rfl rfl rfl rfl ?_) | (refine AL.noU rfl ⟨_, rfl, rfl⟩ rfl ?_) | (refine AL.rpy rfl rfl rfl (rp_gtrT rfl rfl rfl (by first | assumption | omega | (dsimp only; omega))) ?_) | (refine AL.rpy rfl rfl rfl (rp_gtrF rfl rfl rfl (by first | assumption | omega | (dsimp only; omega))) ?_) | (refine AL.rpy rfl rfl rfl (rp_gtr rfl rfl rfl) ?_))
      (first | (refine AL.noV rfl rfl rfl rfl ?_) | (refine AL.noU rfl ⟨_, rfl, rfl⟩ rfl ?_) | (refine AL.rpy rfl rfl rfl (rp_pick rfl rfl rfl) ?_))
      refine AL.rp rfl rfl (rp_pick rfl rfl rfl) ?_
      refine AL.rp rfl rfl (rp_assign rfl rfl) ?_
      refine AL.nil ?_
      try simp only [thenS, S.put]
      refine AW.seq ?_
      refine AW.region ?_
      refine AL.rp rfl rfl (rp_move rfl rfl) ?_
      refine AL.rp rfl rfl (rp_move rfl rfl) ?_
      (first | (refine AL.noV rfl rfl rfl rfl ?_) | (refine AL.noU rfl ⟨_, rfl, rfl⟩ rfl ?_) | (refine AL.rpy rfl rfl rfl (rp_move rfl rfl) ?_))
      (first | (refine AL.no rfl rfl rfl rfl ?_) | (refine AL.noU rfl ⟨_, rfl, rfl⟩ rfl ?_) | (refine AL.cally (post := ?pc4) rfl rfl (sm_call (args := [_, _]) ?hc4 ⟨Tryd.func56, rfl, rfl, rfl, rfl⟩ rfl rfl rfl rfl) ?_; (case hc4 => (exact htr)); rintro _ rfl -; try dsimp only))
      (first | (refine AL.noV rfl rfl rfl rfl ?_) | (refine AL.noU rfl ⟨_, rfl, rfl⟩ rfl ?_) | (refine AL.rpy rfl rfl rfl (rp_eqlsT rfl rfl rfl (by assumption)) ?_) | (refine AL.rpy rfl rfl rfl (rp_eqlsF rfl rfl rfl (by assumption)) ?_) | (refine AL.rpy rfl rfl rfl (rp_eqls rfl rfl rfl) ?_))
      refine AL.rp rfl rfl (rp_pick rfl rfl rfl) ?_
      refine AL.rp rfl rfl (rp_assign rfl rfl) ?_
      refine AL.nil ?_
      try simp only [thenS, S.put, S.newObj, setL, V.cs, List.length_cons, List.length_nil, List.take_succ_cons, List.take_zero, List.drop_succ_cons, List.drop_zero, List.drop_nil, List.nil_append, List.cons_append, List.append_nil, Nat.zero_add, Nat.reduceAdd, List.map_cons, List.map_nil, List.set_cons_zero, List.set_cons_succ]
      refine AW.ret ?_
      exact ⟨[_], ⟨rfl, trivial⟩, rfl, by simp [tupOf, V.pure, V.has, V.hasL]⟩
  ·have hR : nmB l = false := nmB_false fun ⟨_, h2, _⟩ => by omega
   rw [hR]
   have hcon : Fn Tryd.prog 56 [.s s, .s ⟨#[97, 98, 99, 100, 101, 102, 103, 104, 105, 106, 107, 108, 109, 110, 111, 112, 113, 114, 115, 116, 117, 118, 119, 120, 121, 122, 48, 49, 50, 51, 52, 53, 54, 55, 56, 57, 95]⟩] (fun v => v = .s ⟨(Lib.trimS s.data.toList nmAl).toArray⟩) → True := fun _ => trivial
   refine Fn.intro (n := 28) ⟨Tryd.func32, rfl, rfl, rfl, rfl⟩ (by simp [V.pure, V.has, V.hasL]) (by simp) fun w0 out => ?_
   refine AW.seq ?_
   refine AW.region ?_
   refine AL.rp rfl rfl (rp_assign rfl rfl) ?_
   refine AL.nil ?_
   try simp only [thenS, S.put, enum, List.nil_append, List.cons_append, List.append_nil, Nat.zero_add, Nat.reduceAdd]
   refine AW.seq ?_
   refine AW.region ?_
   refine AL.rp rfl rfl (rp_move rfl rfl) ?_
   (first | (refine AL.rp rfl rfl (rp_len_map Tryd.underlying9 rfl rfl (by assumption)) ?_) | (refine AL.rp rfl rfl (rp_len_own Tryd.underlying9 rfl rfl) ?_) | (refine AL.rp rfl rfl (rp_len_sl Tryd.underlying9 rfl rfl) ?_) | (refine AL.rp rfl rfl (rp_len_nil Tryd.underlying9 rfl rfl) ?_) | (refine AL.rp rfl rfl (rp_len_str Tryd.underlying9 rfl rfl) ?_))
   (first | (refine AL.rp rfl rfl (rp_geqT rfl rfl rfl (by first | assumption | omega | (dsimp only; omega))) ?_) | (refine AL.rp rfl rfl (rp_geqF rfl rfl rfl (by first | assumption | omega | (dsimp only; omega))) ?_) | (refine AL.rp rfl rfl (rp_geq rfl rfl rfl) ?_))
   refine AL.rp rfl rfl (rp_move rfl rfl) ?_
   (first | (refine AL.noV rfl rfl rfl rfl ?_) | (refine AL.noU rfl ⟨_, rfl, rfl⟩ rfl ?_) | (refine AL.rpy rfl rfl rfl (rp_move rfl rfl) ?_))
   (first | (refine AL.noV rfl rfl rfl rfl ?_) | (refine AL.noU rfl ⟨_, rfl, rfl⟩ rfl ?_) | (refine AL.rpy rfl rfl rfl (rp_len_map Tryd.underlying9 rfl rfl (by assumption)) ?_) | (refine AL.rpy rfl rfl rfl (rp_len_own Tryd.underlying9 rfl rfl) ?_) | (refine AL.rpy rfl rfl rfl (rp_len_sl Tryd.underlying9 rfl rfl) ?_) | (refine AL.rpy rfl rfl rfl (rp_len_nil Tryd.underlying9 rfl rfl) ?_) | (refine AL.rpy rfl rfl rfl (rp_len_str Tryd.underlying9 rfl rfl) ?_))
   (first | (refine AL.noV rfl rfl rfl rfl ?_) | (refine AL.noU rfl ⟨_, rfl, rfl⟩ rfl ?_) | (refine AL.rpy rfl rfl rfl (rp_leqT rfl rfl rfl (by first | assumption | omega | (dsimp only; omega))) ?_) | (refine AL.rpy rfl rfl rfl (rp_leqF rfl rfl rfl (by first | assumption | omega | (dsimp only; omega))) ?_) | (refine AL.rpy rfl rfl rfl (rp_leq rfl rfl rfl) ?_))
   refine AL.rp rfl rfl (rp_pick rfl rfl rfl) ?_
   refine AL.rp rfl rfl (rp_move rfl rfl) ?_
   (first | (refine AL.noV rfl rfl rfl rfl ?_) | (refine AL.noU rfl ⟨_, rfl, rfl⟩ rfl ?_) | (refine AL.rpy rfl rfl rfl (rp_move rfl rfl) ?_))
   (first | (refine AL.noV rfl rfl rfl rfl ?_) | (refine AL.noU rfl ⟨_, rfl, rfl⟩ rfl ?_) | (refine AL.rpy rfl rfl rfl (rp_index_str Tryd.underlying9 rfl rfl rfl (by first | rfl | omega) (by assumption)) ?_))
   (first | (refine AL.noV rfl rfl rfl rfl ?_) | (refine AL.noU rfl ⟨_, rfl, rfl⟩ rfl ?_) | (refine AL.rpy rfl rfl rfl (rp_lssT rfl rfl rfl (by first | assumption | omega | (dsimp only; omega))) ?_) | (refine AL.rpy rfl rfl rfl (rp_lssF rfl rfl rfl (by first | assumption | omega | (dsimp only; omega))) ?_) | (refine AL.rpy rfl rfl rfl (rp_lss rfl rfl rfl) ?_))
   (first | (refine AL.noV rfl rfl rfl rfl ?_) | (refine AL.noU rfl ⟨_, rfl, rfl⟩ rfl ?_) | (refine AL.rpy rfl rfl rfl (rp_move rfl rfl) ?_))
   (first | (refine AL.noV rfl rfl rfl rfl ?_) | (refine AL.noU rfl ⟨_, rfl, rfl⟩ rfl ?_) | (refine AL.rpy rfl rfl rfl (rp_move rfl rfl) ?_))
   (first | (refine AL.noV rfl rfl rfl rfl ?_) | (refine AL.noU rfl ⟨_, rfl, rfl⟩ rfl ?_) | (refine AL.rpy rfl rfl rfl (rp_index_str Tryd.underlying9 rfl rfl rfl (by first | rfl | omega) (by assumption)) ?_))
   (first | (refine AL.noV rfl rfl rfl rfl ?_) | (refine AL.noU rfl ⟨_, rfl, rfl⟩ rfl ?_) | (refine AL.rpy rfl rfl rfl (rp_gtrT rfl rfl rfl (by first | assumption | omega | (dsimp only; omega))) ?_) | (refine AL.rpy rfl rfl rfl (rp_gtrF rfl rfl rfl (by first | assumption | omega | (dsimp only; omega))) ?_) | (refine AL.rpy rfl rfl rfl (rp_gtr rfl rfl rfl) ?_))
   (first | (refine AL.noV rfl rfl rfl rfl ?_) | (refine AL.noU rfl ⟨_, rfl, rfl⟩ rfl ?_) | (refine AL.rpy rfl rfl rfl (rp_pick rfl rfl rfl) ?_))
   refine AL.rp rfl rfl (rp_pick rfl rfl rfl) ?_
   refine AL.rp rfl rfl (rp_assign rfl rfl) ?_
   refine AL.nil ?_
   try simp only [thenS, S.put]
   refine AW.seq ?_
   refine AW.region ?_
   refine AL.rp rfl rfl (rp_move rfl rfl) ?_
   refine AL.rp rfl rfl (rp_move rfl rfl) ?_
   (first | (refine AL.noV rfl rfl rfl rfl ?_) | (refine AL.noU rfl ⟨_, rfl, rfl⟩ rfl ?_) | (refine AL.rpy rfl rfl rfl (rp_move rfl rfl) ?_))
   (first | (refine AL.no rfl rfl rfl rfl ?_) | (refine AL.noU rfl ⟨_, rfl, rfl⟩ rfl ?_) | (refine AL.cally (post := ?pc5) rfl rfl (sm_call (args := [_, _]) ?hc5 ⟨Tryd.func56, rfl, rfl, rfl, rfl⟩ rfl rfl rfl rfl) ?_; (case hc5 => (exact am_TrimN _ (by omega))); rintro _ rfl -; try dsimp only))
   (first | (refine AL.noV rfl rfl rfl rfl ?_) | (refine AL.noU rfl ⟨_, rfl, rfl⟩ rfl ?_) | (refine AL.rpy rfl rfl rfl (rp_eqlsT rfl rfl rfl (by assumption)) ?_) | (refine AL.rpy rfl rfl rfl (rp_eqlsF rfl rfl rfl (by assumption)) ?_) | (refine AL.rpy rfl rfl rfl (rp_eqls rfl rfl rfl) ?_))
   refine AL.rp rfl rfl (rp_pick rfl rfl rfl) ?_
   refine AL.rp rfl rfl (rp_assign rfl rfl) ?_
   refine AL.nil ?_
   try simp only [thenS, S.put, S.newObj, setL, V.cs, List.length_cons, List.length_nil, List.take_succ_cons, List.take_zero, List.drop_succ_cons, List.drop_zero, List.drop_nil, List.nil_append, List.cons_append, List.append_nil, Nat.zero_add, Nat.reduceAdd, List.map_cons, List.map_nil, List.set_cons_zero, List.set_cons_succ]
   refine AW.ret ?_
   exact ⟨[_], ⟨rfl, trivial⟩, rfl, by simp [tupOf, V.pure, V.has, V.hasL]⟩
 ·have hR : nmB l = false := nmB_false fun ⟨h2, _, _⟩ => by omega
  rw [hR]
  refine Fn.intro (n := 28) ⟨Tryd.func32, rfl, rfl, rfl, rfl⟩ (by simp [V.pure, V.has, V.hasL]) (by simp) fun w0 out => ?_
  refine AW.seq ?_
  refine AW.region ?_
  refine AL.rp rfl rfl (rp_assign rfl rfl) ?_
  refine AL.nil ?_
  try simp only [thenS, S.put, enum, List.nil_append, List.cons_append, List.append_nil, Nat.zero_add, Nat.reduceAdd]
  refine AW.seq ?_
  refine AW.region ?_
  refine AL.rp rfl rfl (rp_move rfl rfl) ?_
  (first | (refine AL.rp rfl rfl (rp_len_map Tryd.underlying9 rfl rfl (by assumption)) ?_) | (refine AL.rp rfl rfl (rp_len_own Tryd.underlying9 rfl rfl) ?_) | (refine AL.rp rfl rfl (rp_len_sl Tryd.underlying9 rfl rfl) ?_) | (refine AL.rp rfl rfl (rp_len_nil Tryd.underlying9 rfl rfl) ?_) | (refine AL.rp rfl rfl (rp_len_str Tryd.underlying9 rfl rfl) ?_))
  (first | (refine AL.rp rfl rfl (rp_geqT rfl rfl rfl (by first | assumption | omega | (dsimp only; omega))) ?_) | (refine AL.rp rfl rfl (rp_geqF rfl rfl rfl (by first | assumption | omega | (dsimp only; omega))) ?_) | (refine AL.rp rfl rfl (rp_geq rfl rfl rfl) ?_))
  refine AL.rp rfl rfl (rp_move rfl rfl) ?_
  (first | (refine AL.noV rfl rfl rfl rfl ?_) | (refine AL.noU rfl ⟨_, rfl, rfl⟩ rfl ?_) | (refine AL.rpy rfl rfl rfl (rp_move rfl rfl) ?_))
  (first | (refine AL.noV rfl rfl rfl rfl ?_) | (refine AL.noU rfl ⟨_, rfl, rfl⟩ rfl ?_) | (refine AL.rpy rfl rfl rfl (rp_len_map Tryd.underlying9 rfl rfl (by assumption)) ?_) | (refine AL.rpy rfl rfl rfl (rp_len_own Tryd.underlying9 rfl rfl) ?_) | (refine AL.rpy rfl rfl rfl (rp_len_sl Tryd.underlying9 rfl rfl) ?_) | (refine AL.rpy rfl rfl rfl (rp_len_nil Tryd.underlying9 rfl rfl) ?_) | (refine AL.rpy rfl rfl rfl (rp_len_str Tryd.underlying9 rfl rfl) ?_))
  (first | (refine AL.noV rfl rfl rfl rfl ?_) | (refine AL.noU rfl ⟨_, rfl, rfl⟩ rfl ?_) | (refine AL.rpy rfl rfl rfl (rp_leqT rfl rfl rfl (by first | assumption | omega | (dsimp only; omega))) ?_) | (refine AL.rpy rfl rfl rfl (rp_leqF rfl rfl rfl (by first | assumption | omega | (dsimp only; omega))) ?_) | (refine AL.rpy rfl rfl rfl (rp_leq rfl rfl rfl) ?_))
  refine AL.rp rfl rfl (rp_pick rfl rfl rfl) ?_
  refine AL.rp rfl rfl (rp_move rfl rfl) ?_
  (first | (refine AL.noV rfl rfl rfl rfl ?_) | (refine AL.noU rfl ⟨_, rfl, rfl⟩ rfl ?_) | (refine AL.rpy rfl rfl rfl (rp_move rfl rfl) ?_))
  (first | (refine AL.noV rfl rfl rfl rfl ?_) | (refine AL.noU rfl ⟨_, rfl, rfl⟩ rfl ?_) | (refine AL.rpy rfl rfl rfl (rp_index_str Tryd.underlying9 rfl rfl rfl (by first | rfl | omega) (by assumption)) ?_))
  (first | (refine AL.noV rfl rfl rfl rfl ?_) | (refine AL.noU rfl ⟨_, rfl, rfl⟩ rfl ?_) | (refine AL.rpy rfl rfl rfl (rp_lssT rfl rfl rfl (by first | assumption | omega | (dsimp only; omega))) ?_) | (refine AL.rpy rfl rfl rfl (rp_lssF rfl rfl rfl (by first | assumption | omega | (dsimp only; omega))) ?_) | (refine AL.rpy rfl rfl rfl (rp_lss rfl rfl rfl) ?_))
  (first | (refine AL.noV rfl rfl rfl rfl ?_) | (refine AL.noU rfl ⟨_, rfl, rfl⟩ rfl ?_) | (refine AL.rpy rfl rfl rfl (rp_move rfl rfl) ?_))
  (first | (refine AL.noV rfl rfl rfl rfl ?_) | (refine AL.noU rfl ⟨_, rfl, rfl⟩ rfl ?_) | (refine AL.rpy rfl rfl rfl (rp_move rfl rfl) ?_))
  (first | (refine AL.noV rfl rfl rfl rfl ?_) | (refine AL.noU rfl ⟨_, rfl, rfl⟩ rfl ?_) | (refine AL.rpy rfl rfl rfl (rp_index_str Tryd.underlying9 rfl rfl rfl (by first | rfl | omega) (by assumption)) ?_))
  (first | (refine AL.noV rfl rfl rfl rfl ?_) | (refine AL.noU rfl ⟨_, rfl, rfl⟩ rfl ?_) | (refine AL.rpy rfl rfl rfl (rp_gtrT rfl rfl rfl (by first | assumption | omega | (dsimp only; omega))) ?_) | (refine AL.rpy rfl rfl rfl (rp_gtrF rfl rfl rfl (by first | assumption | omega | (dsimp only; omega))) ?_) | (refine AL.rpy rfl rfl rfl (rp_gtr rfl rfl rfl) ?_))
  (first | (refine AL.noV rfl rfl rfl rfl ?_) | (refine AL.noU rfl ⟨_, rfl, rfl⟩ rfl ?_) | (refine AL.rpy rfl rfl rfl (rp_pick rfl rfl rfl) ?_))
  refine AL.rp rfl rfl (rp_pick rfl rfl rfl) ?_
  refine AL.rp rfl rfl (rp_assign rfl rfl) ?_
  refine AL.nil ?_
  try simp only [thenS, S.put]
  refine AW.seq ?_
  refine AW.region ?_
  refine AL.rp rfl rfl (rp_move rfl rfl) ?_
  refine AL.rp rfl rfl (rp_move rfl rfl) ?_
  (first | (refine AL.noV rfl rfl rfl rfl ?_) | (refine AL.noU rfl ⟨_, rfl, rfl⟩ rfl ?_) | (refine AL.rpy rfl rfl rfl (rp_move rfl rfl) ?_))
  (first | (refine AL.no rfl rfl rfl rfl ?_) | (refine AL.noU rfl ⟨_, rfl, rfl⟩ rfl ?_) | (refine AL.cally (post := ?pc6) rfl rfl (sm_call (args := [_, _]) ?hc6 ⟨Tryd.func56, rfl, rfl, rfl, rfl⟩ rfl rfl rfl rfl) ?_; (case hc6 => (exact am_TrimN _ (by omega))); rintro _ rfl -; try dsimp only))
  (first | (refine AL.noV rfl rfl rfl rfl ?_) | (refine AL.noU rfl ⟨_, rfl, rfl⟩ rfl ?_) | (refine AL.rpy rfl rfl rfl (rp_eqlsT rfl rfl rfl (by assumption)) ?_) | (refine AL.rpy rfl rfl rfl (rp_eqlsF rfl rfl rfl (by assumption)) ?_) | (refine AL.rpy rfl rfl rfl (rp_eqls rfl rfl rfl) ?_))
  refine AL.rp rfl rfl (rp_pick rfl rfl rfl) ?_
  refine AL.rp rfl rfl (rp_assign rfl rfl) ?_
  refine AL.nil ?_
  try simp only [thenS, S.put, S.newObj, setL, V.cs, List.length_cons, List.length_nil, List.take_succ_cons, List.take_zero, List.drop_succ_cons, List.drop_zero, List.drop_nil, List.nil_append, List.cons_append, List.append_nil, Nat.zero_add, Nat.reduceAdd, List.map_cons, List.map_nil, List.set_cons_zero, List.set_cons_succ]
  refine AW.ret ?_
  exact ⟨[_], ⟨rfl, trivial⟩, rfl, by simp [tupOf, V.pure, V.has, V.hasL]⟩
end Go.Proofs.YtbffolmgkkknpaaDoor

namespace Go.Proofs.YtbffolmgkkknpaaDoor
open Go.RowKit
set_option linter.unusedSimpArgs false
set_option linter.unusedVariables false
set_option maxRecDepth 100000

/-- What the package's table of forms holds. -/
def fmRow (k : Nat) : List Value := [.int .i64 (k : Int), .string (wdK k), .string (arK (ptK k))]
def preF (w : World) : Prop := ∀ k, 1 ≤ k → k ≤ 15 → ∀ j v, (fmRow k)[j]? = some v → w.cell? ⟨0, (k - 1) * 3 + j, none⟩ = some v
theorem preF_kept : Kept preF := fun w w' hb h k h1 h2 j v hj => (hb.cell (p := ⟨0, (k - 1) * 3 + j, none⟩) (by
 have := h k h1 h2 j v hj
 unfold World.cell? at this
 rcases Nat.lt_or_ge 0 w.heap.size with h' | h'
 ·exact h'
 ·rw [Array.getElem?_eq_none h'] at this
  cases this)).trans (h k h1 h2 j v hj)
theorem cmp_neq_45F {c : Cx} {s : S} {o : Oper} {t' : TypeId} {x y : Operand} {k1 t1 a1 b1 k2 t2 a2 b2 : Int} {n1 n2 : ByteArray} (hP : c.P = Tryd.prog) (ho : o.op = .binOp .neq 45 x y t') (hx : s.ev x = some (.agg [.i k1, .i t1, .i a1, .i b1, .s n1])) (hy : s.ev y = some (.agg [.i k2, .i t2, .i a2, .i b2, .s n2])) (h : (⟨k1, t1, a1, b1, n1⟩ : Stp) = ⟨k2, t2, a2, b2, n2⟩) : RP c o s (.b false) := by
 cases h
 refine rp_bin_agg [.int .i64 k1, .int .i64 t1, .int .i64 a1, .int .i64 b1, .string n1] [.int .i64 k1, .int .i64 t1, .int .i64 a1, .int .i64 b1, .string n1] ho hx hy (fun w => ?_) (fun w => ?_)
 ·rw [hP]; simp [go_sem]
 ·rw [hP]; simp [go_sem]
theorem cmp_neq_45T {c : Cx} {s : S} {o : Oper} {t' : TypeId} {x y : Operand} {k1 t1 a1 b1 k2 t2 a2 b2 : Int} {n1 n2 : ByteArray} (hP : c.P = Tryd.prog) (ho : o.op = .binOp .neq 45 x y t') (hx : s.ev x = some (.agg [.i k1, .i t1, .i a1, .i b1, .s n1])) (hy : s.ev y = some (.agg [.i k2, .i t2, .i a2, .i b2, .s n2])) (h : (⟨k1, t1, a1, b1, n1⟩ : Stp) ≠ ⟨k2, t2, a2, b2, n2⟩) : RP c o s (.b true) := by
 refine rp_bin_agg [.int .i64 k1, .int .i64 t1, .int .i64 a1, .int .i64 b1, .string n1] [.int .i64 k2, .int .i64 t2, .int .i64 a2, .int .i64 b2, .string n2] ho hx hy (fun w => ?_) (fun w => ?_)
 ·rw [hP]; simp [go_sem]
 ·rw [hP]
  simp [go_sem]
  intro e1 e2 e3 e4 e5
  refine h ?_
  rw [ba_toList, ba_toList] at e5
  rw [e1, e2, e3, e4, show n1 = n2 from ByteArray.ext (Array.toList_inj.1 e5)]
theorem drop_get {l : List UInt8} {j : Nat} {b : UInt8} (h : l[j]? = some b) : l.drop j = b :: l.drop (j + 1) := by
 obtain ⟨h1, h2⟩ := List.getElem?_eq_some_iff.1 h
 rw [List.drop_eq_getElem_cons h1, h2]
theorem nmB_size {n : ByteArray} (h : nmB n.data.toList = true) : n.size ≤ 12 := by
 have hl : n.data.toList.length = n.size := Array.length_toList
 refine Classical.byContradiction fun hn => ?_
 rw [nmB_false fun ⟨_, h2, _⟩ => by omega] at h
 cases h
set_option maxHeartbeats 4000000 in
theorem am_shown (x : Stp) : FnP preF Tryd.prog 16 [.agg ((stpD x).map V.d)] (fun v => v = .tup [.s (stS x), .i (stE x)]) := by
 by_cases hk : 1 ≤ x.k ∧ x.k ≤ 15
 ·obtain ⟨k, hkk⟩ : ∃ k : Nat, x.k = k := ⟨x.k.toNat, by omega⟩
  obtain ⟨p, hp⟩ : ∃ p, ptK k = p := ⟨_, rfl⟩
  have hp4 : p < 4 := hp ▸ ptK_lt k (by omega)
  have hspec := prR_spec x k p hkk (by omega) (by omega) hp
  obtain ⟨S1, hS1⟩ : ∃ S1, stS x = S1 := ⟨_, rfl⟩
  obtain ⟨E1, hE1⟩ : ∃ E1, stE x = E1 := ⟨_, rfl⟩
  rw [hS1, hE1] at hspec ⊢
  clear hS1 hE1
  obtain ⟨xk, xt, xa, xb, xn⟩ := x
  simp only at hk hkk
  subst hkk
  dsimp only at hspec
  have hlet := arK_let p hp4
  have hlen := arK_len p hp4
  have hws := wdK_size k (by omega)
  obtain ⟨ls, hls⟩ : ∃ ls, (arK p).data.toList = ls := ⟨_, rfl⟩
  obtain ⟨len, hln⟩ : ∃ n, ls.length = n := ⟨_, rfl⟩
  have hsz : (arK p).size = len := by rw [← hln, ← hls]; exact Array.length_toList.symm
  rw [hls] at hspec hlet hlen
  rw [hln] at hlen
  have hs32 : (⟨#[32]⟩ : ByteArray).size = 1 := rfl
  have hs10 : (⟨#[10]⟩ : ByteArray).size = 1 := rfl
  simp only [stpD, List.map_cons, List.map_nil]
  refine FnP.intro (n := 70) ⟨Tryd.func16, rfl, rfl, rfl, rfl⟩ (by simp [V.pure, V.has, V.hasL]) (by simp) fun w0 out hpre => ?_
  have hfm := hpre k (by omega) (by omega)
  rw [fmRow, hp] at hfm
  refine AW.seq ?_
  refine AW.region ?_
  refine AL.sm rfl (sm_box 1 rfl rfl rfl (by first | rfl | simp [S.clean, S.put, S.newObj, S.forget, V.has, V.hasL, junkIf, setL, V.cs, hasL_i, hasL_d, hasL_b, hasL_s, hasL_n, hasL_rep, hasL_flat, hasL_append, -List.map_set]) rfl) ?_
  refine AL.rp rfl rfl (rp_assign rfl rfl) ?_
  refine AL.rp rfl rfl (rp_assign rfl rfl) ?_
  refine AL.nil ?_
  try simp only [thenS, S.put, S.newObj, setL, V.cs, List.length_cons, List.length_nil, List.take_succ_cons, List.take_zero, List.drop_succ_cons, List.drop_zero, List.drop_nil, List.nil_append, List.cons_append, List.append_nil, Nat.zero_add, Nat.reduceAdd, List.map_cons, List.map_nil, List.set_cons_zero, List.set_cons_succ, enum]
  refine AW.seq ?_
  refine AW.seq ?_
  refine AW.region ?_
  (first | (refine AL.rp rfl rfl (rp_field_ref Tryd.underlying45 rfl rfl rfl inf3 (by decide) rfl) ?_) | (refine AL.rp rfl rfl (rp_field_ad Tryd.underlying45 rfl rfl rfl inf3 (by decide) rfl) ?_))
  (first | (refine AL.rd rfl rfl (rd_load_ref Tryd.underlying3 rfl rfl rfl rfl rfl rfl) ?_) | (refine AL.rd rfl rfl (rd_load_ad Tryd.underlying3 rfl rfl rfl rfl) ?_) | (refine AL.rd rfl rfl (rd_load_map Tryd.underlying3 rfl rfl rfl rfl rfl rfl (by assumption)) ?_) | (refine AL.rd rfl rfl (rd_load_flat Tryd.underlying3 rfl rfl rfl rfl rfl rfl (fun _ => rfl) (by assumption) rfl) ?_))
  (first | (refine AL.rp rfl rfl (rp_lssT rfl rfl rfl (by first | assumption | omega | (dsimp only; omega))) ?_) | (refine AL.rp rfl rfl (rp_lssF rfl rfl rfl (by first | assumption | omega | (dsimp only; omega))) ?_) | (refine AL.rp rfl rfl (rp_lss rfl rfl rfl) ?_))
  refine AL.rp rfl rfl (rp_move rfl rfl) ?_
  (first | (refine AL.noV rfl rfl rfl rfl ?_) | (refine AL.noU rfl ⟨_, rfl, rfl⟩ rfl ?_) | (refine AL.rpy rfl rfl rfl (rp_field_ref Tryd.underlying45 rfl rfl rfl inf3 (by decide) rfl) ?_) | (refine AL.rpy rfl rfl rfl (rp_field_ad Tryd.underlying45 rfl rfl rfl inf3 (by decide) rfl) ?_))
  (first | (refine AL.noV rfl rfl rfl rfl ?_) | (refine AL.noU rfl ⟨_, rfl, rfl⟩ rfl ?_) | (refine AL.rdy rfl rfl rfl (rd_load_ref Tryd.underlying3 rfl rfl rfl rfl rfl rfl) ?_) | (refine AL.rdy rfl rfl rfl (rd_load_ad Tryd.underlying3 rfl rfl rfl rfl) ?_) | (refine AL.rdy rfl rfl rfl (rd_load_map Tryd.underlying3 rfl rfl rfl rfl rfl rfl (by assumption)) ?_) | (refine AL.rdy rfl rfl rfl (rd_load_flat Tryd.underlying3 rfl rfl rfl rfl rfl rfl (fun _ => rfl) (by assumption) rfl) ?_))
  (first | (refine AL.noV rfl rfl rfl rfl ?_) | (refine AL.noU rfl ⟨_, rfl, rfl⟩ rfl ?_) | (refine AL.rpy rfl rfl rfl (rp_gtrT rfl rfl rfl (by first | assumption | omega | (dsimp only; omega))) ?_) | (refine AL.rpy rfl rfl rfl (rp_gtrF rfl rfl rfl (by first | assumption | omega | (dsimp only; omega))) ?_) | (refine AL.rpy rfl rfl rfl (rp_gtr rfl rfl rfl) ?_))
  refine AL.rp rfl rfl (rp_pick rfl rfl rfl) ?_
  refine AL.nil ?_
  try simp only [thenS, S.put]
  refine AW.condF rfl ?_
  refine AW.skip ?_
  try simp only [thenS]
  refine AW.seq ?_
  refine AW.region ?_
  (first | (refine AL.rp rfl rfl (rp_field_ref Tryd.underlying45 rfl rfl rfl inf3 (by decide) rfl) ?_) | (refine AL.rp rfl rfl (rp_field_ad Tryd.underlying45 rfl rfl rfl inf3 (by decide) rfl) ?_))
  (first | (refine AL.rd rfl rfl (rd_load_ref Tryd.underlying3 rfl rfl rfl rfl rfl rfl) ?_) | (refine AL.rd rfl rfl (rd_load_ad Tryd.underlying3 rfl rfl rfl rfl) ?_) | (refine AL.rd rfl rfl (rd_load_map Tryd.underlying3 rfl rfl rfl rfl rfl rfl (by assumption)) ?_) | (refine AL.rd rfl rfl (rd_load_flat Tryd.underlying3 rfl rfl rfl rfl rfl rfl (fun _ => rfl) (by assumption) rfl) ?_))
  refine AL.rp rfl rfl (rp_sub rfl rfl rfl (by first | omega | (dsimp only; omega))) ?_
  refine AL.rp rfl rfl (rp_indexG (k := k - 1) Tryd.underlying72 inf71 rfl rfl rfl (by omega) (by omega) (by decide)) ?_
  refine AL.rd rfl rfl (rd_loadsG ([.int .i64 (k : Int), .string (wdK k), .string (arK p)]) Tryd.underlying71 rfl inf71 rfl rfl rfl (by assumption)) ?_
  refine AL.sm rfl (sm_alloc (l := [.d (.p (.int .i64 0)), .d (.p (.string ⟨#[]⟩)), .d (.p (.string ⟨#[]⟩))]) 4 inf71 rfl (by first | rfl | simp [S.clean, S.put, S.newObj, S.forget, V.has, V.hasL, junkIf, setL, V.cs, hasL_i, hasL_d, hasL_b, hasL_s, hasL_n, hasL_rep, hasL_flat, hasL_append, -List.map_set]) rfl rfl) ?_
  refine AL.st rfl (st_store_any inf71 rfl rfl rfl rfl rfl rfl rfl rfl (by first | decide | (simp; done) | (simp; omega)) rfl) ?_
  refine AL.nil ?_
  try simp only [thenS, S.put, S.newObj, setL, V.cs, List.length_cons, List.length_nil, List.take_succ_cons, List.take_zero, List.drop_succ_cons, List.drop_zero, List.drop_nil, List.nil_append, List.cons_append, List.append_nil, Nat.zero_add, Nat.reduceAdd, List.map_cons, List.map_nil, List.set_cons_zero, List.set_cons_succ]
  refine AW.seq ?_
  refine AW.region ?_
  (first | (refine AL.rp rfl rfl (rp_field_ref Tryd.underlying71 rfl rfl rfl inf9 (by decide) rfl) ?_) | (refine AL.rp rfl rfl (rp_field_ad Tryd.underlying71 rfl rfl rfl inf9 (by decide) rfl) ?_))
  (first | (refine AL.rd rfl rfl (rd_load_ref Tryd.underlying9 rfl rfl rfl rfl rfl rfl) ?_) | (refine AL.rd rfl rfl (rd_load_ad Tryd.underlying9 rfl rfl rfl rfl) ?_) | (refine AL.rd rfl rfl (rd_load_map Tryd.underlying9 rfl rfl rfl rfl rfl rfl (by assumption)) ?_) | (refine AL.rd rfl rfl (rd_load_flat Tryd.underlying9 rfl rfl rfl rfl rfl rfl (fun _ => rfl) (by assumption) rfl) ?_))
  refine AL.rp rfl rfl (rp_assign rfl rfl) ?_
  refine AL.nil ?_
  try simp only [thenS, S.put]
  refine AW.seq ?_
  refine AW.region ?_
  (first | (refine AL.rd rfl rfl (rd_loads_ref Tryd.underlying45 rfl inf45 rfl rfl rfl rfl rfl rfl) ?_) | (refine AL.rd rfl rfl (rd_loads_ad Tryd.underlying45 rfl inf45 rfl rfl rfl rfl) ?_))
  refine AL.sm rfl (sm_alloc (l := [.d (.p (.int .i64 0)), .d (.p (.int .i64 0)), .d (.p (.int .i64 0)), .d (.p (.int .i64 0)), .d (.p (.string ⟨#[]⟩))]) 6 inf45 rfl (by first | rfl | simp [S.clean, S.put, S.newObj, S.forget, V.has, V.hasL, junkIf, setL, V.cs, hasL_i, hasL_d, hasL_b, hasL_s, hasL_n, hasL_rep, hasL_flat, hasL_append, -List.map_set]) rfl rfl) ?_
  refine AL.st rfl (st_store_any inf45 rfl rfl rfl rfl rfl rfl rfl rfl (by first | decide | (simp; done) | (simp; omega)) rfl) ?_
  refine AL.nil ?_
  try simp only [thenS, S.put, S.newObj, setL, V.cs, List.length_cons, List.length_nil, List.take_succ_cons, List.take_zero, List.drop_succ_cons, List.drop_zero, List.drop_nil, List.nil_append, List.cons_append, List.append_nil, Nat.zero_add, Nat.reduceAdd, List.map_cons, List.map_nil, List.set_cons_zero, List.set_cons_succ]
  refine AW.seq ?_
  refine AW.region ?_
  (first | (refine AL.rp rfl rfl (rp_field_ref Tryd.underlying45 rfl rfl rfl inf3 (by decide) rfl) ?_) | (refine AL.rp rfl rfl (rp_field_ad Tryd.underlying45 rfl rfl rfl inf3 (by decide) rfl) ?_))
  (first | (refine AL.st rfl (st_store_map2 inf3 rfl rfl rfl rfl rfl rfl rfl rfl (by first | assumption | omega)) ?_) | (refine AL.st rfl (st_store inf3 rfl rfl rfl rfl rfl rfl rfl (by first | decide | (simp; done)) rfl) ?_))
  refine AL.nil ?_
  try simp only [thenS, S.put, S.newObj, setL, V.cs, List.length_cons, List.length_nil, List.take_succ_cons, List.take_zero, List.drop_succ_cons, List.drop_zero, List.drop_nil, List.nil_append, List.cons_append, List.append_nil, Nat.zero_add, Nat.reduceAdd, List.map_cons, List.map_nil, List.set_cons_zero, List.set_cons_succ]
  refine AW.seq ?_
  refine AW.seq ?_
  refine AW.region ?_
  (first | (refine AL.rp rfl rfl (rp_field_ref Tryd.underlying71 rfl rfl rfl inf9 (by decide) rfl) ?_) | (refine AL.rp rfl rfl (rp_field_ad Tryd.underlying71 rfl rfl rfl inf9 (by decide) rfl) ?_))
  (first | (refine AL.rd rfl rfl (rd_load_ref Tryd.underlying9 rfl rfl rfl rfl rfl rfl) ?_) | (refine AL.rd rfl rfl (rd_load_ad Tryd.underlying9 rfl rfl rfl rfl) ?_) | (refine AL.rd rfl rfl (rd_load_map Tryd.underlying9 rfl rfl rfl rfl rfl rfl (by assumption)) ?_) | (refine AL.rd rfl rfl (rd_load_flat Tryd.underlying9 rfl rfl rfl rfl rfl rfl (fun _ => rfl) (by assumption) rfl) ?_))
  refine AL.sm rfl (sm_range 700 Tryd.underlying9 rfl rfl (by first | rfl | simp [S.clean, S.put, S.newObj, S.forget, V.has, V.hasL, junkIf, setL, V.cs, hasL_i, hasL_d, hasL_b, hasL_s, hasL_n, hasL_rep, hasL_flat, hasL_append, -List.map_set]) rfl) ?_
  refine AL.nil ?_
  try simp only [thenS, S.put, S.newObj, setL, V.cs, List.length_cons, List.length_nil, List.take_succ_cons, List.take_zero, List.drop_succ_cons, List.drop_zero, List.drop_nil, List.nil_append, List.cons_append, List.append_nil, Nat.zero_add, Nat.reduceAdd, List.map_cons, List.map_nil, List.set_cons_zero, List.set_cons_succ]
  refine AW.block ?_
  refine AW.loopN (fun μ s' => ∃ (j : Nat) (L : ByteArray) (R : Stp), j + μ = len ∧ R.k = 0 ∧ L.size ≤ 7 + 14 * j ∧ proc ⟨k, xt, xa, xb, xn⟩ ls (wdK k) ⟨0, xt, xa, xb, xn⟩ = proc ⟨k, xt, xa, xb, xn⟩ (ls.drop j) L R ∧ s' = ⟨70, [(1, .ref 1 0), (5, .s L), (6, .ref 6 0), (29, .it 700 w0.heap.size (arK p) j)], [(1, ⟨45, [.i k, .i xt, .i xa, .i xb, .s xn], false, 0⟩), (6, ⟨45, [.i 0, .i R.t, .i R.a, .i R.b, .s R.n], false, 0⟩)], []⟩) ⟨len, _, ?_, 0, wdK k, ⟨0, xt, xa, xb, xn⟩, by omega, rfl, by omega, rfl, rfl⟩ ?_
  ·exact (Less.of rfl (by repeat (first | exact trivial | refine ⟨⟨_, rfl, Wk.refl _⟩, ?_⟩ | refine ⟨⟨_, rfl, Wk.nil _ _⟩, ?_⟩ | refine ⟨⟨_, rfl, Wk.junk _⟩, ?_⟩)) (by repeat (first | exact trivial | refine ⟨rfl, ?_⟩)) rfl)
  rintro μ s' ⟨j, L, ⟨Rk, Rt, Ra, Rb, Rn⟩, hj, hRk, hL, hI, rfl⟩
  simp only at hRk
  subst hRk
  dsimp only
  by_cases hlt : j < len
  ·obtain ⟨b, hb⟩ : ∃ b, ls[j]? = some b := ⟨_, List.getElem?_eq_getElem (by omega)⟩
   have hb' : (arK p).data.toList[j]? = some b := by rw [hls]; exact hb
   have hd := drop_get hb
   rw [hd] at hI
   have hb4 := hlet b (List.mem_of_getElem? hb)
   by_cases h110 : b.toNat = 110
   ·by_cases hnm : nmB xn.data.toList = true
    ·have hcn := am_scName xn
     rw [hnm] at hcn
     have hns := nmB_size hnm
     rw [proc_n h110 hnm] at hI
     dsimp only at hI
     refine AW.seq ?_
     refine AW.region ?_
     (first | (refine AL.st rfl (st_next rfl rfl (by assumption) (by omega) rfl (by first | rfl | (simp [S.put, S.newObj, setL, V.cs, V.mpsL, V.mps, D.mps, D.mpsL, D.mpsR]; done)) (by first | rfl | (simp [S.put, S.newObj, setL, V.cs, V.mpsL, V.mps, D.mps, D.mpsL, D.mpsR]; done)) (by first | rfl | (simp [S.put]; done)) rfl) ?_; simp only [S.put, List.map_cons, List.map_nil, upI_p, upI_ref, upI_junk, upI_it]) | (refine AL.rd rfl rfl (rd_nextEnd rfl rfl (by omega)) ?_))
     refine AL.rp rfl rfl (rp_extract rfl rfl rfl) ?_
     refine AL.nil ?_
     try simp only [thenS, S.put, S.newObj, setL, V.cs, List.length_cons, List.length_nil, List.take_succ_cons, List.take_zero, List.drop_succ_cons, List.drop_zero, List.drop_nil, List.nil_append, List.cons_append, List.append_nil, Nat.zero_add, Nat.reduceAdd, List.map_cons, List.map_nil, List.set_cons_zero, List.set_cons_succ]
     refine AW.seq ?_
     refine AW.condT rfl ?_
     refine AW.skip ?_
     try simp only [thenS]
     refine AW.block ?_
     refine AW.seq ?_
     refine AW.region ?_
     refine AL.rp rfl rfl (rp_extract rfl rfl rfl) ?_
     refine AL.rp rfl rfl (rp_assign rfl rfl) ?_
     refine AL.nil ?_
     try simp only [thenS, S.put]
     refine AW.seq ?_
     refine AW.seq ?_
     refine AW.region ?_
     refine AL.rp rfl rfl (rp_move rfl rfl) ?_
     (first | (refine AL.rp rfl rfl (rp_eqlT rfl rfl rfl (by first | assumption | omega | (dsimp only; omega))) ?_) | (refine AL.rp rfl rfl (rp_eqlF rfl rfl rfl (by first | assumption | omega | (dsimp only; omega))) ?_) | (refine AL.rp rfl rfl (rp_eql rfl rfl rfl) ?_))
     refine AL.nil ?_
     try simp only [thenS, S.put]
     refine AW.condT rfl ?_
     refine AW.seq ?_
     refine AW.seq ?_
     refine AW.region ?_
     (first | (refine AL.rp rfl rfl (rp_field_ref Tryd.underlying45 rfl rfl rfl inf9 (by decide) rfl) ?_) | (refine AL.rp rfl rfl (rp_field_ad Tryd.underlying45 rfl rfl rfl inf9 (by decide) rfl) ?_))
     (first | (refine AL.rd rfl rfl (rd_load_ref Tryd.underlying9 rfl rfl rfl rfl rfl rfl) ?_) | (refine AL.rd rfl rfl (rd_load_ad Tryd.underlying9 rfl rfl rfl rfl) ?_) | (refine AL.rd rfl rfl (rd_load_map Tryd.underlying9 rfl rfl rfl rfl rfl rfl (by assumption)) ?_) | (refine AL.rd rfl rfl (rd_load_flat Tryd.underlying9 rfl rfl rfl rfl rfl rfl (fun _ => rfl) (by assumption) rfl) ?_))
     refine AL.call (post := ?pc0) rfl (sm_call (args := [_]) ?hc0 ⟨Tryd.func32, rfl, rfl, rfl, rfl⟩ rfl rfl rfl rfl) ?_
     case hc0 => exact hcn
     rintro _ rfl -
     try dsimp only
     refine AL.rp rfl rfl (rp_not rfl rfl) ?_
     refine AL.nil ?_
     try simp only [thenS, S.put, S.newObj, setL, V.cs, List.length_cons, List.length_nil, List.take_succ_cons, List.take_zero, List.drop_succ_cons, List.drop_zero, List.drop_nil, List.nil_append, List.cons_append, List.append_nil, Nat.zero_add, Nat.reduceAdd, List.map_cons, List.map_nil, List.set_cons_zero, List.set_cons_succ]
     refine AW.condF rfl ?_
     refine AW.skip ?_
     try simp only [thenS]
     refine AW.seq ?_
     refine AW.region ?_
     refine AL.rp rfl rfl (rp_move rfl rfl) ?_
     (first | (refine AL.rp rfl rfl (rp_field_ref Tryd.underlying45 rfl rfl rfl inf9 (by decide) rfl) ?_) | (refine AL.rp rfl rfl (rp_field_ad Tryd.underlying45 rfl rfl rfl inf9 (by decide) rfl) ?_))
     (first | (refine AL.rd rfl rfl (rd_load_ref Tryd.underlying9 rfl rfl rfl rfl rfl rfl) ?_) | (refine AL.rd rfl rfl (rd_load_ad Tryd.underlying9 rfl rfl rfl rfl) ?_) | (refine AL.rd rfl rfl (rd_load_map Tryd.underlying9 rfl rfl rfl rfl rfl rfl (by assumption)) ?_) | (refine AL.rd rfl rfl (rd_load_flat Tryd.underlying9 rfl rfl rfl rfl rfl rfl (fun _ => rfl) (by assumption) rfl) ?_))
     refine AL.rp rfl rfl (rp_adds rfl rfl rfl (by first | assumption | omega | (simp only [ByteArray.size_append]; omega))) ?_
     refine AL.rp rfl rfl (rp_adds rfl rfl rfl (by first | assumption | omega | (simp only [ByteArray.size_append]; omega))) ?_
     refine AL.rp rfl rfl (rp_assign rfl rfl) ?_
     refine AL.nil ?_
     try simp only [thenS, S.put]
     refine AW.seq ?_
     refine AW.region ?_
     (first | (refine AL.rp rfl rfl (rp_field_ref Tryd.underlying45 rfl rfl rfl inf9 (by decide) rfl) ?_) | (refine AL.rp rfl rfl (rp_field_ad Tryd.underlying45 rfl rfl rfl inf9 (by decide) rfl) ?_))
     (first | (refine AL.st rfl (st_store_map2 inf9 rfl rfl rfl rfl rfl rfl rfl rfl (by first | assumption | omega)) ?_) | (refine AL.st rfl (st_store inf9 rfl rfl rfl rfl rfl rfl rfl (by first | decide | (simp; done)) rfl) ?_))
     refine AL.nil ?_
     try simp only [thenS, S.put, S.newObj, setL, V.cs, List.length_cons, List.length_nil, List.take_succ_cons, List.take_zero, List.drop_succ_cons, List.drop_zero, List.drop_nil, List.nil_append, List.cons_append, List.append_nil, Nat.zero_add, Nat.reduceAdd, List.map_cons, List.map_nil, List.set_cons_zero, List.set_cons_succ]
     refine AW.exit ?_
     try simp only [thenS, inBlockS, ↓reduceIte, Nat.reduceEqDiff]
     refine ⟨μ - 1, _, ?_, ⟨j + 1, L ++ (⟨#[32]⟩ ++ xn), ⟨0, Rt, Ra, Rb, ⟨#[]⟩⟩, by omega, rfl, by (simp only [ByteArray.size_append]; omega), hI, rfl⟩, by omega⟩
     exact (Less.of rfl (by repeat (first | exact trivial | refine ⟨⟨_, rfl, Wk.refl _⟩, ?_⟩ | refine ⟨⟨_, rfl, Wk.nil _ _⟩, ?_⟩ | refine ⟨⟨_, rfl, Wk.junk _⟩, ?_⟩)) (by repeat (first | exact trivial | refine ⟨rfl, ?_⟩)) rfl)
    ·have hnm' : nmB xn.data.toList = false := by simpa using hnm
     have hcn := am_scName xn
     rw [hnm'] at hcn
     rw [proc_nF h110 hnm'] at hI
     rw [hI, prR_err (by decide)] at hspec
     simp only [Prod.mk.injEq] at hspec
     obtain ⟨rfl, rfl⟩ := hspec
     refine AW.seq ?_
     refine AW.region ?_
     (first | (refine AL.st rfl (st_next rfl rfl (by assumption) (by omega) rfl (by first | rfl | (simp [S.put, S.newObj, setL, V.cs, V.mpsL, V.mps, D.mps, D.mpsL, D.mpsR]; done)) (by first | rfl | (simp [S.put, S.newObj, setL, V.cs, V.mpsL, V.mps, D.mps, D.mpsL, D.mpsR]; done)) (by first | rfl | (simp [S.put]; done)) rfl) ?_; simp only [S.put, List.map_cons, List.map_nil, upI_p, upI_ref, upI_junk, upI_it]) | (refine AL.rd rfl rfl (rd_nextEnd rfl rfl (by omega)) ?_))
     refine AL.rp rfl rfl (rp_extract rfl rfl rfl) ?_
     refine AL.nil ?_
     try simp only [thenS, S.put, S.newObj, setL, V.cs, List.length_cons, List.length_nil, List.take_succ_cons, List.take_zero, List.drop_succ_cons, List.drop_zero, List.drop_nil, List.nil_append, List.cons_append, List.append_nil, Nat.zero_add, Nat.reduceAdd, List.map_cons, List.map_nil, List.set_cons_zero, List.set_cons_succ]
     refine AW.seq ?_
     refine AW.condT rfl ?_
     refine AW.skip ?_
     try simp only [thenS]
     refine AW.block ?_
     refine AW.seq ?_
     refine AW.region ?_
     refine AL.rp rfl rfl (rp_extract rfl rfl rfl) ?_
     refine AL.rp rfl rfl (rp_assign rfl rfl) ?_
     refine AL.nil ?_
     try simp only [thenS, S.put]
     refine AW.seq ?_
     refine AW.seq ?_
     refine AW.region ?_
     refine AL.rp rfl rfl (rp_move rfl rfl) ?_
     (first | (refine AL.rp rfl rfl (rp_eqlT rfl rfl rfl (by first | assumption | omega | (dsimp only; omega))) ?_) | (refine AL.rp rfl rfl (rp_eqlF rfl rfl rfl (by first | assumption | omega | (dsimp only; omega))) ?_) | (refine AL.rp rfl rfl (rp_eql rfl rfl rfl) ?_))
     refine AL.nil ?_
     try simp only [thenS, S.put]
     refine AW.condT rfl ?_
     refine AW.seq ?_
     refine AW.seq ?_
     refine AW.region ?_
     (first | (refine AL.rp rfl rfl (rp_field_ref Tryd.underlying45 rfl rfl rfl inf9 (by decide) rfl) ?_) | (refine AL.rp rfl rfl (rp_field_ad Tryd.underlying45 rfl rfl rfl inf9 (by decide) rfl) ?_))
     (first | (refine AL.rd rfl rfl (rd_load_ref Tryd.underlying9 rfl rfl rfl rfl rfl rfl) ?_) | (refine AL.rd rfl rfl (rd_load_ad Tryd.underlying9 rfl rfl rfl rfl) ?_) | (refine AL.rd rfl rfl (rd_load_map Tryd.underlying9 rfl rfl rfl rfl rfl rfl (by assumption)) ?_) | (refine AL.rd rfl rfl (rd_load_flat Tryd.underlying9 rfl rfl rfl rfl rfl rfl (fun _ => rfl) (by assumption) rfl) ?_))
     refine AL.call (post := ?pc1) rfl (sm_call (args := [_]) ?hc1 ⟨Tryd.func32, rfl, rfl, rfl, rfl⟩ rfl rfl rfl rfl) ?_
     case hc1 => exact hcn
     rintro _ rfl -
     try dsimp only
     refine AL.rp rfl rfl (rp_not rfl rfl) ?_
     refine AL.nil ?_
     try simp only [thenS, S.put, S.newObj, setL, V.cs, List.length_cons, List.length_nil, List.take_succ_cons, List.take_zero, List.drop_succ_cons, List.drop_zero, List.drop_nil, List.nil_append, List.cons_append, List.append_nil, Nat.zero_add, Nat.reduceAdd, List.map_cons, List.map_nil, List.set_cons_zero, List.set_cons_succ]
     refine AW.condT rfl ?_
     refine AW.seq ?_
     refine AW.region ?_
     refine AL.rp rfl rfl (rp_assign rfl rfl) ?_
     refine AL.rp rfl rfl (rp_assign rfl rfl) ?_
     refine AL.nil ?_
     try simp only [thenS, S.put]
     refine AW.ret ?_
     exact ⟨[_, _], ⟨rfl, rfl, trivial⟩, rfl, by simp [tupOf, V.pure, V.has, V.hasL]⟩
   ·by_cases h116 : b.toNat = 116
    ·skip
     have hfl : fldS ⟨k, xt, xa, xb, xn⟩ b.toNat = xt := by simp [fldS, h116]
     have hzr : zerS ⟨0, Rt, Ra, Rb, Rn⟩ b.toNat = ⟨0, 0, Ra, Rb, Rn⟩ := by simp [zerS, h116]
     by_cases hr : rgOk xt
     ·rw [proc_r h110 (by rw [hfl]; exact hr), hfl, hzr] at hI
      obtain ⟨r1, r2⟩ : 0 ≤ xt ∧ xt ≤ 25 := hr
      have hsu : (⟨#[UInt8.ofNat (97 + xt.toNat)]⟩ : ByteArray).size = 1 := rfl
      refine AW.seq ?_
      refine AW.region ?_
      (first | (refine AL.st rfl (st_next rfl rfl (by assumption) (by omega) rfl (by first | rfl | (simp [S.put, S.newObj, setL, V.cs, V.mpsL, V.mps, D.mps, D.mpsL, D.mpsR]; done)) (by first | rfl | (simp [S.put, S.newObj, setL, V.cs, V.mpsL, V.mps, D.mps, D.mpsL, D.mpsR]; done)) (by first | rfl | (simp [S.put]; done)) rfl) ?_; simp only [S.put, List.map_cons, List.map_nil, upI_p, upI_ref, upI_junk, upI_it]) | (refine AL.rd rfl rfl (rd_nextEnd rfl rfl (by omega)) ?_))
      refine AL.rp rfl rfl (rp_extract rfl rfl rfl) ?_
      refine AL.nil ?_
      try simp only [thenS, S.put, S.newObj, setL, V.cs, List.length_cons, List.length_nil, List.take_succ_cons, List.take_zero, List.drop_succ_cons, List.drop_zero, List.drop_nil, List.nil_append, List.cons_append, List.append_nil, Nat.zero_add, Nat.reduceAdd, List.map_cons, List.map_nil, List.set_cons_zero, List.set_cons_succ]
      refine AW.seq ?_
      refine AW.condT rfl ?_
      refine AW.skip ?_
      try simp only [thenS]
      refine AW.block ?_
      refine AW.seq ?_
      refine AW.region ?_
      refine AL.rp rfl rfl (rp_extract rfl rfl rfl) ?_
      refine AL.rp rfl rfl (rp_assign rfl rfl) ?_
      refine AL.nil ?_
      try simp only [thenS, S.put]
      refine AW.seq ?_
      refine AW.seq ?_
      refine AW.region ?_
      refine AL.rp rfl rfl (rp_move rfl rfl) ?_
      (first | (refine AL.rp rfl rfl (rp_eqlT rfl rfl rfl (by first | assumption | omega | (dsimp only; omega))) ?_) | (refine AL.rp rfl rfl (rp_eqlF rfl rfl rfl (by first | assumption | omega | (dsimp only; omega))) ?_) | (refine AL.rp rfl rfl (rp_eql rfl rfl rfl) ?_))
      refine AL.nil ?_
      try simp only [thenS, S.put]
      refine AW.condF rfl ?_
      refine AW.skip ?_
      try simp only [thenS]
      refine AW.seq ?_
      refine AW.region ?_
      refine AL.rp rfl rfl (rp_move rfl rfl) ?_
      try simp only [S.put, S.newObj, setL, V.cs, List.length_cons, List.length_nil, List.take_succ_cons, List.take_zero, List.drop_succ_cons, List.drop_zero, List.drop_nil, List.nil_append, List.cons_append, List.append_nil, Nat.zero_add, Nat.reduceAdd]
      refine AL.pc [1, 5, 6, 8, 29] (ts := [_, _, _, _, _]) (args := [_, _]) (post := ?pc2) ?hc2 rfl rfl rfl rfl rfl rfl rfl rfl rfl ?_
      case hc2 => (refine pc_fieldT 1 (b.toNat : Int) (by omega) _ _ <;> first | rfl | (simp [V.lowL, V.low]; done))
      rintro _ _ _ ⟨rfl, rfl, rfl⟩
      simp only [back, S.put, List.cons_append, List.nil_append, List.zip_cons_cons, List.zip_nil_left, List.drop_succ_cons, List.drop_zero, List.length_cons, List.length_nil, Nat.zero_add, Nat.reduceAdd]
      (first | (refine AL.rp rfl rfl (rp_nilCheck rfl rfl) ?_) | (refine AL.rp rfl rfl (rp_nilCheck_ad rfl rfl) ?_))
      (first | (refine AL.rd rfl rfl (rd_load_ref Tryd.underlying3 rfl rfl rfl rfl rfl rfl) ?_) | (refine AL.rd rfl rfl (rd_load_ad Tryd.underlying3 rfl rfl rfl rfl) ?_) | (refine AL.rd rfl rfl (rd_load_map Tryd.underlying3 rfl rfl rfl rfl rfl rfl (by assumption)) ?_) | (refine AL.rd rfl rfl (rd_load_flat Tryd.underlying3 rfl rfl rfl rfl rfl rfl (fun _ => rfl) (by assumption) rfl) ?_))
      refine AL.rp rfl rfl (rp_assign rfl rfl) ?_
      refine AL.nil ?_
      try simp only [thenS, S.put]
      refine AW.seq ?_
      refine AW.seq ?_
      refine AW.region ?_
      refine AL.rp rfl rfl (rp_move rfl rfl) ?_
      (first | (refine AL.rp rfl rfl (rp_lssT rfl rfl rfl (by first | assumption | omega | (dsimp only; omega))) ?_) | (refine AL.rp rfl rfl (rp_lssF rfl rfl rfl (by first | assumption | omega | (dsimp only; omega))) ?_) | (refine AL.rp rfl rfl (rp_lss rfl rfl rfl) ?_))
      refine AL.rp rfl rfl (rp_move rfl rfl) ?_
      (first | (refine AL.noV rfl rfl rfl rfl ?_) | (refine AL.noU rfl ⟨_, rfl, rfl⟩ rfl ?_) | (refine AL.rpy rfl rfl rfl (rp_move rfl rfl) ?_))
      (first | (refine AL.noV rfl rfl rfl rfl ?_) | (refine AL.noU rfl ⟨_, rfl, rfl⟩ rfl ?_) | (refine AL.rpy rfl rfl rfl (rp_gtrT rfl rfl rfl (by first | assumption | omega | (dsimp only; omega))) ?_) | (refine AL.rpy rfl rfl rfl (rp_gtrF rfl rfl rfl (by first | assumption | omega | (dsimp only; omega))) ?_) | (refine AL.rpy rfl rfl rfl (rp_gtr rfl rfl rfl) ?_))
      refine AL.rp rfl rfl (rp_pick rfl rfl rfl) ?_
      refine AL.nil ?_
      try simp only [thenS, S.put]
      refine AW.condF rfl ?_
      refine AW.skip ?_
      try simp only [thenS]
      refine AW.seq ?_
      refine AW.region ?_
      refine AL.rp rfl rfl (rp_move rfl rfl) ?_
      refine AL.rp rfl rfl (rp_move rfl rfl) ?_
      refine AL.rp rfl rfl (rp_add rfl rfl rfl (by first | omega | (dsimp only; omega))) ?_
      refine AL.rp rfl rfl (rp_conv32 Tryd.underlying3 Tryd.underlying21 rfl rfl (by omega)) ?_
      refine AL.rp rfl rfl (rp_runeStr (m := 97 + xt.toNat) Tryd.underlying21 Tryd.underlying9 rfl rfl (by first | rfl | omega) (by omega)) ?_
      refine AL.rp rfl rfl (rp_adds rfl rfl rfl (by first | assumption | omega | (simp only [ByteArray.size_append]; omega))) ?_
      refine AL.rp rfl rfl (rp_adds rfl rfl rfl (by first | assumption | omega | (simp only [ByteArray.size_append]; omega))) ?_
      refine AL.rp rfl rfl (rp_assign rfl rfl) ?_
      refine AL.nil ?_
      try simp only [thenS, S.put]
      refine AW.region ?_
      refine AL.rp rfl rfl (rp_move rfl rfl) ?_
      try simp only [S.put, S.newObj, setL, V.cs, List.length_cons, List.length_nil, List.take_succ_cons, List.take_zero, List.drop_succ_cons, List.drop_zero, List.drop_nil, List.nil_append, List.cons_append, List.append_nil, Nat.zero_add, Nat.reduceAdd]
      refine AL.pc [1, 5, 6, 29] (ts := [_, _, _, _]) (args := [_, _]) (post := ?pc3) ?hc3 rfl rfl rfl rfl rfl rfl rfl rfl rfl ?_
      case hc3 => (refine pc_fieldT 6 (b.toNat : Int) (by omega) _ _ <;> first | rfl | (simp [V.lowL, V.low]; done))
      rintro _ _ _ ⟨rfl, rfl, rfl⟩
      simp only [back, S.put, List.cons_append, List.nil_append, List.zip_cons_cons, List.zip_nil_left, List.drop_succ_cons, List.drop_zero, List.length_cons, List.length_nil, Nat.zero_add, Nat.reduceAdd]
      (first | (refine AL.rp rfl rfl (rp_nilCheck rfl rfl) ?_) | (refine AL.rp rfl rfl (rp_nilCheck_ad rfl rfl) ?_))
      (first | (refine AL.st rfl (st_store_map2 inf3 rfl rfl rfl rfl rfl rfl rfl rfl (by first | assumption | omega)) ?_) | (refine AL.st rfl (st_store inf3 rfl rfl rfl rfl rfl rfl rfl (by first | decide | (simp; done)) rfl) ?_))
      refine AL.nil ?_
      try simp only [thenS, S.put, S.newObj, setL, V.cs, List.length_cons, List.length_nil, List.take_succ_cons, List.take_zero, List.drop_succ_cons, List.drop_zero, List.drop_nil, List.nil_append, List.cons_append, List.append_nil, Nat.zero_add, Nat.reduceAdd, List.map_cons, List.map_nil, List.set_cons_zero, List.set_cons_succ]
      refine ⟨μ - 1, _, ?_, ⟨j + 1, L ++ (⟨#[32]⟩ ++ ⟨#[UInt8.ofNat (97 + xt.toNat)]⟩), ⟨0, 0, Ra, Rb, Rn⟩, by omega, rfl, by (simp only [ByteArray.size_append]; omega), hI, rfl⟩, by omega⟩
      exact (Less.of rfl (by repeat (first | exact trivial | refine ⟨⟨_, rfl, Wk.refl _⟩, ?_⟩ | refine ⟨⟨_, rfl, Wk.nil _ _⟩, ?_⟩ | refine ⟨⟨_, rfl, Wk.junk _⟩, ?_⟩)) (by repeat (first | exact trivial | refine ⟨rfl, ?_⟩)) rfl)
     ·rw [proc_rF h110 (by rw [hfl]; exact hr)] at hI
      rw [hI, prR_err (by decide)] at hspec
      simp only [Prod.mk.injEq] at hspec
      obtain ⟨rfl, rfl⟩ := hspec
      unfold rgOk at hr
      by_cases hneg : xt < 0
      ·skip
       refine AW.seq ?_
       refine AW.region ?_
       (first | (refine AL.st rfl (st_next rfl rfl (by assumption) (by omega) rfl (by first | rfl | (simp [S.put, S.newObj, setL, V.cs, V.mpsL, V.mps, D.mps, D.mpsL, D.mpsR]; done)) (by first | rfl | (simp [S.put, S.newObj, setL, V.cs, V.mpsL, V.mps, D.mps, D.mpsL, D.mpsR]; done)) (by first | rfl | (simp [S.put]; done)) rfl) ?_; simp only [S.put, List.map_cons, List.map_nil, upI_p, upI_ref, upI_junk, upI_it]) | (refine AL.rd rfl rfl (rd_nextEnd rfl rfl (by omega)) ?_))
       refine AL.rp rfl rfl (rp_extract rfl rfl rfl) ?_
       refine AL.nil ?_
       try simp only [thenS, S.put, S.newObj, setL, V.cs, List.length_cons, List.length_nil, List.take_succ_cons, List.take_zero, List.drop_succ_cons, List.drop_zero, List.drop_nil, List.nil_append, List.cons_append, List.append_nil, Nat.zero_add, Nat.reduceAdd, List.map_cons, List.map_nil, List.set_cons_zero, List.set_cons_succ]
       refine AW.seq ?_
       refine AW.condT rfl ?_
       refine AW.skip ?_
       try simp only [thenS]
       refine AW.block ?_
       refine AW.seq ?_
       refine AW.region ?_
       refine AL.rp rfl rfl (rp_extract rfl rfl rfl) ?_
       refine AL.rp rfl rfl (rp_assign rfl rfl) ?_
       refine AL.nil ?_
       try simp only [thenS, S.put]
       refine AW.seq ?_
       refine AW.seq ?_
       refine AW.region ?_
       refine AL.rp rfl rfl (rp_move rfl rfl) ?_
       (first | (refine AL.rp rfl rfl (rp_eqlT rfl rfl rfl (by first | assumption | omega | (dsimp only; omega))) ?_) | (refine AL.rp rfl rfl (rp_eqlF rfl rfl rfl (by first | assumption | omega | (dsimp only; omega))) ?_) | (refine AL.rp rfl rfl (rp_eql rfl rfl rfl) ?_))
       refine AL.nil ?_
       try simp only [thenS, S.put]
       refine AW.condF rfl ?_
       refine AW.skip ?_
       try simp only [thenS]
       refine AW.seq ?_
       refine AW.region ?_
       refine AL.rp rfl rfl (rp_move rfl rfl) ?_
       try simp only [S.put, S.newObj, setL, V.cs, List.length_cons, List.length_nil, List.take_succ_cons, List.take_zero, List.drop_succ_cons, List.drop_zero, List.drop_nil, List.nil_append, List.cons_append, List.append_nil, Nat.zero_add, Nat.reduceAdd]
       refine AL.pc [1, 5, 6, 8, 29] (ts := [_, _, _, _, _]) (args := [_, _]) (post := ?pc4) ?hc4 rfl rfl rfl rfl rfl rfl rfl rfl rfl ?_
       case hc4 => (refine pc_fieldT 1 (b.toNat : Int) (by omega) _ _ <;> first | rfl | (simp [V.lowL, V.low]; done))
       rintro _ _ _ ⟨rfl, rfl, rfl⟩
       simp only [back, S.put, List.cons_append, List.nil_append, List.zip_cons_cons, List.zip_nil_left, List.drop_succ_cons, List.drop_zero, List.length_cons, List.length_nil, Nat.zero_add, Nat.reduceAdd]
       (first | (refine AL.rp rfl rfl (rp_nilCheck rfl rfl) ?_) | (refine AL.rp rfl rfl (rp_nilCheck_ad rfl rfl) ?_))
       (first | (refine AL.rd rfl rfl (rd_load_ref Tryd.underlying3 rfl rfl rfl rfl rfl rfl) ?_) | (refine AL.rd rfl rfl (rd_load_ad Tryd.underlying3 rfl rfl rfl rfl) ?_) | (refine AL.rd rfl rfl (rd_load_map Tryd.underlying3 rfl rfl rfl rfl rfl rfl (by assumption)) ?_) | (refine AL.rd rfl rfl (rd_load_flat Tryd.underlying3 rfl rfl rfl rfl rfl rfl (fun _ => rfl) (by assumption) rfl) ?_))
       refine AL.rp rfl rfl (rp_assign rfl rfl) ?_
       refine AL.nil ?_
       try simp only [thenS, S.put]
       refine AW.seq ?_
       refine AW.seq ?_
       refine AW.region ?_
       refine AL.rp rfl rfl (rp_move rfl rfl) ?_
       (first | (refine AL.rp rfl rfl (rp_lssT rfl rfl rfl (by first | assumption | omega | (dsimp only; omega))) ?_) | (refine AL.rp rfl rfl (rp_lssF rfl rfl rfl (by first | assumption | omega | (dsimp only; omega))) ?_) | (refine AL.rp rfl rfl (rp_lss rfl rfl rfl) ?_))
       refine AL.rp rfl rfl (rp_move rfl rfl) ?_
       (first | (refine AL.noV rfl rfl rfl rfl ?_) | (refine AL.noU rfl ⟨_, rfl, rfl⟩ rfl ?_) | (refine AL.rpy rfl rfl rfl (rp_move rfl rfl) ?_))
       (first | (refine AL.noV rfl rfl rfl rfl ?_) | (refine AL.noU rfl ⟨_, rfl, rfl⟩ rfl ?_) | (refine AL.rpy rfl rfl rfl (rp_gtrT rfl rfl rfl (by first | assumption | omega | (dsimp only; omega))) ?_) | (refine AL.rpy rfl rfl rfl (rp_gtrF rfl rfl rfl (by first | assumption | omega | (dsimp only; omega))) ?_) | (refine AL.rpy rfl rfl rfl (rp_gtr rfl rfl rfl) ?_))
       refine AL.rp rfl rfl (rp_pick rfl rfl rfl) ?_
       refine AL.nil ?_
       try simp only [thenS, S.put]
       refine AW.condT rfl ?_
       refine AW.seq ?_
       refine AW.region ?_
       refine AL.rp rfl rfl (rp_assign rfl rfl) ?_
       refine AL.rp rfl rfl (rp_assign rfl rfl) ?_
       refine AL.nil ?_
       try simp only [thenS, S.put]
       refine AW.ret ?_
       exact ⟨[_, _], ⟨rfl, rfl, trivial⟩, rfl, by simp [tupOf, V.pure, V.has, V.hasL]⟩
      ·have hbig : 25 < xt := by omega
       refine AW.seq ?_
       refine AW.region ?_
       (first | (refine AL.st rfl (st_next rfl rfl (by assumption) (by omega) rfl (by first | rfl | (simp [S.put, S.newObj, setL, V.cs, V.mpsL, V.mps, D.mps, D.mpsL, D.mpsR]; done)) (by first | rfl | (simp [S.put, S.newObj, setL, V.cs, V.mpsL, V.mps, D.mps, D.mpsL, D.mpsR]; done)) (by first | rfl | (simp [S.put]; done)) rfl) ?_; simp only [S.put, List.map_cons, List.map_nil, upI_p, upI_ref, upI_junk, upI_it]) | (refine AL.rd rfl rfl (rd_nextEnd rfl rfl (by omega)) ?_))
       refine AL.rp rfl rfl (rp_extract rfl rfl rfl) ?_
       refine AL.nil ?_
       try simp only [thenS, S.put, S.newObj, setL, V.cs, List.length_cons, List.length_nil, List.take_succ_cons, List.take_zero, List.drop_succ_cons, List.drop_zero, List.drop_nil, List.nil_append, List.cons_append, List.append_nil, Nat.zero_add, Nat.reduceAdd, List.map_cons, List.map_nil, List.set_cons_zero, List.set_cons_succ]
       refine AW.seq ?_
       refine AW.condT rfl ?_
       refine AW.skip ?_
       try simp only [thenS]
       refine AW.block ?_
       refine AW.seq ?_
       refine AW.region ?_
       refine AL.rp rfl rfl (rp_extract rfl rfl rfl) ?_
       refine AL.rp rfl rfl (rp_assign rfl rfl) ?_
       refine AL.nil ?_
       try simp only [thenS, S.put]
       refine AW.seq ?_
       refine AW.seq ?_
       refine AW.region ?_
       refine AL.rp rfl rfl (rp_move rfl rfl) ?_
       (first | (refine AL.rp rfl rfl (rp_eqlT rfl rfl rfl (by first | assumption | omega | (dsimp only; omega))) ?_) | (refine AL.rp rfl rfl (rp_eqlF rfl rfl rfl (by first | assumption | omega | (dsimp only; omega))) ?_) | (refine AL.rp rfl rfl (rp_eql rfl rfl rfl) ?_))
       refine AL.nil ?_
       try simp only [thenS, S.put]
       refine AW.condF rfl ?_
       refine AW.skip ?_
       try simp only [thenS]
       refine AW.seq ?_
       refine AW.region ?_
       refine AL.rp rfl rfl (rp_move rfl rfl) ?_
       try simp only [S.put, S.newObj, setL, V.cs, List.length_cons, List.length_nil, List.take_succ_cons, List.take_zero, List.drop_succ_cons, List.drop_zero, List.drop_nil, List.nil_append, List.cons_append, List.append_nil, Nat.zero_add, Nat.reduceAdd]
       refine AL.pc [1, 5, 6, 8, 29] (ts := [_, _, _, _, _]) (args := [_, _]) (post := ?pc5) ?hc5 rfl rfl rfl rfl rfl rfl rfl rfl rfl ?_
       case hc5 => (refine pc_fieldT 1 (b.toNat : Int) (by omega) _ _ <;> first | rfl | (simp [V.lowL, V.low]; done))
       rintro _ _ _ ⟨rfl, rfl, rfl⟩
       simp only [back, S.put, List.cons_append, List.nil_append, List.zip_cons_cons, List.zip_nil_left, List.drop_succ_cons, List.drop_zero, List.length_cons, List.length_nil, Nat.zero_add, Nat.reduceAdd]
       (first | (refine AL.rp rfl rfl (rp_nilCheck rfl rfl) ?_) | (refine AL.rp rfl rfl (rp_nilCheck_ad rfl rfl) ?_))
       (first | (refine AL.rd rfl rfl (rd_load_ref Tryd.underlying3 rfl rfl rfl rfl rfl rfl) ?_) | (refine AL.rd rfl rfl (rd_load_ad Tryd.underlying3 rfl rfl rfl rfl) ?_) | (refine AL.rd rfl rfl (rd_load_map Tryd.underlying3 rfl rfl rfl rfl rfl rfl (by assumption)) ?_) | (refine AL.rd rfl rfl (rd_load_flat Tryd.underlying3 rfl rfl rfl rfl rfl rfl (fun _ => rfl) (by assumption) rfl) ?_))
       refine AL.rp rfl rfl (rp_assign rfl rfl) ?_
       refine AL.nil ?_
       try simp only [thenS, S.put]
       refine AW.seq ?_
       refine AW.seq ?_
       refine AW.region ?_
       refine AL.rp rfl rfl (rp_move rfl rfl) ?_
       (first | (refine AL.rp rfl rfl (rp_lssT rfl rfl rfl (by first | assumption | omega | (dsimp only; omega))) ?_) | (refine AL.rp rfl rfl (rp_lssF rfl rfl rfl (by first | assumption | omega | (dsimp only; omega))) ?_) | (refine AL.rp rfl rfl (rp_lss rfl rfl rfl) ?_))
       refine AL.rp rfl rfl (rp_move rfl rfl) ?_
       (first | (refine AL.noV rfl rfl rfl rfl ?_) | (refine AL.noU rfl ⟨_, rfl, rfl⟩ rfl ?_) | (refine AL.rpy rfl rfl rfl (rp_move rfl rfl) ?_))
       (first | (refine AL.noV rfl rfl rfl rfl ?_) | (refine AL.noU rfl ⟨_, rfl, rfl⟩ rfl ?_) | (refine AL.rpy rfl rfl rfl (rp_gtrT rfl rfl rfl (by first | assumption | omega | (dsimp only; omega))) ?_) | (refine AL.rpy rfl rfl rfl (rp_gtrF rfl rfl rfl (by first | assumption | omega | (dsimp only; omega))) ?_) | (refine AL.rpy rfl rfl rfl (rp_gtr rfl rfl rfl) ?_))
       refine AL.rp rfl rfl (rp_pick rfl rfl rfl) ?_
       refine AL.nil ?_
       try simp only [thenS, S.put]
       refine AW.condT rfl ?_
       refine AW.seq ?_
       refine AW.region ?_
       refine AL.rp rfl rfl (rp_assign rfl rfl) ?_
       refine AL.rp rfl rfl (rp_assign rfl rfl) ?_
       refine AL.nil ?_
       try simp only [thenS, S.put]
       refine AW.ret ?_
       exact ⟨[_, _], ⟨rfl, rfl, trivial⟩, rfl, by simp [tupOf, V.pure, V.has, V.hasL]⟩
    ·by_cases h97 : b.toNat = 97
     ·skip
      have hfl : fldS ⟨k, xt, xa, xb, xn⟩ b.toNat = xa := by simp [fldS, h97]
      have hzr : zerS ⟨0, Rt, Ra, Rb, Rn⟩ b.toNat = ⟨0, Rt, 0, Rb, Rn⟩ := by simp [zerS, h97]
      by_cases hr : rgOk xa
      ·rw [proc_r h110 (by rw [hfl]; exact hr), hfl, hzr] at hI
       obtain ⟨r1, r2⟩ : 0 ≤ xa ∧ xa ≤ 25 := hr
       have hsu : (⟨#[UInt8.ofNat (97 + xa.toNat)]⟩ : ByteArray).size = 1 := rfl
       refine AW.seq ?_
       refine AW.region ?_
       (first | (refine AL.st rfl (st_next rfl rfl (by assumption) (by omega) rfl (by first | rfl | (simp [S.put, S.newObj, setL, V.cs, V.mpsL, V.mps, D.mps, D.mpsL, D.mpsR]; done)) (by first | rfl | (simp [S.put, S.newObj, setL, V.cs, V.mpsL, V.mps, D.mps, D.mpsL, D.mpsR]; done)) (by first | rfl | (simp [S.put]; done)) rfl) ?_; simp only [S.put, List.map_cons, List.map_nil, upI_p, upI_ref, upI_junk, upI_it]) | (refine AL.rd rfl rfl (rd_nextEnd rfl rfl (by omega)) ?_))
       refine AL.rp rfl rfl (rp_extract rfl rfl rfl) ?_
       refine AL.nil ?_
       try simp only [thenS, S.put, S.newObj, setL, V.cs, List.length_cons, List.length_nil, List.take_succ_cons, List.take_zero, List.drop_succ_cons, List.drop_zero, List.drop_nil, List.nil_append, List.cons_append, List.append_nil, Nat.zero_add, Nat.reduceAdd, List.map_cons, List.map_nil, List.set_cons_zero, List.set_cons_succ]
       refine AW.seq ?_
       refine AW.condT rfl ?_
       refine AW.skip ?_
       try simp only [thenS]
       refine AW.block ?_
       refine AW.seq ?_
       refine AW.region ?_
       refine AL.rp rfl rfl (rp_extract rfl rfl rfl) ?_
       refine AL.rp rfl rfl (rp_assign rfl rfl) ?_
       refine AL.nil ?_
       try simp only [thenS, S.put]
       refine AW.seq ?_
       refine AW.seq ?_
       refine AW.region ?_
       refine AL.rp rfl rfl (rp_move rfl rfl) ?_
       (first | (refine AL.rp rfl rfl (rp_eqlT rfl rfl rfl (by first | assumption | omega | (dsimp only; omega))) ?_) | (refine AL.rp rfl rfl (rp_eqlF rfl rfl rfl (by first | assumption | omega | (dsimp only; omega))) ?_) | (refine AL.rp rfl rfl (rp_eql rfl rfl rfl) ?_))
       refine AL.nil ?_
       try simp only [thenS, S.put]
       refine AW.condF rfl ?_
       refine AW.skip ?_
       try simp only [thenS]
       refine AW.seq ?_
       refine AW.region ?_
       refine AL.rp rfl rfl (rp_move rfl rfl) ?_
       try simp only [S.put, S.newObj, setL, V.cs, List.length_cons, List.length_nil, List.take_succ_cons, List.take_zero, List.drop_succ_cons, List.drop_zero, List.drop_nil, List.nil_append, List.cons_append, List.append_nil, Nat.zero_add, Nat.reduceAdd]
       refine AL.pc [1, 5, 6, 8, 29] (ts := [_, _, _, _, _]) (args := [_, _]) (post := ?pc6) ?hc6 rfl rfl rfl rfl rfl rfl rfl rfl rfl ?_
       case hc6 => (refine pc_fieldA 1 (b.toNat : Int) (by omega) _ _ <;> first | rfl | (simp [V.lowL, V.low]; done))
       rintro _ _ _ ⟨rfl, rfl, rfl⟩
       simp only [back, S.put, List.cons_append, List.nil_append, List.zip_cons_cons, List.zip_nil_left, List.drop_succ_cons, List.drop_zero, List.length_cons, List.length_nil, Nat.zero_add, Nat.reduceAdd]
       (first | (refine AL.rp rfl rfl (rp_nilCheck rfl rfl) ?_) | (refine AL.rp rfl rfl (rp_nilCheck_ad rfl rfl) ?_))
       (first | (refine AL.rd rfl rfl (rd_load_ref Tryd.underlying3 rfl rfl rfl rfl rfl rfl) ?_) | (refine AL.rd rfl rfl (rd_load_ad Tryd.underlying3 rfl rfl rfl rfl) ?_) | (refine AL.rd rfl rfl (rd_load_map Tryd.underlying3 rfl rfl rfl rfl rfl rfl (by assumption)) ?_) | (refine AL.rd rfl rfl (rd_load_flat Tryd.underlying3 rfl rfl rfl rfl rfl rfl (fun _ => rfl) (by assumption) rfl) ?_))
       refine AL.rp rfl rfl (rp_assign rfl rfl) ?_
       refine AL.nil ?_
       try simp only [thenS, S.put]
       refine AW.seq ?_
       refine AW.seq ?_
       refine AW.region ?_
       refine AL.rp rfl rfl (rp_move rfl rfl) ?_
       (first | (refine AL.rp rfl rfl (rp_lssT rfl rfl rfl (by first | assumption | omega | (dsimp only; omega))) ?_) | (refine AL.rp rfl rfl (rp_lssF rfl rfl rfl (by first | assumption | omega | (dsimp only; omega))) ?_) | (refine AL.rp rfl rfl (rp_lss rfl rfl rfl) ?_))
       refine AL.rp rfl rfl (rp_move rfl rfl) ?_
       (first | (refine AL.noV rfl rfl rfl rfl ?_) | (refine AL.noU rfl ⟨_, rfl, rfl⟩ rfl ?_) | (refine AL.rpy rfl rfl rfl (rp_move rfl rfl) ?_))
       (first | (refine AL.noV rfl rfl rfl rfl ?_) | (refine AL.noU rfl ⟨_, rfl, rfl⟩ rfl ?_) | (refine AL.rpy rfl rfl rfl (rp_gtrT rfl rfl rfl (by first | assumption | omega | (dsimp only; omega))) ?_) | (refine AL.rpy rfl rfl rfl (rp_gtrF rfl rfl rfl (by first | assumption | omega | (dsimp only; omega))) ?_) | (refine AL.rpy rfl rfl rfl (rp_gtr rfl rfl rfl) ?_))
       refine AL.rp rfl rfl (rp_pick rfl rfl rfl) ?_
       refine AL.nil ?_
       try simp only [thenS, S.put]
       refine AW.condF rfl ?_
       refine AW.skip ?_
       try simp only [thenS]
       refine AW.seq ?_
       refine AW.region ?_
       refine AL.rp rfl rfl (rp_move rfl rfl) ?_
       refine AL.rp rfl rfl (rp_move rfl rfl) ?_
       refine AL.rp rfl rfl (rp_add rfl rfl rfl (by first | omega | (dsimp only; omega))) ?_
       refine AL.rp rfl rfl (rp_conv32 Tryd.underlying3 Tryd.underlying21 rfl rfl (by omega)) ?_
       refine AL.rp rfl rfl (rp_runeStr (m := 97 + xa.toNat) Tryd.underlying21 Tryd.underlying9 rfl rfl (by first | rfl | omega) (by omega)) ?_
       refine AL.rp rfl rfl (rp_adds rfl rfl rfl (by first | assumption | omega | (simp only [ByteArray.size_append]; omega))) ?_
       refine AL.rp rfl rfl (rp_adds rfl rfl rfl (by first | assumption | omega | (simp only [ByteArray.size_append]; omega))) ?_
       refine AL.rp rfl rfl (rp_assign rfl rfl) ?_
       refine AL.nil ?_
       try simp only [thenS, S.put]
       refine AW.region ?_
       refine AL.rp rfl rfl (rp_move rfl rfl) ?_
       try simp only [S.put, S.newObj, setL, V.cs, List.length_cons, List.length_nil, List.take_succ_cons, List.take_zero, List.drop_succ_cons, List.drop_zero, List.drop_nil, List.nil_append, List.cons_append, List.append_nil, Nat.zero_add, Nat.reduceAdd]
       refine AL.pc [1, 5, 6, 29] (ts := [_, _, _, _]) (args := [_, _]) (post := ?pc7) ?hc7 rfl rfl rfl rfl rfl rfl rfl rfl rfl ?_
       case hc7 => (refine pc_fieldA 6 (b.toNat : Int) (by omega) _ _ <;> first | rfl | (simp [V.lowL, V.low]; done))
       rintro _ _ _ ⟨rfl, rfl, rfl⟩
       simp only [back, S.put, List.cons_append, List.nil_append, List.zip_cons_cons, List.zip_nil_left, List.drop_succ_cons, List.drop_zero, List.length_cons, List.length_nil, Nat.zero_add, Nat.reduceAdd]
       (first | (refine AL.rp rfl rfl (rp_nilCheck rfl rfl) ?_) | (refine AL.rp rfl rfl (rp_nilCheck_ad rfl rfl) ?_))
       (first | (refine AL.st rfl (st_store_map2 inf3 rfl rfl rfl rfl rfl rfl rfl rfl (by first | assumption | omega)) ?_) | (refine AL.st rfl (st_store inf3 rfl rfl rfl rfl rfl rfl rfl (by first | decide | (simp; done)) rfl) ?_))
       refine AL.nil ?_
       try simp only [thenS, S.put, S.newObj, setL, V.cs, List.length_cons, List.length_nil, List.take_succ_cons, List.take_zero, List.drop_succ_cons, List.drop_zero, List.drop_nil, List.nil_append, List.cons_append, List.append_nil, Nat.zero_add, Nat.reduceAdd, List.map_cons, List.map_nil, List.set_cons_zero, List.set_cons_succ]
       refine ⟨μ - 1, _, ?_, ⟨j + 1, L ++ (⟨#[32]⟩ ++ ⟨#[UInt8.ofNat (97 + xa.toNat)]⟩), ⟨0, Rt, 0, Rb, Rn⟩, by omega, rfl, by (simp only [ByteArray.size_append]; omega), hI, rfl⟩, by omega⟩
       exact (Less.of rfl (by repeat (first | exact trivial | refine ⟨⟨_, rfl, Wk.refl _⟩, ?_⟩ | refine ⟨⟨_, rfl, Wk.nil _ _⟩, ?_⟩ | refine ⟨⟨_, rfl, Wk.junk _⟩, ?_⟩)) (by repeat (first | exact trivial | refine ⟨rfl, ?_⟩)) rfl)
      ·rw [proc_rF h110 (by rw [hfl]; exact hr)] at hI
       rw [hI, prR_err (by decide)] at hspec
       simp only [Prod.mk.injEq] at hspec
       obtain ⟨rfl, rfl⟩ := hspec
       unfold rgOk at hr
       by_cases hneg : xa < 0
       ·skip
        refine AW.seq ?_
        refine AW.region ?_
        (first | (refine AL.st rfl (st_next rfl rfl (by assumption) (by omega) rfl (by first | rfl | (simp [S.put, S.newObj, setL, V.cs, V.mpsL, V.mps, D.mps, D.mpsL, D.mpsR]; done)) (by first | rfl | (simp [S.put, S.newObj, setL, V.cs, V.mpsL, V.mps, D.mps, D.mpsL, D.mpsR]; done)) (by first | rfl | (simp [S.put]; done)) rfl) ?_; simp only [S.put, List.map_cons, List.map_nil, upI_p, upI_ref, upI_junk, upI_it]) | (refine AL.rd rfl rfl (rd_nextEnd rfl rfl (by omega)) ?_))
        refine AL.rp rfl rfl (rp_extract rfl rfl rfl) ?_
        refine AL.nil ?_
        try simp only [thenS, S.put, S.newObj, setL, V.cs, List.length_cons, List.length_nil, List.take_succ_cons, List.take_zero, List.drop_succ_cons, List.drop_zero, List.drop_nil, List.nil_append, List.cons_append, List.append_nil, Nat.zero_add, Nat.reduceAdd, List.map_cons, List.map_nil, List.set_cons_zero, List.set_cons_succ]
        refine AW.seq ?_
        refine AW.condT rfl ?_
        refine AW.skip ?_
        try simp only [thenS]
        refine AW.block ?_
        refine AW.seq ?_
        refine AW.region ?_
        refine AL.rp rfl rfl (rp_extract rfl rfl rfl) ?_
        refine AL.rp rfl rfl (rp_assign rfl rfl) ?_
        refine AL.nil ?_
        try simp only [thenS, S.put]
        refine AW.seq ?_
        refine AW.seq ?_
        refine AW.region ?_
        refine AL.rp rfl rfl (rp_move rfl rfl) ?_
        (first | (refine AL.rp rfl rfl (rp_eqlT rfl rfl rfl (by first | assumption | omega | (dsimp only; omega))) ?_) | (refine AL.rp rfl rfl (rp_eqlF rfl rfl rfl (by first | assumption | omega | (dsimp only; omega))) ?_) | (refine AL.rp rfl rfl (rp_eql rfl rfl rfl) ?_))
        refine AL.nil ?_
        try simp only [thenS, S.put]
        refine AW.condF rfl ?_
        refine AW.skip ?_
        try simp only [thenS]
        refine AW.seq ?_
        refine AW.region ?_
        refine AL.rp rfl rfl (rp_move rfl rfl) ?_
        try simp only [S.put, S.newObj, setL, V.cs, List.length_cons, List.length_nil, List.take_succ_cons, List.take_zero, List.drop_succ_cons, List.drop_zero, List.drop_nil, List.nil_append, List.cons_append, List.append_nil, Nat.zero_add, Nat.reduceAdd]
        refine AL.pc [1, 5, 6, 8, 29] (ts := [_, _, _, _, _]) (args := [_, _]) (post := ?pc8) ?hc8 rfl rfl rfl rfl rfl rfl rfl rfl rfl ?_
        case hc8 => (refine pc_fieldA 1 (b.toNat : Int) (by omega) _ _ <;> first | rfl | (simp [V.lowL, V.low]; done))
        rintro _ _ _ ⟨rfl, rfl, rfl⟩
        simp only [back, S.put, List.cons_append, List.nil_append, List.zip_cons_cons, List.zip_nil_left, List.drop_succ_cons, List.drop_zero, List.length_cons, List.length_nil, Nat.zero_add, Nat.reduceAdd]
        (first | (refine AL.rp rfl rfl (rp_nilCheck rfl rfl) ?_) | (refine AL.rp rfl rfl (rp_nilCheck_ad rfl rfl) ?_))
        (first | (refine AL.rd rfl rfl (rd_load_ref Tryd.underlying3 rfl rfl rfl rfl rfl rfl) ?_) | (refine AL.rd rfl rfl (rd_load_ad Tryd.underlying3 rfl rfl rfl rfl) ?_) | (refine AL.rd rfl rfl (rd_load_map Tryd.underlying3 rfl rfl rfl rfl rfl rfl (by assumption)) ?_) | (refine AL.rd rfl rfl (rd_load_flat Tryd.underlying3 rfl rfl rfl rfl rfl rfl (fun _ => rfl) (by assumption) rfl) ?_))
        refine AL.rp rfl rfl (rp_assign rfl rfl) ?_
        refine AL.nil ?_
        try simp only [thenS, S.put]
        refine AW.seq ?_
        refine AW.seq ?_
        refine AW.region ?_
        refine AL.rp rfl rfl (rp_move rfl rfl) ?_
        (first | (refine AL.rp rfl rfl (rp_lssT rfl rfl rfl (by first | assumption | omega | (dsimp only; omega))) ?_) | (refine AL.rp rfl rfl (rp_lssF rfl rfl rfl (by first | assumption | omega | (dsimp only; omega))) ?_) | (refine AL.rp rfl rfl (rp_lss rfl rfl rfl) ?_))
        refine AL.rp rfl rfl (rp_move rfl rfl) ?_
        (first | (refine AL.noV rfl rfl rfl rfl ?_) | (refine AL.noU rfl ⟨_, rfl, rfl⟩ rfl ?_) | (refine AL.rpy rfl rfl rfl (rp_move rfl rfl) ?_))
        (first | (refine AL.noV rfl rfl rfl rfl ?_) | (refine AL.noU rfl ⟨_, rfl, rfl⟩ rfl ?_) | (refine AL.rpy rfl rfl rfl (rp_gtrT rfl rfl rfl (by first | assumption | omega | (dsimp only; omega))) ?_) | (refine AL.rpy rfl rfl rfl (rp_gtrF rfl rfl rfl (by first | assumption | omega | (dsimp only; omega))) ?_) | (refine AL.rpy rfl rfl rfl (rp_gtr rfl rfl rfl) ?_))
        refine AL.rp rfl rfl (rp_pick rfl rfl rfl) ?_
        refine AL.nil ?_
        try simp only [thenS, S.put]
        refine AW.condT rfl ?_
        refine AW.seq ?_
        refine AW.region ?_
        refine AL.rp rfl rfl (rp_assign rfl rfl) ?_
        refine AL.rp rfl rfl (rp_assign rfl rfl) ?_
        refine AL.nil ?_
        try simp only [thenS, S.put]
        refine AW.ret ?_
        exact ⟨[_, _], ⟨rfl, rfl, trivial⟩, rfl, by simp [tupOf, V.pure, V.has, V.hasL]⟩
       ·have hbig : 25 < xa := by omega
        refine AW.seq ?_
        refine AW.region ?_
        (first | (refine AL.st rfl (st_next rfl rfl (by assumption) (by omega) rfl (by first | rfl | (simp [S.put, S.newObj, setL, V.cs, V.mpsL, V.mps, D.mps, D.mpsL, D.mpsR]; done)) (by first | rfl | (simp [S.put, S.newObj, setL, V.cs, V.mpsL, V.mps, D.mps, D.mpsL, D.mpsR]; done)) (by first | rfl | (simp [S.put]; done)) rfl) ?_; simp only [S.put, List.map_cons, List.map_nil, upI_p, upI_ref, upI_junk, upI_it]) | (refine AL.rd rfl rfl (rd_nextEnd rfl rfl (by omega)) ?_))
        refine AL.rp rfl rfl (rp_extract rfl rfl rfl) ?_
        refine AL.nil ?_
        try simp only [thenS, S.put, S.newObj, setL, V.cs, List.length_cons, List.length_nil, List.take_succ_cons, List.take_zero, List.drop_succ_cons, List.drop_zero, List.drop_nil, List.nil_append, List.cons_append, List.append_nil, Nat.zero_add, Nat.reduceAdd, List.map_cons, List.map_nil, List.set_cons_zero, List.set_cons_succ]
        refine AW.seq ?_
        refine AW.condT rfl ?_
        refine AW.skip ?_
        try simp only [thenS]
        refine AW.block ?_
        refine AW.seq ?_
        refine AW.region ?_
        refine AL.rp rfl rfl (rp_extract rfl rfl rfl) ?_
        refine AL.rp rfl rfl (rp_assign rfl rfl) ?_
        refine AL.nil ?_
        try simp only [thenS, S.put]
        refine AW.seq ?_
        refine AW.seq ?_
        refine AW.region ?_
        refine AL.rp rfl rfl (rp_move rfl rfl) ?_
        (first | (refine AL.rp rfl rfl (rp_eqlT rfl rfl rfl (by first | assumption | omega | (dsimp only; omega))) ?_) | (refine AL.rp rfl rfl (rp_eqlF rfl rfl rfl (by first | assumption | omega | (dsimp only; omega))) ?_) | (refine AL.rp rfl rfl (rp_eql rfl rfl rfl) ?_))
        refine AL.nil ?_
        try simp only [thenS, S.put]
        refine AW.condF rfl ?_
        refine AW.skip ?_
        try simp only [thenS]
        refine AW.seq ?_
        refine AW.region ?_
        refine AL.rp rfl rfl (rp_move rfl rfl) ?_
        try simp only [S.put, S.newObj, setL, V.cs, List.length_cons, List.length_nil, List.take_succ_cons, List.take_zero, List.drop_succ_cons, List.drop_zero, List.drop_nil, List.nil_append, List.cons_append, List.append_nil, Nat.zero_add, Nat.reduceAdd]
        refine AL.pc [1, 5, 6, 8, 29] (ts := [_, _, _, _, _]) (args := [_, _]) (post := ?pc9) ?hc9 rfl rfl rfl rfl rfl rfl rfl rfl rfl ?_
        case hc9 => (refine pc_fieldA 1 (b.toNat : Int) (by omega) _ _ <;> first | rfl | (simp [V.lowL, V.low]; done))
        rintro _ _ _ ⟨rfl, rfl, rfl⟩
        simp only [back, S.put, List.cons_append, List.nil_append, List.zip_cons_cons, List.zip_nil_left, List.drop_succ_cons, List.drop_zero, List.length_cons, List.length_nil, Nat.zero_add, Nat.reduceAdd]
        (first | (refine AL.rp rfl rfl (rp_nilCheck rfl rfl) ?_) | (refine AL.rp rfl rfl (rp_nilCheck_ad rfl rfl) ?_))
        (first | (refine AL.rd rfl rfl (rd_load_ref Tryd.underlying3 rfl rfl rfl rfl rfl rfl) ?_) | (refine AL.rd rfl rfl (rd_load_ad Tryd.underlying3 rfl rfl rfl rfl) ?_) | (refine AL.rd rfl rfl (rd_load_map Tryd.underlying3 rfl rfl rfl rfl rfl rfl (by assumption)) ?_) | (refine AL.rd rfl rfl (rd_load_flat Tryd.underlying3 rfl rfl rfl rfl rfl rfl (fun _ => rfl) (by assumption) rfl) ?_))
        refine AL.rp rfl rfl (rp_assign rfl rfl) ?_
        refine AL.nil ?_
        try simp only [thenS, S.put]
        refine AW.seq ?_
        refine AW.seq ?_
        refine AW.region ?_
        refine AL.rp rfl rfl (rp_move rfl rfl) ?_
        (first | (refine AL.rp rfl rfl (rp_lssT rfl rfl rfl (by first | assumption | omega | (dsimp only; omega))) ?_) | (refine AL.rp rfl rfl (rp_lssF rfl rfl rfl (by first | assumption | omega | (dsimp only; omega))) ?_) | (refine AL.rp rfl rfl (rp_lss rfl rfl rfl) ?_))
        refine AL.rp rfl rfl (rp_move rfl rfl) ?_
        (first | (refine AL.noV rfl rfl rfl rfl ?_) | (refine AL.noU rfl ⟨_, rfl, rfl⟩ rfl ?_) | (refine AL.rpy rfl rfl rfl (rp_move rfl rfl) ?_))
        (first | (refine AL.noV rfl rfl rfl rfl ?_) | (refine AL.noU rfl ⟨_, rfl, rfl⟩ rfl ?_) | (refine AL.rpy rfl rfl rfl (rp_gtrT rfl rfl rfl (by first | assumption | omega | (dsimp only; omega))) ?_) | (refine AL.rpy rfl rfl rfl (rp_gtrF rfl rfl rfl (by first | assumption | omega | (dsimp only; omega))) ?_) | (refine AL.rpy rfl rfl rfl (rp_gtr rfl rfl rfl) ?_))
        refine AL.rp rfl rfl (rp_pick rfl rfl rfl) ?_
        refine AL.nil ?_
        try simp only [thenS, S.put]
        refine AW.condT rfl ?_
        refine AW.seq ?_
        refine AW.region ?_
        refine AL.rp rfl rfl (rp_assign rfl rfl) ?_
        refine AL.rp rfl rfl (rp_assign rfl rfl) ?_
        refine AL.nil ?_
        try simp only [thenS, S.put]
        refine AW.ret ?_
        exact ⟨[_, _], ⟨rfl, rfl, trivial⟩, rfl, by simp [tupOf, V.pure, V.has, V.hasL]⟩
     ·have h98 : b.toNat = 98 := by omega
      have hfl : fldS ⟨k, xt, xa, xb, xn⟩ b.toNat = xb := by simp [fldS, h98]
      have hzr : zerS ⟨0, Rt, Ra, Rb, Rn⟩ b.toNat = ⟨0, Rt, Ra, 0, Rn⟩ := by simp [zerS, h98]
      by_cases hr : rgOk xb
      ·rw [proc_r h110 (by rw [hfl]; exact hr), hfl, hzr] at hI
       obtain ⟨r1, r2⟩ : 0 ≤ xb ∧ xb ≤ 25 := hr
       have hsu : (⟨#[UInt8.ofNat (97 + xb.toNat)]⟩ : ByteArray).size = 1 := rfl
       refine AW.seq ?_
       refine AW.region ?_
       (first | (refine AL.st rfl (st_next rfl rfl (by assumption) (by omega) rfl (by first | rfl | (simp [S.put, S.newObj, setL, V.cs, V.mpsL, V.mps, D.mps, D.mpsL, D.mpsR]; done)) (by first | rfl | (simp [S.put, S.newObj, setL, V.cs, V.mpsL, V.mps, D.mps, D.mpsL, D.mpsR]; done)) (by first | rfl | (simp [S.put]; done)) rfl) ?_; simp only [S.put, List.map_cons, List.map_nil, upI_p, upI_ref, upI_junk, upI_it]) | (refine AL.rd rfl rfl (rd_nextEnd rfl rfl (by omega)) ?_))
       refine AL.rp rfl rfl (rp_extract rfl rfl rfl) ?_
       refine AL.nil ?_
       try simp only [thenS, S.put, S.newObj, setL, V.cs, List.length_cons, List.length_nil, List.take_succ_cons, List.take_zero, List.drop_succ_cons, List.drop_zero, List.drop_nil, List.nil_append, List.cons_append, List.append_nil, Nat.zero_add, Nat.reduceAdd, List.map_cons, List.map_nil, List.set_cons_zero, List.set_cons_succ]
       refine AW.seq ?_
       refine AW.condT rfl ?_
       refine AW.skip ?_
       try simp only [thenS]
       refine AW.block ?_
       refine AW.seq ?_
       refine AW.region ?_
       refine AL.rp rfl rfl (rp_extract rfl rfl rfl) ?_
       refine AL.rp rfl rfl (rp_assign rfl rfl) ?_
       refine AL.nil ?_
       try simp only [thenS, S.put]
       refine AW.seq ?_
       refine AW.seq ?_
       refine AW.region ?_
       refine AL.rp rfl rfl (rp_move rfl rfl) ?_
       (first | (refine AL.rp rfl rfl (rp_eqlT rfl rfl rfl (by first | assumption | omega | (dsimp only; omega))) ?_) | (refine AL.rp rfl rfl (rp_eqlF rfl rfl rfl (by first | assumption | omega | (dsimp only; omega))) ?_) | (refine AL.rp rfl rfl (rp_eql rfl rfl rfl) ?_))
       refine AL.nil ?_
       try simp only [thenS, S.put]
       refine AW.condF rfl ?_
       refine AW.skip ?_
       try simp only [thenS]
       refine AW.seq ?_
       refine AW.region ?_
       refine AL.rp rfl rfl (rp_move rfl rfl) ?_
       try simp only [S.put, S.newObj, setL, V.cs, List.length_cons, List.length_nil, List.take_succ_cons, List.take_zero, List.drop_succ_cons, List.drop_zero, List.drop_nil, List.nil_append, List.cons_append, List.append_nil, Nat.zero_add, Nat.reduceAdd]
       refine AL.pc [1, 5, 6, 8, 29] (ts := [_, _, _, _, _]) (args := [_, _]) (post := ?pc10) ?hc10 rfl rfl rfl rfl rfl rfl rfl rfl rfl ?_
       case hc10 => (refine pc_fieldB 1 (b.toNat : Int) (by omega) _ _ <;> first | rfl | (simp [V.lowL, V.low]; done))
       rintro _ _ _ ⟨rfl, rfl, rfl⟩
       simp only [back, S.put, List.cons_append, List.nil_append, List.zip_cons_cons, List.zip_nil_left, List.drop_succ_cons, List.drop_zero, List.length_cons, List.length_nil, Nat.zero_add, Nat.reduceAdd]
       (first | (refine AL.rp rfl rfl (rp_nilCheck rfl rfl) ?_) | (refine AL.rp rfl rfl (rp_nilCheck_ad rfl rfl) ?_))
       (first | (refine AL.rd rfl rfl (rd_load_ref Tryd.underlying3 rfl rfl rfl rfl rfl rfl) ?_) | (refine AL.rd rfl rfl (rd_load_ad Tryd.underlying3 rfl rfl rfl rfl) ?_) | (refine AL.rd rfl rfl (rd_load_map Tryd.underlying3 rfl rfl rfl rfl rfl rfl (by assumption)) ?_) | (refine AL.rd rfl rfl (rd_load_flat Tryd.underlying3 rfl rfl rfl rfl rfl rfl (fun _ => rfl) (by assumption) rfl) ?_))
       refine AL.rp rfl rfl (rp_assign rfl rfl) ?_
       refine AL.nil ?_
       try simp only [thenS, S.put]
       refine AW.seq ?_
       refine AW.seq ?_
       refine AW.region ?_
       refine AL.rp rfl rfl (rp_move rfl rfl) ?_
       (first | (refine AL.rp rfl rfl (rp_lssT rfl rfl rfl (by first | assumption | omega | (dsimp only; omega))) ?_) | (refine AL.rp rfl rfl (rp_lssF rfl rfl rfl (by first | assumption | omega | (dsimp only; omega))) ?_) | (refine AL.rp rfl rfl (rp_lss rfl rfl rfl) ?_))
       refine AL.rp rfl rfl (rp_move rfl rfl) ?_
       (first | (refine AL.noV rfl rfl rfl rfl ?_) | (refine AL.noU rfl ⟨_, rfl, rfl⟩ rfl ?_) | (refine AL.rpy rfl rfl rfl (rp_move rfl rfl) ?_))
       (first | (refine AL.noV rfl rfl rfl rfl ?_) | (refine AL.noU rfl ⟨_, rfl, rfl⟩ rfl ?_) | (refine AL.rpy rfl rfl rfl (rp_gtrT rfl rfl rfl (by first | assumption | omega | (dsimp only; omega))) ?_) | (refine AL.rpy rfl rfl rfl (rp_gtrF rfl rfl rfl (by first | assumption | omega | (dsimp only; omega))) ?_) | (refine AL.rpy rfl rfl rfl (rp_gtr rfl rfl rfl) ?_))
       refine AL.rp rfl rfl (rp_pick rfl rfl rfl) ?_
       refine AL.nil ?_
       try simp only [thenS, S.put]
       refine AW.condF rfl ?_
       refine AW.skip ?_
       try simp only [thenS]
       refine AW.seq ?_
       refine AW.region ?_
       refine AL.rp rfl rfl (rp_move rfl rfl) ?_
       refine AL.rp rfl rfl (rp_move rfl rfl) ?_
       refine AL.rp rfl rfl (rp_add rfl rfl rfl (by first | omega | (dsimp only; omega))) ?_
       refine AL.rp rfl rfl (rp_conv32 Tryd.underlying3 Tryd.underlying21 rfl rfl (by omega)) ?_
       refine AL.rp rfl rfl (rp_runeStr (m := 97 + xb.toNat) Tryd.underlying21 Tryd.underlying9 rfl rfl (by first | rfl | omega) (by omega)) ?_
       refine AL.rp rfl rfl (rp_adds rfl rfl rfl (by first | assumption | omega | (simp only [ByteArray.size_append]; omega))) ?_
       refine AL.rp rfl rfl (rp_adds rfl rfl rfl (by first | assumption | omega | (simp only [ByteArray.size_append]; omega))) ?_
       refine AL.rp rfl rfl (rp_assign rfl rfl) ?_
       refine AL.nil ?_
       try simp only [thenS, S.put]
       refine AW.region ?_
       refine AL.rp rfl rfl (rp_move rfl rfl) ?_
       try simp only [S.put, S.newObj, setL, V.cs, List.length_cons, List.length_nil, List.take_succ_cons, List.take_zero, List.drop_succ_cons, List.drop_zero, List.drop_nil, List.nil_append, List.cons_append, List.append_nil, Nat.zero_add, Nat.reduceAdd]
       refine AL.pc [1, 5, 6, 29] (ts := [_, _, _, _]) (args := [_, _]) (post := ?pc11) ?hc11 rfl rfl rfl rfl rfl rfl rfl rfl rfl ?_
       case hc11 => (refine pc_fieldB 6 (b.toNat : Int) (by omega) _ _ <;> first | rfl | (simp [V.lowL, V.low]; done))
       rintro _ _ _ ⟨rfl, rfl, rfl⟩
       simp only [back, S.put, List.cons_append, List.nil_append, List.zip_cons_cons, List.zip_nil_left, List.drop_succ_cons, List.drop_zero, List.length_cons, List.length_nil, Nat.zero_add, Nat.reduceAdd]
       (first | (refine AL.rp rfl rfl (rp_nilCheck rfl rfl) ?_) | (refine AL.rp rfl rfl (rp_nilCheck_ad rfl rfl) ?_))
       (first | (refine AL.st rfl (st_store_map2 inf3 rfl rfl rfl rfl rfl rfl rfl rfl (by first | assumption | omega)) ?_) | (refine AL.st rfl (st_store inf3 rfl rfl rfl rfl rfl rfl rfl (by first | decide | (simp; done)) rfl) ?_))
       refine AL.nil ?_
       try simp only [thenS, S.put, S.newObj, setL, V.cs, List.length_cons, List.length_nil, List.take_succ_cons, List.take_zero, List.drop_succ_cons, List.drop_zero, List.drop_nil, List.nil_append, List.cons_append, List.append_nil, Nat.zero_add, Nat.reduceAdd, List.map_cons, List.map_nil, List.set_cons_zero, List.set_cons_succ]
       refine ⟨μ - 1, _, ?_, ⟨j + 1, L ++ (⟨#[32]⟩ ++ ⟨#[UInt8.ofNat (97 + xb.toNat)]⟩), ⟨0, Rt, Ra, 0, Rn⟩, by omega, rfl, by (simp only [ByteArray.size_append]; omega), hI, rfl⟩, by omega⟩
       exact (Less.of rfl (by repeat (first | exact trivial | refine ⟨⟨_, rfl, Wk.refl _⟩, ?_⟩ | refine ⟨⟨_, rfl, Wk.nil _ _⟩, ?_⟩ | refine ⟨⟨_, rfl, Wk.junk _⟩, ?_⟩)) (by repeat (first | exact trivial | refine ⟨rfl, ?_⟩)) rfl)
      ·rw [proc_rF h110 (by rw [hfl]; exact hr)] at hI
       rw [hI, prR_err (by decide)] at hspec
       simp only [Prod.mk.injEq] at hspec
       obtain ⟨rfl, rfl⟩ := hspec
       unfold rgOk at hr
       by_cases hneg : xb < 0
       ·skip
        refine AW.seq ?_
        refine AW.region ?_
        (first | (refine AL.st rfl (st_next rfl rfl (by assumption) (by omega) rfl (by first | rfl | (simp [S.put, S.newObj, setL, V.cs, V.mpsL, V.mps, D.mps, D.mpsL, D.mpsR]; done)) (by first | rfl | (simp [S.put, S.newObj, setL, V.cs, V.mpsL, V.mps, D.mps, D.mpsL, D.mpsR]; done)) (by first | rfl | (simp [S.put]; done)) rfl) ?_; simp only [S.put, List.map_cons, List.map_nil, upI_p, upI_ref, upI_junk, upI_it]) | (refine AL.rd rfl rfl (rd_nextEnd rfl rfl (by omega)) ?_))
        refine AL.rp rfl rfl (rp_extract rfl rfl rfl) ?_
        refine AL.nil ?_
        try simp only [thenS, S.put, S.newObj, setL, V.cs, List.length_cons, List.length_nil, List.take_succ_cons, List.take_zero, List.drop_succ_cons, List.drop_zero, List.drop_nil, List.nil_append, List.cons_append, List.append_nil, Nat.zero_add, Nat.reduceAdd, List.map_cons, List.map_nil, List.set_cons_zero, List.set_cons_succ]
        refine AW.seq ?_
        refine AW.condT rfl ?_
        refine AW.skip ?_
        try simp only [thenS]
        refine AW.block ?_
        refine AW.seq ?_
        refine AW.region ?_
        refine AL.rp rfl rfl (rp_extract rfl rfl rfl) ?_
        refine AL.rp rfl rfl (rp_assign rfl rfl) ?_
        refine AL.nil ?_
        try simp only [thenS, S.put]
        refine AW.seq ?_
        refine AW.seq ?_
        refine AW.region ?_
        refine AL.rp rfl rfl (rp_move rfl rfl) ?_
        (first | (refine AL.rp rfl rfl (rp_eqlT rfl rfl rfl (by first | assumption | omega | (dsimp only; omega))) ?_) | (refine AL.rp rfl rfl (rp_eqlF rfl rfl rfl (by first | assumption | omega | (dsimp only; omega))) ?_) | (refine AL.rp rfl rfl (rp_eql rfl rfl rfl) ?_))
        refine AL.nil ?_
        try simp only [thenS, S.put]
        refine AW.condF rfl ?_
        refine AW.skip ?_
        try simp only [thenS]
        refine AW.seq ?_
        refine AW.region ?_
        refine AL.rp rfl rfl (rp_move rfl rfl) ?_
        try simp only [S.put, S.newObj, setL, V.cs, List.length_cons, List.length_nil, List.take_succ_cons, List.take_zero, List.drop_succ_cons, List.drop_zero, List.drop_nil, List.nil_append, List.cons_append, List.append_nil, Nat.zero_add, Nat.reduceAdd]
        refine AL.pc [1, 5, 6, 8, 29] (ts := [_, _, _, _, _]) (args := [_, _]) (post := ?pc12) ?hc12 rfl rfl rfl rfl rfl rfl rfl rfl rfl ?_
        case hc12 => (refine pc_fieldB 1 (b.toNat : Int) (by omega) _ _ <;> first | rfl | (simp [V.lowL, V.low]; done))
        rintro _ _ _ ⟨rfl, rfl, rfl⟩
        simp only [back, S.put, List.cons_append, List.nil_append, List.zip_cons_cons, List.zip_nil_left, List.drop_succ_cons, List.drop_zero, List.length_cons, List.length_nil, Nat.zero_add, Nat.reduceAdd]
        (first | (refine AL.rp rfl rfl (rp_nilCheck rfl rfl) ?_) | (refine AL.rp rfl rfl (rp_nilCheck_ad rfl rfl) ?_))
        (first | (refine AL.rd rfl rfl (rd_load_ref Tryd.underlying3 rfl rfl rfl rfl rfl rfl) ?_) | (refine AL.rd rfl rfl (rd_load_ad Tryd.underlying3 rfl rfl rfl rfl) ?_) | (refine AL.rd rfl rfl (rd_load_map Tryd.underlying3 rfl rfl rfl rfl rfl rfl (by assumption)) ?_) | (refine AL.rd rfl rfl (rd_load_flat Tryd.underlying3 rfl rfl rfl rfl rfl rfl (fun _ => rfl) (by assumption) rfl) ?_))
        refine AL.rp rfl rfl (rp_assign rfl rfl) ?_
        refine AL.nil ?_
        try simp only [thenS, S.put]
        refine AW.seq ?_
        refine AW.seq ?_
        refine AW.region ?_
        refine AL.rp rfl rfl (rp_move rfl rfl) ?_
        (first | (refine AL.rp rfl rfl (rp_lssT rfl rfl rfl (by first | assumption | omega | (dsimp only; omega))) ?_) | (refine AL.rp rfl rfl (rp_lssF rfl rfl rfl (by first | assumption | omega | (dsimp only; omega))) ?_) | (refine AL.rp rfl rfl (rp_lss rfl rfl rfl) ?_))
        refine AL.rp rfl rfl (rp_move rfl rfl) ?_
        (first | (refine AL.noV rfl rfl rfl rfl ?_) | (refine AL.noU rfl ⟨_, rfl, rfl⟩ rfl ?_) | (refine AL.rpy rfl rfl rfl (rp_move rfl rfl) ?_))
        (first | (refine AL.noV rfl rfl rfl rfl ?_) | (refine AL.noU rfl ⟨_, rfl, rfl⟩ rfl ?_) | (refine AL.rpy rfl rfl rfl (rp_gtrT rfl rfl rfl (by first | assumption | omega | (dsimp only; omega))) ?_) | (refine AL.rpy rfl rfl rfl (rp_gtrF rfl rfl rfl (by first | assumption | omega | (dsimp only; omega))) ?_) | (refine AL.rpy rfl rfl rfl (rp_gtr rfl rfl rfl) ?_))
        refine AL.rp rfl rfl (rp_pick rfl rfl rfl) ?_
        refine AL.nil ?_
        try simp only [thenS, S.put]
        refine AW.condT rfl ?_
        refine AW.seq ?_
        refine AW.region ?_
        refine AL.rp rfl rfl (rp_assign rfl rfl) ?_
        refine AL.rp rfl rfl (rp_assign rfl rfl) ?_
        refine AL.nil ?_
        try simp only [thenS, S.put]
        refine AW.ret ?_
        exact ⟨[_, _], ⟨rfl, rfl, trivial⟩, rfl, by simp [tupOf, V.pure, V.has, V.hasL]⟩
       ·have hbig : 25 < xb := by omega
        refine AW.seq ?_
        refine AW.region ?_
        (first | (refine AL.st rfl (st_next rfl rfl (by assumption) (by omega) rfl (by first | rfl | (simp [S.put, S.newObj, setL, V.cs, V.mpsL, V.mps, D.mps, D.mpsL, D.mpsR]; done)) (by first | rfl | (simp [S.put, S.newObj, setL, V.cs, V.mpsL, V.mps, D.mps, D.mpsL, D.mpsR]; done)) (by first | rfl | (simp [S.put]; done)) rfl) ?_; simp only [S.put, List.map_cons, List.map_nil, upI_p, upI_ref, upI_junk, upI_it]) | (refine AL.rd rfl rfl (rd_nextEnd rfl rfl (by omega)) ?_))
        refine AL.rp rfl rfl (rp_extract rfl rfl rfl) ?_
        refine AL.nil ?_
        try simp only [thenS, S.put, S.newObj, setL, V.cs, List.length_cons, List.length_nil, List.take_succ_cons, List.take_zero, List.drop_succ_cons, List.drop_zero, List.drop_nil, List.nil_append, List.cons_append, List.append_nil, Nat.zero_add, Nat.reduceAdd, List.map_cons, List.map_nil, List.set_cons_zero, List.set_cons_succ]
        refine AW.seq ?_
        refine AW.condT rfl ?_
        refine AW.skip ?_
        try simp only [thenS]
        refine AW.block ?_
        refine AW.seq ?_
        refine AW.region ?_
        refine AL.rp rfl rfl (rp_extract rfl rfl rfl) ?_
        refine AL.rp rfl rfl (rp_assign rfl rfl) ?_
        refine AL.nil ?_
        try simp only [thenS, S.put]
        refine AW.seq ?_
        refine AW.seq ?_
        refine AW.region ?_
        refine AL.rp rfl rfl (rp_move rfl rfl) ?_
        (first | (refine AL.rp rfl rfl (rp_eqlT rfl rfl rfl (by first | assumption | omega | (dsimp only; omega))) ?_) | (refine AL.rp rfl rfl (rp_eqlF rfl rfl rfl (by first | assumption | omega | (dsimp only; omega))) ?_) | (refine AL.rp rfl rfl (rp_eql rfl rfl rfl) ?_))
        refine AL.nil ?_
        try simp only [thenS, S.put]
        refine AW.condF rfl ?_
        refine AW.skip ?_
        try simp only [thenS]
        refine AW.seq ?_
        refine AW.region ?_
        refine AL.rp rfl rfl (rp_move rfl rfl) ?_
        try simp only [S.put, S.newObj, setL, V.cs, List.length_cons, List.length_nil, List.take_succ_cons, List.take_zero, List.drop_succ_cons, List.drop_zero, List.drop_nil, List.nil_append, List.cons_append, List.append_nil, Nat.zero_add, Nat.reduceAdd]
        refine AL.pc [1, 5, 6, 8, 29] (ts := [_, _, _, _, _]) (args := [_, _]) (post := ?pc13) ?hc13 rfl rfl rfl rfl rfl rfl rfl rfl rfl ?_
        case hc13 => (refine pc_fieldB 1 (b.toNat : Int) (by omega) _ _ <;> first | rfl | (simp [V.lowL, V.low]; done))
        rintro _ _ _ ⟨rfl, rfl, rfl⟩
        simp only [back, S.put, List.cons_append, List.nil_append, List.zip_cons_cons, List.zip_nil_left, List.drop_succ_cons, List.drop_zero, List.length_cons, List.length_nil, Nat.zero_add, Nat.reduceAdd]
        (first | (refine AL.rp rfl rfl (rp_nilCheck rfl rfl) ?_) | (refine AL.rp rfl rfl (rp_nilCheck_ad rfl rfl) ?_))
        (first | (refine AL.rd rfl rfl (rd_load_ref Tryd.underlying3 rfl rfl rfl rfl rfl rfl) ?_) | (refine AL.rd rfl rfl (rd_load_ad Tryd.underlying3 rfl rfl rfl rfl) ?_) | (refine AL.rd rfl rfl (rd_load_map Tryd.underlying3 rfl rfl rfl rfl rfl rfl (by assumption)) ?_) | (refine AL.rd rfl rfl (rd_load_flat Tryd.underlying3 rfl rfl rfl rfl rfl rfl (fun _ => rfl) (by assumption) rfl) ?_))
        refine AL.rp rfl rfl (rp_assign rfl rfl) ?_
        refine AL.nil ?_
        try simp only [thenS, S.put]
        refine AW.seq ?_
        refine AW.seq ?_
        refine AW.region ?_
        refine AL.rp rfl rfl (rp_move rfl rfl) ?_
        (first | (refine AL.rp rfl rfl (rp_lssT rfl rfl rfl (by first | assumption | omega | (dsimp only; omega))) ?_) | (refine AL.rp rfl rfl (rp_lssF rfl rfl rfl (by first | assumption | omega | (dsimp only; omega))) ?_) | (refine AL.rp rfl rfl (rp_lss rfl rfl rfl) ?_))
        refine AL.rp rfl rfl (rp_move rfl rfl) ?_
        (first | (refine AL.noV rfl rfl rfl rfl ?_) | (refine AL.noU rfl ⟨_, rfl, rfl⟩ rfl ?_) | (refine AL.rpy rfl rfl rfl (rp_move rfl rfl) ?_))
        (first | (refine AL.noV rfl rfl rfl rfl ?_) | (refine AL.noU rfl ⟨_, rfl, rfl⟩ rfl ?_) | (refine AL.rpy rfl rfl rfl (rp_gtrT rfl rfl rfl (by first | assumption | omega | (dsimp only; omega))) ?_) | (refine AL.rpy rfl rfl rfl (rp_gtrF rfl rfl rfl (by first | assumption | omega | (dsimp only; omega))) ?_) | (refine AL.rpy rfl rfl rfl (rp_gtr rfl rfl rfl) ?_))
        refine AL.rp rfl rfl (rp_pick rfl rfl rfl) ?_
        refine AL.nil ?_
        try simp only [thenS, S.put]
        refine AW.condT rfl ?_
        refine AW.seq ?_
        refine AW.region ?_
        refine AL.rp rfl rfl (rp_assign rfl rfl) ?_
        refine AL.rp rfl rfl (rp_assign rfl rfl) ?_
        refine AL.nil ?_
        try simp only [thenS, S.put]
        refine AW.ret ?_
        exact ⟨[_, _], ⟨rfl, rfl, trivial⟩, rfl, by simp [tupOf, V.pure, V.has, V.hasL]⟩
  ·have hjl : j = len := by omega
   rw [List.drop_eq_nil_of_le (by omega), proc] at hI
   rw [hI] at hspec
   by_cases hz : (⟨0, Rt, Ra, Rb, Rn⟩ : Stp) = ⟨0, 0, 0, 0, ⟨#[]⟩⟩
   ·rw [prR_ok hz] at hspec
    simp only [Prod.mk.injEq] at hspec
    obtain ⟨rfl, rfl⟩ := hspec
    refine AW.seq ?_
    refine AW.region ?_
    (first | (refine AL.st rfl (st_next rfl rfl (by assumption) (by omega) rfl (by first | rfl | (simp [S.put, S.newObj, setL, V.cs, V.mpsL, V.mps, D.mps, D.mpsL, D.mpsR]; done)) (by first | rfl | (simp [S.put, S.newObj, setL, V.cs, V.mpsL, V.mps, D.mps, D.mpsL, D.mpsR]; done)) (by first | rfl | (simp [S.put]; done)) rfl) ?_; simp only [S.put, List.map_cons, List.map_nil, upI_p, upI_ref, upI_junk, upI_it]) | (refine AL.rd rfl rfl (rd_nextEnd rfl rfl (by omega)) ?_))
    refine AL.rp rfl rfl (rp_extract rfl rfl rfl) ?_
    refine AL.nil ?_
    try simp only [thenS, S.put, S.newObj, setL, V.cs, List.length_cons, List.length_nil, List.take_succ_cons, List.take_zero, List.drop_succ_cons, List.drop_zero, List.drop_nil, List.nil_append, List.cons_append, List.append_nil, Nat.zero_add, Nat.reduceAdd, List.map_cons, List.map_nil, List.set_cons_zero, List.set_cons_succ]
    refine AW.seq ?_
    refine AW.condF rfl ?_
    refine AW.exit ?_
    try simp only [thenS, inBlockS, ↓reduceIte, Nat.reduceEqDiff]
    refine AW.seq ?_
    refine AW.seq ?_
    refine AW.region ?_
    (first | (refine AL.rd rfl rfl (rd_loads_ref Tryd.underlying45 rfl inf45 rfl rfl rfl rfl rfl rfl) ?_) | (refine AL.rd rfl rfl (rd_loads_ad Tryd.underlying45 rfl inf45 rfl rfl rfl rfl) ?_))
    refine AL.rp rfl rfl (rp_build (vs := []) (zs := [.d (.p (.int .i64 0)), .d (.p (.int .i64 0)), .d (.p (.int .i64 0)), .d (.p (.int .i64 0)), .d (.p (.string ⟨#[]⟩))]) pl45 inf45 rfl rfl rfl rfl) ?_
    (first | (refine AL.rp rfl rfl (cmp_neq_45F rfl rfl rfl rfl (by first | assumption | rfl)) ?_) | (refine AL.rp rfl rfl (cmp_neq_45T rfl rfl rfl rfl (by first | assumption | rfl)) ?_))
    refine AL.nil ?_
    try simp only [thenS, S.put]
    refine AW.condF rfl ?_
    refine AW.skip ?_
    try simp only [thenS]
    refine AW.seq ?_
    refine AW.region ?_
    refine AL.rp rfl rfl (rp_move rfl rfl) ?_
    refine AL.rp rfl rfl (rp_adds rfl rfl rfl (by first | assumption | omega | (simp only [ByteArray.size_append]; omega))) ?_
    refine AL.rp rfl rfl (rp_assign rfl rfl) ?_
    refine AL.rp rfl rfl (rp_assign rfl rfl) ?_
    refine AL.nil ?_
    try simp only [thenS, S.put]
    refine AW.ret ?_
    exact ⟨[_, _], ⟨rfl, rfl, trivial⟩, rfl, by simp [tupOf, V.pure, V.has, V.hasL]⟩
   ·rw [prR_form hz] at hspec
    simp only [Prod.mk.injEq] at hspec
    obtain ⟨rfl, rfl⟩ := hspec
    refine AW.seq ?_
    refine AW.region ?_
    (first | (refine AL.st rfl (st_next rfl rfl (by assumption) (by omega) rfl (by first | rfl | (simp [S.put, S.newObj, setL, V.cs, V.mpsL, V.mps, D.mps, D.mpsL, D.mpsR]; done)) (by first | rfl | (simp [S.put, S.newObj, setL, V.cs, V.mpsL, V.mps, D.mps, D.mpsL, D.mpsR]; done)) (by first | rfl | (simp [S.put]; done)) rfl) ?_; simp only [S.put, List.map_cons, List.map_nil, upI_p, upI_ref, upI_junk, upI_it]) | (refine AL.rd rfl rfl (rd_nextEnd rfl rfl (by omega)) ?_))
    refine AL.rp rfl rfl (rp_extract rfl rfl rfl) ?_
    refine AL.nil ?_
    try simp only [thenS, S.put, S.newObj, setL, V.cs, List.length_cons, List.length_nil, List.take_succ_cons, List.take_zero, List.drop_succ_cons, List.drop_zero, List.drop_nil, List.nil_append, List.cons_append, List.append_nil, Nat.zero_add, Nat.reduceAdd, List.map_cons, List.map_nil, List.set_cons_zero, List.set_cons_succ]
    refine AW.seq ?_
    refine AW.condF rfl ?_
    refine AW.exit ?_
    try simp only [thenS, inBlockS, ↓reduceIte, Nat.reduceEqDiff]
    refine AW.seq ?_
    refine AW.seq ?_
    refine AW.region ?_
    (first | (refine AL.rd rfl rfl (rd_loads_ref Tryd.underlying45 rfl inf45 rfl rfl rfl rfl rfl rfl) ?_) | (refine AL.rd rfl rfl (rd_loads_ad Tryd.underlying45 rfl inf45 rfl rfl rfl rfl) ?_))
    refine AL.rp rfl rfl (rp_build (vs := []) (zs := [.d (.p (.int .i64 0)), .d (.p (.int .i64 0)), .d (.p (.int .i64 0)), .d (.p (.int .i64 0)), .d (.p (.string ⟨#[]⟩))]) pl45 inf45 rfl rfl rfl rfl) ?_
    (first | (refine AL.rp rfl rfl (cmp_neq_45F rfl rfl rfl rfl (by first | assumption | rfl)) ?_) | (refine AL.rp rfl rfl (cmp_neq_45T rfl rfl rfl rfl (by first | assumption | rfl)) ?_))
    refine AL.nil ?_
    try simp only [thenS, S.put]
    refine AW.condT rfl ?_
    refine AW.seq ?_
    refine AW.region ?_
    refine AL.rp rfl rfl (rp_assign rfl rfl) ?_
    refine AL.rp rfl rfl (rp_assign rfl rfl) ?_
    refine AL.nil ?_
    try simp only [thenS, S.put]
    refine AW.ret ?_
    exact ⟨[_, _], ⟨rfl, rfl, trivial⟩, rfl, by simp [tupOf, V.pure, V.has, V.hasL]⟩
 ·have hS : stS x = ⟨#[]⟩ := by unfold stS; rw [stE_kind hk]; rfl
  rw [stE_kind hk, hS]
  obtain ⟨xk, xt, xa, xb, xn⟩ := x
  simp only at hk
  simp only [stpD, List.map_cons, List.map_nil]
  by_cases hneg : xk < 1
  ·refine FnP.intro (n := 70) ⟨Tryd.func16, rfl, rfl, rfl, rfl⟩ (by simp [V.pure, V.has, V.hasL]) (by simp) fun w0 out hpre => ?_
   refine AW.seq ?_
   refine AW.region ?_
   refine AL.sm rfl (sm_box 1 rfl rfl rfl (by first | rfl | simp [S.clean, S.put, S.newObj, S.forget, V.has, V.hasL, junkIf, setL, V.cs, hasL_i, hasL_d, hasL_b, hasL_s, hasL_n, hasL_rep, hasL_flat, hasL_append, -List.map_set]) rfl) ?_
   refine AL.rp rfl rfl (rp_assign rfl rfl) ?_
   refine AL.rp rfl rfl (rp_assign rfl rfl) ?_
   refine AL.nil ?_
   try simp only [thenS, S.put, S.newObj, setL, V.cs, List.length_cons, List.length_nil, List.take_succ_cons, List.take_zero, List.drop_succ_cons, List.drop_zero, List.drop_nil, List.nil_append, List.cons_append, List.append_nil, Nat.zero_add, Nat.reduceAdd, List.map_cons, List.map_nil, List.set_cons_zero, List.set_cons_succ, enum]
   refine AW.seq ?_
   refine AW.seq ?_
   refine AW.region ?_
   (first | (refine AL.rp rfl rfl (rp_field_ref Tryd.underlying45 rfl rfl rfl inf3 (by decide) rfl) ?_) | (refine AL.rp rfl rfl (rp_field_ad Tryd.underlying45 rfl rfl rfl inf3 (by decide) rfl) ?_))
   (first | (refine AL.rd rfl rfl (rd_load_ref Tryd.underlying3 rfl rfl rfl rfl rfl rfl) ?_) | (refine AL.rd rfl rfl (rd_load_ad Tryd.underlying3 rfl rfl rfl rfl) ?_) | (refine AL.rd rfl rfl (rd_load_map Tryd.underlying3 rfl rfl rfl rfl rfl rfl (by assumption)) ?_) | (refine AL.rd rfl rfl (rd_load_flat Tryd.underlying3 rfl rfl rfl rfl rfl rfl (fun _ => rfl) (by assumption) rfl) ?_))
   (first | (refine AL.rp rfl rfl (rp_lssT rfl rfl rfl (by first | assumption | omega | (dsimp only; omega))) ?_) | (refine AL.rp rfl rfl (rp_lssF rfl rfl rfl (by first | assumption | omega | (dsimp only; omega))) ?_) | (refine AL.rp rfl rfl (rp_lss rfl rfl rfl) ?_))
   refine AL.rp rfl rfl (rp_move rfl rfl) ?_
   (first | (refine AL.noV rfl rfl rfl rfl ?_) | (refine AL.noU rfl ⟨_, rfl, rfl⟩ rfl ?_) | (refine AL.rpy rfl rfl rfl (rp_field_ref Tryd.underlying45 rfl rfl rfl inf3 (by decide) rfl) ?_) | (refine AL.rpy rfl rfl rfl (rp_field_ad Tryd.underlying45 rfl rfl rfl inf3 (by decide) rfl) ?_))
   (first | (refine AL.noV rfl rfl rfl rfl ?_) | (refine AL.noU rfl ⟨_, rfl, rfl⟩ rfl ?_) | (refine AL.rdy rfl rfl rfl (rd_load_ref Tryd.underlying3 rfl rfl rfl rfl rfl rfl) ?_) | (refine AL.rdy rfl rfl rfl (rd_load_ad Tryd.underlying3 rfl rfl rfl rfl) ?_) | (refine AL.rdy rfl rfl rfl (rd_load_map Tryd.underlying3 rfl rfl rfl rfl rfl rfl (by assumption)) ?_) | (refine AL.rdy rfl rfl rfl (rd_load_flat Tryd.underlying3 rfl rfl rfl rfl rfl rfl (fun _ => rfl) (by assumption) rfl) ?_))
   (first | (refine AL.noV rfl rfl rfl rfl ?_) | (refine AL.noU rfl ⟨_, rfl, rfl⟩ rfl ?_) | (refine AL.rpy rfl rfl rfl (rp_gtrT rfl rfl rfl (by first | assumption | omega | (dsimp only; omega))) ?_) | (refine AL.rpy rfl rfl rfl (rp_gtrF rfl rfl rfl (by first | assumption | omega | (dsimp only; omega))) ?_) | (refine AL.rpy rfl rfl rfl (rp_gtr rfl rfl rfl) ?_))
   refine AL.rp rfl rfl (rp_pick rfl rfl rfl) ?_
   refine AL.nil ?_
   try simp only [thenS, S.put]
   refine AW.condT rfl ?_
   refine AW.seq ?_
   refine AW.region ?_
   refine AL.rp rfl rfl (rp_assign rfl rfl) ?_
   refine AL.rp rfl rfl (rp_assign rfl rfl) ?_
   refine AL.nil ?_
   try simp only [thenS, S.put]
   refine AW.ret ?_
   exact ⟨[_, _], ⟨rfl, rfl, trivial⟩, rfl, by simp [tupOf, V.pure, V.has, V.hasL]⟩
  ·have hbig : 15 < xk := by omega
   refine FnP.intro (n := 70) ⟨Tryd.func16, rfl, rfl, rfl, rfl⟩ (by simp [V.pure, V.has, V.hasL]) (by simp) fun w0 out hpre => ?_
   refine AW.seq ?_
   refine AW.region ?_
   refine AL.sm rfl (sm_box 1 rfl rfl rfl (by first | rfl | simp [S.clean, S.put, S.newObj, S.forget, V.has, V.hasL, junkIf, setL, V.cs, hasL_i, hasL_d, hasL_b, hasL_s, hasL_n, hasL_rep, hasL_flat, hasL_append, -List.map_set]) rfl) ?_
   refine AL.rp rfl rfl (rp_assign rfl rfl) ?_
   refine AL.rp rfl rfl (rp_assign rfl rfl) ?_
   refine AL.nil ?_
   try simp only [thenS, S.put, S.newObj, setL, V.cs, List.length_cons, List.length_nil, List.take_succ_cons, List.take_zero, List.drop_succ_cons, List.drop_zero, List.drop_nil, List.nil_append, List.cons_append, List.append_nil, Nat.zero_add, Nat.reduceAdd, List.map_cons, List.map_nil, List.set_cons_zero, List.set_cons_succ, enum]
   refine AW.seq ?_
   refine AW.seq ?_
   refine AW.region ?_
   (first | (refine AL.rp rfl rfl (rp_field_ref Tryd.underlying45 rfl rfl rfl inf3 (by decide) rfl) ?_) | (refine AL.rp rfl rfl (rp_field_ad Tryd.underlying45 rfl rfl rfl inf3 (by decide) rfl) ?_))
   (first | (refine AL.rd rfl rfl (rd_load_ref Tryd.underlying3 rfl rfl rfl rfl rfl rfl) ?_) | (refine AL.rd rfl rfl (rd_load_ad Tryd.underlying3 rfl rfl rfl rfl) ?_) | (refine AL.rd rfl rfl (rd_load_map Tryd.underlying3 rfl rfl rfl rfl rfl rfl (by assumption)) ?_) | (refine AL.rd rfl rfl (rd_load_flat Tryd.underlying3 rfl rfl rfl rfl rfl rfl (fun _ => rfl) (by assumption) rfl) ?_))
   (first | (refine AL.rp rfl rfl (rp_lssT rfl rfl rfl (by first | assumption | omega | (dsimp only; omega))) ?_) | (refine AL.rp rfl rfl (rp_lssF rfl rfl rfl (by first | assumption | omega | (dsimp only; omega))) ?_) | (refine AL.rp rfl rfl (rp_lss rfl rfl rfl) ?_))
   refine AL.rp rfl rfl (rp_move rfl rfl) ?_
   (first | (refine AL.noV rfl rfl rfl rfl ?_) | (refine AL.noU rfl ⟨_, rfl, rfl⟩ rfl ?_) | (refine AL.rpy rfl rfl rfl (rp_field_ref Tryd.underlying45 rfl rfl rfl inf3 (by decide) rfl) ?_) | (refine AL.rpy rfl rfl rfl (rp_field_ad Tryd.underlying45 rfl rfl rfl inf3 (by decide) rfl) ?_))
   (first | (refine AL.noV rfl rfl rfl rfl ?_) | (refine AL.noU rfl ⟨_, rfl, rfl⟩ rfl ?_) | (refine AL.rdy rfl rfl rfl (rd_load_ref Tryd.underlying3 rfl rfl rfl rfl rfl rfl) ?_) | (refine AL.rdy rfl rfl rfl (rd_load_ad Tryd.underlying3 rfl rfl rfl rfl) ?_) | (refine AL.rdy rfl rfl rfl (rd_load_map Tryd.underlying3 rfl rfl rfl rfl rfl rfl (by assumption)) ?_) | (refine AL.rdy rfl rfl rfl (rd_load_flat Tryd.underlying3 rfl rfl rfl rfl rfl rfl (fun _ => rfl) (by assumption) rfl) ?_))
   (first | (refine AL.noV rfl rfl rfl rfl ?_) | (refine AL.noU rfl ⟨_, rfl, rfl⟩ rfl ?_) | (refine AL.rpy rfl rfl rfl (rp_gtrT rfl rfl rfl (by first | assumption | omega | (dsimp only; omega))) ?_) | (refine AL.rpy rfl rfl rfl (rp_gtrF rfl rfl rfl (by first | assumption | omega | (dsimp only; omega))) ?_) | (refine AL.rpy rfl rfl rfl (rp_gtr rfl rfl rfl) ?_))
   refine AL.rp rfl rfl (rp_pick rfl rfl rfl) ?_
   refine AL.nil ?_
   try simp only [thenS, S.put]
   refine AW.condT rfl ?_
   refine AW.seq ?_
   refine AW.region ?_
   refine AL.rp rfl rfl (rp_assign rfl rfl) ?_
   refine AL.rp rfl rfl (rp_assign rfl rfl) ?_
   refine AL.nil ?_
   try simp only [thenS, S.put]
   refine AW.ret ?_
   exact ⟨[_, _], ⟨rfl, rfl, trivial⟩, rfl, by simp [tupOf, V.pure, V.has, V.hasL]⟩
end Go.Proofs.YtbffolmgkkknpaaDoor

namespace Go.Proofs.YtbffolmgkkknpaaDoor
theorem hasL_vd (r : Nat) (l : List D) : V.hasL r (l.map V.d) = false := by simp [V.hasL_false, V.has]
theorem hasL_vdt (r n : Nat) (l : List D) : V.hasL r ((l.map V.d).take n) = false := by
  rw [V.hasL_false]
  intro v hv
  obtain ⟨d, _, rfl⟩ := List.mem_map.1 (List.mem_of_mem_take hv)
  rfl
end Go.Proofs.YtbffolmgkkknpaaDoor
