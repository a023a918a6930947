/- Part 8 of what the law CertainMakes rests on. -/
import Derived.Laws.IdiomRangeMap
import Derived.Test.YthiknkcigcglkaaDoorPkCe1
import Derived.Test.YthiknkcigcglkaaDoorPkCe2
import Derived.Test.YthiknkcigcglkaaDoorPkCe3
import Derived.Test.YthiknkcigcglkaaDoorPkCe4
import Derived.Test.YthiknkcigcglkaaDoorPkCe5
import Derived.Test.YthiknkcigcglkaaDoorPkCe6
import Derived.Test.YthiknkcigcglkaaDoorPkCe7
namespace Go.Proofs.YthiknkcigcglkaaDoor
open Go.RowKit
set_option linter.unusedSimpArgs false
set_option linter.unusedVariables false
set_option maxRecDepth 100000
set_option maxHeartbeats 8000000
def finP (sts : List St) (l : List (Nat × Nat)) : Int := l.foldl (fun b p => if (sts[p.1]?.getD ⟨0, []⟩).fin ≠ 1000000001 ∧ (b < 0 ∨ (p.2 : Int) + (sts[p.1]?.getD ⟨0, []⟩).fin < b) then (p.2 : Int) + (sts[p.1]?.getD ⟨0, []⟩).fin else b) (-1)
theorem finP_at {sts : List St} {l : List (Nat × Nat)} {k : Nat} {p : Nat × Nat} {x : St} (h : l[k]? = some p) (hx : sts[p.1]? = some x) : finP sts (l.take (k + 1)) = if x.fin ≠ 1000000001 ∧ (finP sts (l.take k) < 0 ∨ (p.2 : Int) + x.fin < finP sts (l.take k)) then (p.2 : Int) + x.fin else finP sts (l.take k) := by
 unfold finP
 rw [take_snoc h, List.foldl_append]
 simp only [List.foldl_cons, List.foldl_nil, hx, Option.getD_some]
theorem am_final (st : Int) (sts : List St) (l : List (Nat × Nat)) (hl : l.length ≤ 1000) (hb : ∀ x ∈ l, ptOk x ∧ x.1 < sts.length) (h60 : sts.length ≤ 60) (hfin : ∀ x ∈ sts, finOk x.fin = true) : Fn Tryd.prog 10 [.d (ptsD l), mV ⟨st, sts⟩] (fun v => v = .i (finP sts l)) := by
 obtain ⟨n, hn⟩ : ∃ n, l.length = n := ⟨_, rfl⟩
 obtain ⟨ns, hns⟩ : ∃ ns, sts.length = ns := ⟨_, rfl⟩
 rw [hn] at hl
 rw [hns] at h60 hb
 have hB : ∀ k, k ≤ n → -1 ≤ finP sts (l.take k) ∧ finP sts (l.take k) ≤ 2000000000000 := by
  intro k
  induction k with
  | zero => intro _; rw [List.take_zero]; unfold finP; simp
  | succ k ih =>
   intro hk
   have ih := ih zT13
   obtain ⟨p, hp⟩ := get_lt hn (show k < n by omega)
   obtain ⟨⟨h1, h2⟩, h3⟩ := hb p (List.mem_of_getElem? hp)
   obtain ⟨x, hx⟩ := get_lt hns h3
   have h4 := hfin x (List.mem_of_getElem? hx)
   simp only [finOk, decide_eq_true_eq] at h4
   rw [finP_at hp hx]
   split <;> omega
 refine Fn.intro (n := 42) ⟨Tryd.func10, rfl, rfl, rfl, rfl⟩ zT8 zT14 fun w0 out => ?_
 apply AW.sr
 refine AL.sm rfl (sm_box 3 rfl rfl rfl rfl rfl) ?_
 refine AL.z ?_
 apply AL.nil
 try simp only [nd, setL, V.cs, nz, Nat.reduceAdd, nm, ns, enum]
 apply AW.sr
 refine AL.z ?_
 apply AL.nil
 try simp only [nd]
 apply AW.seq
 apply AW.sr
 iterate 3 refine AL.z ?_
 apply AL.nil
 try simp only [nd]
 apply AW.block
 refine AW.loop (fun s' => ∃ (k : Nat) (b : Int), k ≤ n ∧ b = finP sts (l.take k) ∧ s' = ⟨42, [(3, .ref 3 0), (5, .i b), (9, .d (ptsD l)), (10, .i n), (11, .i k)], [(3, ⟨24, [.i st, .d (stsD sts)], false, 0⟩)], []⟩) (fun s' => n - s'.nat 11) ⟨_, ?_, 0, -1, by omega, rfl, rfl⟩ ?_
 ·exact Less.a0
 rintro s' ⟨k, b, hk, hb0, rfl⟩
 by_cases hlt : k < n
 ·obtain ⟨x, hx⟩ := get_lt hn hlt
  obtain ⟨⟨b1, b2⟩, b3⟩ := hb x (List.mem_of_getElem? hx)
  obtain ⟨y, hy⟩ := get_lt hns b3
  have h4 := hfin y (List.mem_of_getElem? hy)
  have hs := finP_at hx hy
  have hBk := hB k hk
  rw [← hb0] at hs hBk
  obtain ⟨p, q⟩ := x
  obtain ⟨f, A⟩ := y
  simp only at b1 b2 b3 hy hs h4
  simp only [finOk, decide_eq_true_eq] at h4
  clear hb0
  by_cases c1 : f = 1000000001
  ·skip
   apply AW.sr
   refine AL.z ?_
   apply AL.nil
   try simp only [nd]
   apply AW.seq
   refine AW.condT rfl ?_
   apply AW.skip
   try simp only [thenS]
   apply AW.seq
   apply AW.block
   apply AW.sr
   iterate 2 refine AL.z ?_
   refine AL.sm rfl (sm_alloc (l := [.d (.p (.int .i64 0)), .d (.p (.int .i64 0))]) 7 inf39 rfl rfl rfl rfl) ?_
   refine AL.y ?_
   apply AL.nil
   try simp only [nd, setL, V.cs, nz, Nat.reduceAdd, nm, ns]
   apply AW.sr
   iterate 8 refine AL.z ?_
   apply AL.nil
   try simp only [nd]
   apply AW.sr
   iterate 3 refine AL.z ?_
   refine AL.noV rfl rfl rfl rfl ?_
   refine AL.noV rfl rfl rfl rfl ?_
   refine AL.noV rfl rfl rfl rfl ?_
   refine AL.noU rfl ⟨_, rfl, rfl⟩ rfl ?_
   refine AL.noU rfl ⟨_, rfl, rfl⟩ rfl ?_
   refine AL.noU rfl ⟨_, rfl, rfl⟩ rfl ?_
   refine AL.noU rfl ⟨_, rfl, rfl⟩ rfl ?_
   refine AL.noU rfl ⟨_, rfl, rfl⟩ rfl ?_
   refine AL.noU rfl ⟨_, rfl, rfl⟩ rfl ?_
   refine AL.noV rfl rfl rfl rfl ?_
   refine AL.z ?_
   apply AL.nil
   try simp only [nd]
   refine AW.condF rfl ?_
   apply AW.skip
   try simp only [thenS]
   apply AW.region
   iterate 2 refine AL.z ?_
   apply AL.nil
   try simp only [nd]
   refine ⟨_, ?_, ⟨k + 1, b, by omega, by rw [hs, if_neg (fun h => h.1 c1)], rfl⟩, ?_⟩
   ·exact Less.a0
   simp [S.nat, fnd]; omega
  by_cases c2 : b < 0
  ·skip
   apply AW.sr
   refine AL.z ?_
   apply AL.nil
   try simp only [nd]
   apply AW.seq
   refine AW.condT rfl ?_
   apply AW.skip
   try simp only [thenS]
   apply AW.seq
   apply AW.block
   apply AW.sr
   iterate 2 refine AL.z ?_
   refine AL.sm rfl (sm_alloc (l := [.d (.p (.int .i64 0)), .d (.p (.int .i64 0))]) 7 inf39 rfl rfl rfl rfl) ?_
   refine AL.y ?_
   apply AL.nil
   try simp only [nd, setL, V.cs, nz, Nat.reduceAdd, nm, ns]
   apply AW.sr
   iterate 8 refine AL.z ?_
   apply AL.nil
   try simp only [nd]
   apply AW.sr
   iterate 3 refine AL.z ?_
   iterate 3 refine AL.zy ?_
   refine AL.noV rfl rfl rfl rfl ?_
   refine AL.noV rfl rfl rfl rfl ?_
   refine AL.noV rfl rfl rfl rfl ?_
   refine AL.noV rfl rfl rfl rfl ?_
   refine AL.noV rfl rfl rfl rfl ?_
   refine AL.noV rfl rfl rfl rfl ?_
   refine AL.zy ?_
   refine AL.z ?_
   apply AL.nil
   try simp only [nd]
   refine AW.condT rfl ?_
   apply AW.region
   iterate 5 refine AL.z ?_
   apply AL.nil
   try simp only [nd]
   apply AW.region
   iterate 2 refine AL.z ?_
   apply AL.nil
   try simp only [nd]
   refine ⟨_, ?_, ⟨k + 1, (q : Int) + f, by omega, by rw [hs, if_pos ⟨c1, .inl c2⟩], rfl⟩, ?_⟩
   ·exact Less.a0
   simp [S.nat, fnd]; omega
  by_cases c3 : (q : Int) + f < b
  ·skip
   apply AW.sr
   refine AL.z ?_
   apply AL.nil
   try simp only [nd]
   apply AW.seq
   refine AW.condT rfl ?_
   apply AW.skip
   try simp only [thenS]
   apply AW.seq
   apply AW.block
   apply AW.sr
   iterate 2 refine AL.z ?_
   refine AL.sm rfl (sm_alloc (l := [.d (.p (.int .i64 0)), .d (.p (.int .i64 0))]) 7 inf39 rfl rfl rfl rfl) ?_
   refine AL.y ?_
   apply AL.nil
   try simp only [nd, setL, V.cs, nz, Nat.reduceAdd, nm, ns]
   apply AW.sr
   iterate 8 refine AL.z ?_
   apply AL.nil
   try simp only [nd]
   apply AW.sr
   iterate 3 refine AL.z ?_
   iterate 10 refine AL.zy ?_
   refine AL.z ?_
   apply AL.nil
   try simp only [nd]
   refine AW.condT rfl ?_
   apply AW.region
   iterate 5 refine AL.z ?_
   apply AL.nil
   try simp only [nd]
   apply AW.region
   iterate 2 refine AL.z ?_
   apply AL.nil
   try simp only [nd]
   refine ⟨_, ?_, ⟨k + 1, (q : Int) + f, by omega, by rw [hs, if_pos ⟨c1, .inr c3⟩], rfl⟩, ?_⟩
   ·exact Less.a0
   simp [S.nat, fnd]; omega
  skip
  apply AW.sr
  refine AL.z ?_
  apply AL.nil
  try simp only [nd]
  apply AW.seq
  refine AW.condT rfl ?_
  apply AW.skip
  try simp only [thenS]
  apply AW.seq
  apply AW.block
  apply AW.sr
  iterate 2 refine AL.z ?_
  refine AL.sm rfl (sm_alloc (l := [.d (.p (.int .i64 0)), .d (.p (.int .i64 0))]) 7 inf39 rfl rfl rfl rfl) ?_
  refine AL.y ?_
  apply AL.nil
  try simp only [nd, setL, V.cs, nz, Nat.reduceAdd, nm, ns]
  apply AW.sr
  iterate 8 refine AL.z ?_
  apply AL.nil
  try simp only [nd]
  apply AW.sr
  iterate 3 refine AL.z ?_
  iterate 10 refine AL.zy ?_
  refine AL.z ?_
  apply AL.nil
  try simp only [nd]
  refine AW.condF rfl ?_
  apply AW.skip
  try simp only [thenS]
  apply AW.region
  iterate 2 refine AL.z ?_
  apply AL.nil
  try simp only [nd]
  refine ⟨_, ?_, ⟨k + 1, b, by omega, by rw [hs, if_neg (fun h => h.2.elim c2 c3)], rfl⟩, ?_⟩
  ·exact Less.a0
  simp [S.nat, fnd]; omega
 obtain rfl : k = n := by omega
 have hfull : l.take k = l := List.take_of_length_le zT13
 rw [hfull] at hb0
 apply AW.sr
 refine AL.z ?_
 apply AL.nil
 try simp only [nd]
 apply AW.seq
 refine AW.condF rfl ?_
 refine AW.exit ?_
 try simp only [thenS, inBlockS, ↓reduceIte, Nat.reduceEqDiff]
 apply AW.sr
 iterate 2 refine AL.z ?_
 apply AL.nil
 try simp only [nd]
 apply AW.ret
 exact ⟨[_], ⟨rfl, trivial⟩, by rw [← hb0]; rfl, by simp [tupOf, V.pure, V.has, V.hasL]⟩
mutual
/-- Does a value speak of an iterator over a map? -/
def V.its : V → Bool
  | .mit _ _ _ _ _ => true
  | .blk _ _ _ => true
  | .ifc _ v => V.its v
  | .agg l => V.itsL l
  | .tup l => V.itsL l
  | .fn _ l => V.itsL l
  | _ => false
def V.itsL : List V → Bool
  | [] => false
  | v :: l => V.its v || V.itsL l
end
theorem V.itsL_false {l : List V} : V.itsL l = false ↔ ∀ d ∈ l, V.its d = false := by
  induction l with
  | nil => simp [V.itsL]
  | cons x l ih => simp [V.itsL, ih]
/-- The iterator r has handed out those of seen; of other iterators nothing is said. -/
def upMI (r : Nat) (seen : List Nat) : V → V
  | .mit k rm N l s0 => if k = r then .mit k rm N l seen else .junk
  | v => if v.its then .junk else v
theorem ments_mem {l : List (Value × Value)} {e : MapEntry} (h : e ∈ (ments l).toList) : ∃ j kv, l[j]? = some kv ∧ e = { key := kv.1, val := kv.2, born := j } := by
  obtain ⟨j, hj⟩ := List.getElem?_of_mem h
  rw [Array.getElem?_toList, ments_get] at hj
  cases hl : l[j]? with
  | none => rw [hl] at hj; cases hj
  | some kv => rw [hl] at hj; simp at hj; exact ⟨j, kv, hl, hj.symm⟩
theorem ments_at {l : List (Value × Value)} {j : Nat} {kv : Value × Value} (h : l[j]? = some kv) : ({ key := kv.1, val := kv.2, born := j } : MapEntry) ∈ (ments l).toList := by
  have : (ments l).toList[j]? = some { key := kv.1, val := kv.2, born := j } := by rw [Array.getElem?_toList, ments_get, h]; rfl
  exact List.mem_of_getElem? this
theorem run_nextM {P : Program} (w : World) (ty : TypeId) (b bm : Nat) (l : List (Value × Value)) (seen : List Nat) (hb : w.heap[b]? = some (.mapIter (some bm) l.length seen.toArray l.length)) (hm : w.heap[bm]? = some (.map (ments l) l.length)) :
    ((∀ j, j < l.length → j ∈ seen) ∧ (Instr.next (.pointer (some ⟨b, 0, none⟩)) false ty).run P w = .ok (.tuple #[.bool false]) w) ∨
    ∃ (j : Nat) (kv : Value × Value) (w1 : World), l[j]? = some kv ∧ j ∉ seen ∧ w1.heap = w.heap ∧ Below w.heap.size w w1 ∧
      (Instr.next (.pointer (some ⟨b, 0, none⟩)) false ty).run P w = .ok (.tuple #[.bool true, kv.1, kv.2]) { w1 with heap := w.heap.setIfInBounds b (.mapIter (some bm) l.length (seen ++ [j]).toArray l.length) } := by
  have hold : ∀ x ∈ (ments l).toList, x.born < l.length := fun x hx => by
    obtain ⟨j, kv, h1, rfl⟩ := ments_mem hx
    exact (List.getElem?_eq_some_iff.1 h1).1
  simp only [Instr.next, getObj, Sem.run_bind, Sem.run, hb, hm, Result.andThen, next_test_false seen.toArray (ments l) l.length l.length hold (Nat.le_refl _), Bool.false_eq_true, if_false]
  have hmem : ∀ x ∈ (Array.filter (fun e => !seen.toArray.contains e.born) (ments l)).toList, x.born < l.length ∧ ∃ j kv, l[j]? = some kv ∧ j ∉ seen ∧ x = { key := kv.1, val := kv.2, born := j } := fun x hx => by
    simp only [Array.toList_filter, List.mem_filter] at hx
    refine ⟨hold x hx.1, ?_⟩
    obtain ⟨j, kv, h1, rfl⟩ := ments_mem hx.1
    exact ⟨j, kv, h1, by simpa using hx.2, rfl⟩
  have hall : (Array.filter (fun e => !seen.toArray.contains e.born) (ments l)).size = 0 → ∀ j, j < l.length → j ∈ seen := by
    intro h0 j hj
    refine Classical.byContradiction fun hn => ?_
    have h1 := ments_at (List.getElem?_eq_getElem hj)
    have : ({ key := l[j].1, val := l[j].2, born := j } : MapEntry) ∈ (Array.filter (fun e => !seen.toArray.contains e.born) (ments l)).toList := by
      rw [Array.toList_filter, List.mem_filter]
      exact ⟨h1, by simpa using hn⟩
    rw [Array.eq_empty_of_size_eq_zero h0] at this
    simp at this
  generalize Array.filter (fun e => !seen.toArray.contains e.born) (ments l) = L at hmem hall ⊢
  have e1 : L.filter (fun x => decide (x.born < l.length)) = L := Array.filter_eq_self.2 (fun x hx => by simpa using (hmem x (by simpa using hx)).1)
  have e2 : L.filter (fun x => decide (x.born ≥ l.length)) = #[] := by
    rw [Array.filter_eq_empty_iff]
    intro x hx
    have := (hmem x (by simpa using hx)).1
    simp
    omega
  simp only [e1, e2, Array.append_empty]
  by_cases h0 : L.size = 0
  · left
    refine ⟨hall h0, ?_⟩
    have : L = #[] := Array.eq_empty_of_size_eq_zero h0
    subst this
    simp [choose, Sem.run, Question.forced]
  right
  have hne : L.isEmpty = false := by simp [Array.isEmpty, h0]
  simp only [hne, Bool.false_eq_true, if_false, Array.empty_append, Array.size_map]
  have hch : ∃ (j : Nat) (w1 : World), j < L.size ∧ w1.heap = w.heap ∧ Below w.heap.size w w1 ∧ (choose (Question.mapNext L.size)).run P w = .ok j w1 := by
    by_cases hf : L.size ≤ 1
    · exact ⟨0, w, by omega, rfl, Below.refl _ _, by simp [choose, Sem.run, Question.forced, hf]⟩
    exact ⟨_, w.drew, Nat.mod_lt _ zT13, rfl, (Below.refl _ _).drew, by
      simp only [choose, Sem.run, Question.forced, decide_eq_true_eq, hf, if_false, Question.cut]
      rfl⟩
  obtain ⟨i, w1, hi, hh, hB, hrun⟩ := hch
  obtain ⟨_, j, kv, h1, h2, h3⟩ := hmem L[i] zT14
  refine ⟨j, kv, w1, h1, h2, hh, hB, ?_⟩
  have hset : ∀ (o' : Obj), (setObj b o').run P w1 = .ok () { w1 with heap := w.heap.setIfInBounds b o' } := fun o' => by
    simp only [setObj, Sem.run, hh, hb]
  simp only [hrun, Array.getElem?_map, Array.getElem?_eq_getElem hi, Option.map_some, Sem.run_bind, hset, Result.andThen, h3]
  simp
theorem run_entryM {P : Program} (w : World) (b bm j : Nat) (l : List (Value × Value)) (seen : List Nat) (kv : Value × Value) (hb : w.heap[b]? = some (.mapIter (some bm) l.length (seen ++ [j]).toArray l.length)) (hm : w.heap[bm]? = some (.map (ments l) l.length)) (hj : l[j]? = some kv) :
    (Instr.entry (.pointer (some ⟨b, 0, none⟩))).run P w = .ok (.tuple #[kv.1, kv.2]) w := by
  have hn : ((ments l).toList.map (·.born)).Nodup := by
    have : (ments l).toList.map (·.born) = List.range l.length := by
      refine List.ext_getElem? fun i => ?_
      rw [List.getElem?_map, Array.getElem?_toList, ments_get]
      by_cases hi : i < l.length
      · rw [List.getElem?_eq_getElem hi, List.getElem?_range hi]; rfl
      rw [List.getElem?_eq_none zT13, List.getElem?_eq_none (by simp; omega)]; rfl
    rw [this]
    exact List.nodup_range
  have hf : (ments l).find? (·.born == j) = some { key := kv.1, val := kv.2, born := j } := by
    rw [← Array.find?_toList]
    exact find_born { key := kv.1, val := kv.2, born := j } (ments l).toList hn (ments_at hj)
  have hbk : (seen ++ [j]).toArray.back? = some j := by simp
  simp only [Instr.entry, getObj, Sem.run_bind, Sem.run, hb, hm, Result.andThen, hbk, bne_self_eq_false, Bool.false_eq_true, if_false, hf]
  rfl
section
variable {c : Cx} {s : S} {o : Oper} {g : Nat → Nat × Nat} {a : Act} {w : World} {Q : Exit → S → Prop}
theorem DRep.noit {w w' : World} {q : Nat → Prop} {x : D} {v : Value} (h : DRep w q x v) (hsz : w.heap.size ≤ w'.heap.size) (hk : ∀ (b : Nat) (ob : Obj), w.heap[b]? = some ob → (∀ m s e k, ob ≠ Obj.mapIter m s e k) → w'.heap[b]? = some ob) : DRep w' q x v := by
  have hc : ∀ (b o : Nat) (u : Value), w.cell? ⟨b, o, none⟩ = some u → w'.cell? ⟨b, o, none⟩ = some u := fun b o u h => by
    have h0 := h
    unfold World.cell? at h
    cases hb : w.heap[b]? with
    | none => simp [hb] at h
    | some ob =>
      refine (World.cell?_of_block (w := w) (a := ⟨b, o, none⟩) ((hk b ob hb fun m s e k he => ?_).trans hb.symm)).trans h0
      subst he
      simp [hb] at h
  induction h with
  | p x => exact .p x
  | sl sz bt rows a cap b o f hcp ha hl h1 hr ih =>
    refine .sl sz bt rows a cap b o f hcp (fun hne => ?_) hl (fun i j row u h2 h3 => hc _ _ _ (h1 i j row u h2 h3)) ih
    obtain ⟨e1, e2, e3⟩ := ha hne
    exact ⟨e1, e2, Nat.lt_of_lt_of_le e3 hsz⟩
  | mp l b hb hm => exact .mp l b ⟨hb.1, Nat.lt_of_lt_of_le hb.2 hsz⟩ (hk _ _ hm (fun _ _ _ _ h => by cases h))
  | mm l b bs hb hl hqs hm hi => exact .mm l b bs ⟨hb.1, Nat.lt_of_lt_of_le hb.2 hsz⟩ hl (fun k hk' => ⟨(hqs k hk').1, Nat.lt_of_lt_of_le (hqs k hk').2 hsz⟩) (hk _ _ hm (fun _ _ _ _ h => by cases h)) fun j x k h1 h2 => hk _ _ (hi j x k h1 h2) (fun _ _ _ _ h => by cases h)
theorem VRep.noit {w w' : World} {q : Nat → Prop} {g : Nat → Nat × Nat} {x : V} {v : Value} (h : VRep w q g x v) (hsz : w.heap.size ≤ w'.heap.size) (hk : ∀ (b : Nat) (ob : Obj), w.heap[b]? = some ob → (∀ m s e k, ob ≠ Obj.mapIter m s e k) → w'.heap[b]? = some ob) : x.its = false → VRep w' q g x v := by
  have hc : ∀ (b o : Nat) (u : Value), w.cell? ⟨b, o, none⟩ = some u → w'.cell? ⟨b, o, none⟩ = some u := fun b o u h => by
    have h0 := h
    unfold World.cell? at h
    cases hb : w.heap[b]? with
    | none => simp [hb] at h
    | some ob =>
      refine (World.cell?_of_block (w := w) (a := ⟨b, o, none⟩) ((hk b ob hb fun m s e k he => ?_).trans hb.symm)).trans h0
      subst he
      simp [hb] at h
  have hmp : ∀ (b : Nat) (es : Array MapEntry) (n : Nat), w.heap[b]? = some (Obj.map es n) → w'.heap[b]? = some (Obj.map es n) := fun b es n h => hk _ _ h (fun _ _ _ _ h => by cases h)
  induction h with
  | d x v h => exact fun _ => .d x v (h.noit hsz hk)
  | ad row b o f hb h1 hr => exact fun _ => .ad row b o f ⟨hb.1, Nat.lt_of_lt_of_le hb.2 hsz⟩ (fun j u hu => hc _ _ _ (h1 j u hu)) (fun j u hu => (hr j u hu).noit hsz hk)
  | ref r o => exact fun _ => .ref r o
  | own r sz n hn hcap => exact fun _ => .own r sz n hn hcap
  | ownNil r sz => exact fun _ => .ownNil r sz
  | que r sz o n a cap hn hcap h => exact fun _ => .que r sz o n a cap hn hcap h
  | agg l cs hlen h ih => exact fun hm => .agg l cs hlen fun j u c h1 h2 => ih j u c h1 h2 (V.itsL_false.1 hm u (List.mem_of_getElem? h1))
  | tup l cs hlen h ih => exact fun hm => .tup l cs hlen fun j u c h1 h2 => ih j u c h1 h2 (V.itsL_false.1 hm u (List.mem_of_getElem? h1))
  | fn f l cs hlen h ih => exact fun hm => .fn f l cs hlen fun j u c h1 h2 => ih j u c h1 h2 (V.itsL_false.1 hm u (List.mem_of_getElem? h1))
  | mp r N l hN hm => exact fun _ => .mp r N l hN (hmp _ _ _ hm)
  | mq r N l vs hN hl hll hr hm => exact fun _ => .mq r N l vs hN hl hll (fun j x y i u z h1 h2 h3 h4 => (hr j x y i u z h1 h2 h3 h4).noit hsz hk) (hmp _ _ _ hm)
  | ifc t v x h ih => exact fun hm => .ifc t v x (ih (by simpa [V.its] using hm))
  | mp2 x r r' N l l' hN hN' hne hm hm' => exact fun _ => .mp2 x r r' N l l' hN hN' hne (hmp _ _ _ hm) (hmp _ _ _ hm')
  | it r N s pos hN hm => exact fun _ => .it r N s pos hN (hk _ _ hm (fun _ _ _ _ h => by cases h))
  | mit => exact fun h => by simp [V.its] at h
  | mm r N l bs hN hl hbs hnd hm hi => exact fun _ => .mm r N l bs hN hl hbs hnd (hmp _ _ _ hm) fun j x k h1 h2 => hmp _ _ _ (hi j x k h1 h2)
  | blk => exact fun h => by simp [V.its] at h
  | junk v => exact fun _ => .junk v
theorem Sim.upMit (hs : Sim c g s a w) {r rm : Nat} {l : List (Value × Value)} {seen seen' : List Nat} {w1 : World} (hw1 : w1.heap = w.heap) (hB : Below w.heap.size w w1) (hb : w.heap[(g r).1]? = some (.mapIter (some (g rm).1) l.length seen.toArray l.length)) (hmm : w.heap[(g rm).1]? = some (.map (ments l) l.length)) (hN : c.w0.heap.size ≤ (g r).1)
    (hH : ∀ k row, fnd s.H k = some row → V.itsL row.cells = false) (hK : V.itsL s.K = false) (hT : ∀ i k m N l' s', fnd s.T i = some (.mit k m N l' s') → k = r → m = rm ∧ l' = l) :
    Sim c g ⟨s.n, s.T.map (fun x => (x.1, upMI r seen' x.2)), s.H, s.K⟩ a { w1 with heap := w.heap.setIfInBounds (g r).1 (.mapIter (some (g rm).1) l.length seen'.toArray l.length) } := by
  have hlt : (g r).1 < w.heap.size := (Array.getElem?_eq_some_iff.1 hb).1
  obtain ⟨w', hw'⟩ : ∃ w', w' = { w1 with heap := w.heap.setIfInBounds (g r).1 (.mapIter (some (g rm).1) l.length seen'.toArray l.length) } := ⟨_, rfl⟩
  have hsz : w'.heap.size = w.heap.size := by rw [hw']; simp
  have hoth : ∀ b, b ≠ (g r).1 → w'.heap[b]? = w.heap[b]? := fun b hne => by rw [hw']; simp [Array.getElem?_setIfInBounds_ne (Ne.symm hne)]
  have hnew : w'.heap[(g r).1]? = some (.mapIter (some (g rm).1) l.length seen'.toArray l.length) := by rw [hw']; simp [hlt]
  have hk : ∀ (b : Nat) (ob : Obj), w.heap[b]? = some ob → (∀ m s e k, ob ≠ Obj.mapIter m s e k) → w'.heap[b]? = some ob := fun b ob h1 h2 => (hoth b fun e => by
    subst e
    rw [hb] at h1
    simp only [Option.some.injEq] at h1
    exact h2 _ _ _ _ h1.symm).trans h1
  have hm : ∀ {v x}, v.its = false → VRep w (qt c s.H g) g v x → VRep w' (qt c s.H g) g v x := fun hv h => h.noit zT13 hk hv
  rw [← hw']
  refine ⟨hs.size, hs.defers, ?_, hs.nul, ?_, ?_, hs.inj, hs.base, hs.low, ?_⟩
  · intro i v hv
    simp only at hv
    rw [fnd_map] at hv
    cases hu : fnd s.T i with
    | none => rw [hu] at hv; cases hv
    | some u =>
      rw [hu] at hv
      simp only [Option.map_some, Option.some.injEq] at hv
      obtain ⟨x, h1, h2⟩ := hs.tmp i u hu
      refine ⟨x, h1, ?_⟩
      subst hv
      have hgen : ∀ u : V, VRep w (qt c s.H g) g u x → VRep w' (qt c s.H g) g (if u.its then .junk else u) x := by
        intro u h2
        split
        · exact .junk _
        rename_i hne; exact hm (by simpa using hne) h2
      cases u with
      | mit k m N l0 s0 =>
        simp only [upMI]
        split
        · rename_i e
          obtain ⟨e1, e2⟩ := hT i _ _ _ _ _ hu e
          subst e e1 e2
          cases h2 with
          | mit _ _ _ _ _ h3 _ _ => exact .mit _ _ _ _ _ h3 hnew (hk _ _ hmm (fun _ _ _ _ h => by cases h))
        exact .junk _
      | d _ => exact hgen _ h2
      | ad _ => exact hgen _ h2
      | ref _ _ => exact hgen _ h2
      | own _ _ _ _ => exact hgen _ h2
      | que _ _ _ _ => exact hgen _ h2
      | agg _ => exact hgen _ h2
      | tup _ => exact hgen _ h2
      | fn _ _ => exact hgen _ h2
      | mp _ _ _ => exact hgen _ h2
      | mq _ _ _ => exact hgen _ h2
      | mp2 _ _ _ _ _ _ => exact hgen _ h2
      | ifc _ _ => exact hgen _ h2
      | it _ _ _ _ => exact hgen _ h2
      | mm _ _ _ => exact hgen _ h2
      | blk _ _ _ => exact hgen _ h2
      | junk => exact .junk _
  · intro k row hk' hn
    obtain ⟨arr, h1, h2, h3⟩ := hs.obj k row hk' hn
    refine ⟨arr, hk _ _ h1 (fun _ _ _ _ h => by cases h), h2, fun j v hv => ?_⟩
    obtain ⟨x, h4, h5⟩ := h3 j v hv
    exact ⟨x, h4, hm (V.itsL_false.1 (hH k row hk') v (List.mem_of_getElem? hv)) h5⟩
  · intro j v x h1 h2
    exact hm (V.itsL_false.1 hK v (List.mem_of_getElem? h1)) (hs.keep j v x h1 h2)
  have hb1 := hs.below.trans (hB.mono hs.below.size)
  refine hb1.trans ⟨by rw [hw'], by rw [hw'], by rw [hw'], by rw [hsz, hw1]; exact Nat.le_refl _, fun k hk' => (hoth k ?_).trans (by rw [hw1])⟩
  omega
/-- Over a map that is plain data: it gets a name. -/
theorem sm_rangeMD (r rm : Nat) {t k e : TypeId} {x : Operand} {l : List (Value × Value)} (hu : c.P.underlying t = some (.map k e)) (ho : o.op = .range t x) (hx : s.ev x = some (.d (.mp l))) (hr : s.clean r = true) (hrm : s.clean rm = true) (hne : rm ≠ r) (hd : dok s o = true) : StepM c o s (fun s' => s' = s.put o.dst (.mit r rm c.w0.heap.size l [])) := by
  intro g a w hs K Q hK
  obtain ⟨b, hxe, hm⟩ : ∃ b, a.eval x = .map (some b) ∧ w.heap[b]? = some (.map (ments l) l.length) := by
    have h := hs.ev hx
    generalize a.eval x = u at h
    cases h with
    | d _ _ h2 =>
      cases h2 with
      | mp _ b _ h3 => exact ⟨b, rfl, h3⟩
  have hb : Below w.heap.size w (w.alloc (.mapIter (some b) l.length #[] l.length)) := (Below.refl _ _).alloc (Nat.le_refl _) _
  have h1 := ((hs.move hb).regauge hrm (b, 0)).regauge hr (w.heap.size, 0)
  unfold Oper.wp
  have hexec : (execOp a.eval o).run c.P w = .ok (.value (.pointer (some ⟨w.heap.size, 0, none⟩))) (w.alloc (.mapIter (some b) l.length #[] l.length)) := by
    simp only [execOp, ho, hxe, Sem.run_bind, run_range_map w t k e b (ments l) l.length hu hm, Result.andThen_ok]
    rfl
  rw [hexec]
  refine hK _ _ _ _ rfl (h1.put o.dst (dok_spec hd) ?_) hb
  have := VRep.mit (w := w.alloc (.mapIter (some b) l.length #[] l.length)) (q := qt c s.H (fun k => if k = r then (w.heap.size, 0) else if k = rm then (b, 0) else g k)) (g := fun k => if k = r then (w.heap.size, 0) else if k = rm then (b, 0) else g k) r rm c.w0.heap.size l [] (by simp; exact hs.below.size) (by simp only [if_true, if_neg hne]; exact heap_alloc_new w _) (by simp only [if_true, if_neg hne]; exact (hb.block _ (Array.getElem?_eq_some_iff.1 hm).1).trans hm)
  simpa using this
theorem mit_eval (hs : Sim c g s a w) {x : Operand} {r rm N : Nat} {l : List (Value × Value)} {seen : List Nat} (hx : s.ev x = some (.mit r rm N l seen)) : a.eval x = .pointer (some ⟨(g r).1, 0, none⟩) ∧ N ≤ (g r).1 ∧ w.heap[(g r).1]? = some (.mapIter (some (g rm).1) l.length seen.toArray l.length) ∧ w.heap[(g rm).1]? = some (.map (ments l) l.length) := by
  have h := hs.ev hx
  generalize a.eval x = u at h
  cases h with
  | mit _ _ _ _ _ h1 h2 h3 => exact ⟨rfl, h1, h2, h3⟩
/-- The step: nothing is left, or one comes that has not come yet. -/
theorem AL.nextM {ops : Array Oper} {rest : List Oper} {t r rm N : Nat} {l : List (Value × Value)} {seen : List Nat} (hg : o.guard = none) (ho : o.op = .next (.tmp t) false) (hx : fnd s.T t = some (.mit r rm N l seen)) (hN : N = c.w0.heap.size) (hH : s.H.all (fun x => !V.itsL x.2.cells) = true) (hK : V.itsL s.K = false)
    (hT : s.T.all (fun x => match x.2 with | .mit k _ _ _ _ => decide (k ≠ r) || decide (x.1 = t) | _ => true) = true) (hd : dok s o = true)
    (h0 : (∀ j, j < l.length → j ∈ seen) → AL c ops rest Q (s.put o.dst (.tup [.b false])))
    (h1 : ∀ (j : Nat) (kv : Value × Value), l[j]? = some kv → j ∉ seen → AL c ops rest Q (S.put ⟨s.n, s.T.map (fun x => (x.1, upMI r (seen ++ [j]) x.2)), s.H, s.K⟩ o.dst (.tup [.b true, .junk, .junk]))) : AL c ops (o :: rest) Q s := by
  subst hN
  refine AL.step hg ?_
  intro g a w hs K Q' hK'
  obtain ⟨hxe, hNb, hm, hmm⟩ := mit_eval (x := .tmp t) hs hx
  unfold Oper.wp
  rcases run_nextM (P := c.P) w o.type (g r).1 (g rm).1 l seen hm hmm with ⟨h2, hrun⟩ | ⟨j, kv, w1, h2, h3, h4, h5, hrun⟩
  · have hexec : (execOp a.eval o).run c.P w = .ok (.value (.tuple #[.bool false])) w := by
      simp only [execOp, ho, hxe, Sem.run_bind, hrun, Result.andThen_ok]
      rfl
    rw [hexec]
    refine hK' g _ _ _ (h0 h2) (hs.put o.dst (dok_spec hd) ?_)
    exact .tup _ [.bool false] rfl fun j u y hu hy => by
      match j, hu, hy with
      | 0, hu, hy => simp at hu hy; subst hu hy; exact .d _ _ (.p _)
      | n + 1, hu, hy => simp at hu
  have hexec : (execOp a.eval o).run c.P w = .ok (.value (.tuple #[.bool true, kv.1, kv.2])) { w1 with heap := w.heap.setIfInBounds (g r).1 (.mapIter (some (g rm).1) l.length (seen ++ [j]).toArray l.length) } := by
    simp only [execOp, ho, hxe, Sem.run_bind, hrun, Result.andThen_ok]
    rfl
  rw [hexec]
  have hsim := hs.upMit (seen' := seen ++ [j]) h4 h5 hm hmm hNb (fun k row hk => by
    have := List.all_eq_true.1 hH _ (fnd_mem hk)
    simpa using this) hK (fun i k m N' l' s' hi he => by
    have := List.all_eq_true.1 hT _ (fnd_mem hi)
    simp only [Bool.or_eq_true, decide_eq_true_eq] at this
    rcases this with h | h
    · exact absurd he h
    subst h
    rw [hx] at hi
    cases hi
    exact ⟨rfl, rfl⟩)
  refine hK' g _ _ _ (h1 j kv h2 h3) (hsim.put o.dst (dok_spec (s := s) hd) ?_)
  exact .tup _ [.bool true, kv.1, kv.2] rfl fun j u y hu hy => by
    match j, hu, hy with
    | 0, hu, hy => simp at hu hy; subst hu hy; exact .d _ _ (.p _)
    | 1, hu, hy => simp at hu hy; subst hu; exact .junk _
    | 2, hu, hy => simp at hu hy; subst hu; exact .junk _
    | n + 3, hu, hy => simp at hu
theorem rd_entryM {x : Operand} {r rm N j : Nat} {l : List (Value × Value)} {seen : List Nat} {kv : Value × Value} {vk vv : V} (ho : o.op = .entry x) (hx : s.ev x = some (.mit r rm N l (seen ++ [j]))) (hj : l[j]? = some kv) (hk : ∀ w q g, VRep w q g vk kv.1) (hv : ∀ w q g, VRep w q g vv kv.2) : RD c o s (.tup [vk, vv]) := fun g a w hs => by
  obtain ⟨hxe, hNb, hm, hmm⟩ := mit_eval hs hx
  refine ⟨.tuple #[kv.1, kv.2], .tup _ [kv.1, kv.2] rfl fun j u y hu hy => by
    match j, hu, hy with
    | 0, hu, hy => simp at hu hy; subst hu hy; exact hk _ _ _
    | 1, hu, hy => simp at hu hy; subst hu hy; exact hv _ _ _
    | n + 2, hu, hy => simp at hu, fun w' hb => ?_⟩
  have hrun := run_entryM (P := c.P) w' (g r).1 (g rm).1 j l seen kv ((hb.block _ (Array.getElem?_eq_some_iff.1 hm).1).trans hm) ((hb.block _ (Array.getElem?_eq_some_iff.1 hmm).1).trans hmm) hj
  simp only [execOp, ho, hxe, Sem.run_bind, hrun, Result.andThen_ok]
  rfl
end
section
variable {c : Cx} {s : S} {o : Oper} {Q : Exit → S → Prop}
theorem rd_nextEndM {x : Operand} {r rm N : Nat} {l : List (Value × Value)} {seen : List Nat} (ho : o.op = .next x false) (hx : s.ev x = some (.mit r rm N l seen)) (hall : ∀ j, j < l.length → j ∈ seen) : RD c o s (.tup [.b false]) := fun g a w hs => by
  obtain ⟨hxe, hNb, hm, hmm⟩ := mit_eval hs hx
  refine ⟨.tuple #[.bool false], .tup _ [.bool false] rfl fun j u y hu hy => by
    match j, hu, hy with
    | 0, hu, hy => simp at hu hy; subst hu hy; exact .d _ _ (.p _)
    | n + 1, hu, hy => simp at hu, fun w' hb => ?_⟩
  rcases run_nextM (P := c.P) w' o.type (g r).1 (g rm).1 l seen ((hb.block _ (Array.getElem?_eq_some_iff.1 hm).1).trans hm) ((hb.block _ (Array.getElem?_eq_some_iff.1 hmm).1).trans hmm) with ⟨_, hrun⟩ | ⟨j, kv, w1, h2, h3, _⟩
  · simp only [execOp, ho, hxe, Sem.run_bind, hrun, Result.andThen_ok]
    rfl
  exact absurd (hall j (List.getElem?_eq_some_iff.1 h2).1) h3
theorem AL.nextN {ops : Array Oper} {rest : List Oper} {t r rm N : Nat} {l : List (Value × Value)} {seen : List Nat} (hg : o.guard = none) (ho : o.op = .next (.tmp t) false) (hx : fnd s.T t = some (.mit r rm N l seen)) (hN : N = c.w0.heap.size) (hH : s.H.all (fun x => !V.itsL x.2.cells) = true) (hK : V.itsL s.K = false)
    (hT : s.T.all (fun x => match x.2 with | .mit k _ _ _ _ => decide (k ≠ r) || decide (x.1 = t) | _ => true) = true) (hd : dok s o = true) (hne : ¬ ∀ j, j < l.length → j ∈ seen)
    (h1 : ∀ (j : Nat) (kv : Value × Value), l[j]? = some kv → j ∉ seen → AL c ops rest Q (S.put ⟨s.n, s.T.map (fun x => (x.1, upMI r (seen ++ [j]) x.2)), s.H, s.K⟩ o.dst (.tup [.b true, .junk, .junk]))) : AL c ops (o :: rest) Q s :=
  AL.nextM hg ho hx hN hH hK hT hd (fun h => absurd h hne) h1
theorem itsL_flat {α : Type} (f : α → List V) (hf : ∀ x, V.itsL (f x) = false) : ∀ l : List α, V.itsL (l.flatMap f) = false
  | [] => rfl
  | x :: l => by
    rw [List.flatMap_cons, V.itsL_false]
    intro v hv
    rcases List.mem_append.1 hv with h | h
    · exact V.itsL_false.1 (hf x) v h
    exact V.itsL_false.1 (itsL_flat f hf l) v h
theorem itsL_arV2 (l : List Ar) : V.itsL (l.flatMap arV2) = false := itsL_flat _ (fun _ => rfl) l
theorem itsL_stV2 (l : List St) : V.itsL (l.flatMap stV2) = false := itsL_flat _ (fun _ => rfl) l
theorem mpsL_arV2 (l : List Ar) : V.mpsL (l.flatMap arV2) = false := mpsL_flat _ (fun _ => rfl) l
theorem mpsL_stV2 (l : List St) : V.mpsL (l.flatMap stV2) = false := mpsL_flat _ (fun x => by simp [stV2, stD, V.mpsL, V.mps, D.mps, mpsR_ars]) l
end
section
variable (r : Nat) (seen : List Nat)
theorem upMI_tup2 (x y : D) : upMI r seen (.tup [.d x, .d y]) = .tup [.d x, .d y] := rfl
theorem upMI_d (x : D) : upMI r seen (.d x) = .d x := rfl
theorem upMI_ref (a b : Nat) : upMI r seen (.ref a b) = .ref a b := rfl
theorem upMI_own (a b n : Nat) (z : Bool) : upMI r seen (.own a b n z) = .own a b n z := rfl
theorem upMI_mp (a N : Nat) (l : List (Value × Value)) : upMI r seen (.mp a N l) = .mp a N l := rfl
theorem upMI_junk : upMI r seen .junk = .junk := rfl
theorem upMI_mit (rm N : Nat) (l : List (Value × Value)) (s : List Nat) : upMI r seen (.mit r rm N l s) = .mit r rm N l seen := by simp [upMI]
end
section
variable {K β : Type} [DecidableEq K]
def kfind : List (K × β) → K → Nat → Option (Nat × β)
  | [], _, _ => none
  | (k, v) :: l, a, i => if a = k then some (i, v) else kfind l a (i + 1)
theorem kfind_shift (a : K) : ∀ (l : List (K × β)) (i : Nat), kfind l a i = (kfind l a 0).map fun x => (x.1 + i, x.2)
  | [], i => rfl
  | (k, v) :: l, i => by
    simp only [kfind]
    split
    · simp
    rw [kfind_shift a l (i + 1), kfind_shift a l (0 + 1)]
    cases kfind l a 0 <;> simp <;> omega
theorem kfind_some {a : K} : ∀ {l : List (K × β)} {i : Nat} {v : β}, kfind l a 0 = some (i, v) → l[i]? = some (a, v)
  | [], i, v, h => by simp [kfind] at h
  | (k, u) :: l, i, v, h => by
    simp only [kfind] at h
    split at h
    · rename_i e
      simp only [Option.some.injEq, Prod.mk.injEq] at h
      obtain ⟨rfl, rfl⟩ := h
      simp [e]
    rw [kfind_shift] at h
    cases h2 : kfind l a 0 with
    | none => rw [h2] at h; cases h
    | some x =>
      rw [h2] at h
      simp only [Option.map_some, Option.some.injEq, Prod.mk.injEq] at h
      obtain ⟨rfl, rfl⟩ := h
      have := kfind_some (l := l) (i := x.1) (v := x.2) h2
      simpa using this
theorem kfind_none {a : K} : ∀ {l : List (K × β)}, kfind l a 0 = none ↔ ∀ x ∈ l, x.1 ≠ a
  | [] => by simp [kfind]
  | (k, u) :: l => by
    have ih := kfind_none (a := a) (l := l)
    simp only [kfind]
    split
    · rename_i e; simp [e]
    rename_i e
    rw [kfind_shift, Option.map_eq_none_iff, ih]
    simp [Ne.symm e]
theorem kfind_zip {γ : Type} (a : K) : ∀ (l : List (K × β)) (ys : List γ) (i : Nat), l.length = ys.length → kfind ((l.map (·.1)).zip ys) a i = (kfind l a 0).bind fun x => (ys[x.1]?).map fun y => (x.1 + i, y)
  | [], ys, i, h => by cases ys <;> simp_all [kfind]
  | (k, u) :: l, [], i, h => by simp at h
  | (k, u) :: l, y :: ys, i, h => by
    simp only [List.map_cons, List.zip_cons_cons, kfind]
    split
    · simp
    rw [kfind_zip a l ys (i + 1) (by simpa using h), kfind_shift a l (0 + 1)]
    cases kfind l a 0 with
    | none => rfl
    | some x => simp; rw [show x.1 + (i + 1) = x.1 + 1 + i by omega]
end
/-- As KeyOk, for a map's values of any kind. -/
structure KeyG {K : Type} [DecidableEq K] (P : Program) (k : TypeId) (enc : K → Value) : Prop where
  check : ∀ (b : Bool) (a : K) (w : World), (Instr.checkKey b 10000 k (enc a)).run P w = .ok () w
  find : ∀ (l : List (K × Value)) (a : K) (w : World), (Instr.findKey k (enc a) (ments (l.map fun x => (enc x.1, x.2))).toList).run P w = .ok (kfind l a 0) w
  same : ∀ a, Instr.sameBits 10000 (enc a) (enc a) = true
abbrev vI (a : Int) : Value := .int .i64 a
/-- A map of maps, as values. -/
abbrev mmr {K : Type} (enc : K → Value) (L : List (K × List (Int × Int))) : List (Value × List (Value × Value)) := L.map fun x => (enc x.1, mrows vI x.2)
abbrev outR (l : List (Value × List (Value × Value))) (bs : List Nat) : List (Value × Value) := (l.map (·.1)).zip (bs.map fun k => .map (some k))
theorem outR_mm {K : Type} (enc : K → Value) (bs : List Nat) : ∀ (L : List (K × List (Int × Int))), outR (mmr enc L) bs = ((L.map (·.1)).zip (bs.map fun k => Value.map (some k))).map fun x => (enc x.1, x.2) := by
  induction bs with
  | nil => intro L; simp [outR]
  | cons b bs ih =>
    intro L
    cases L with
    | nil => rfl
    | cons x L => simpa [outR] using ih L
theorem outR_len {l : List (Value × List (Value × Value))} {bs : List Nat} (h : l.length = bs.length) : (outR l bs).length = l.length := by simp [outR, h]
theorem outR_app {l : List (Value × List (Value × Value))} {bs : List Nat} (h : l.length = bs.length) (x : Value × List (Value × Value)) (b : Nat) : outR (l ++ [x]) (bs ++ [b]) = outR l bs ++ [(x.1, .map (some b))] := by
  unfold outR
  rw [List.map_append, List.map_append, List.zip_append (by simp [h])]
  rfl
/-- The map of maps r now holds L'; of other maps nothing is said. -/
def upMM (r N : Nat) (L' : List (Value × List (Value × Value))) : V → V
  | .mm k _ l => if k = r ∧ l.2.2 = none then .mm k N (L', L'.length, none) else .junk
  | v => if v.mps then .junk else v
section
variable {c : Cx} {s : S} {o : Oper} {g : Nat → Nat × Nat} {a : Act} {w : World} {Q : Exit → S → Prop}
theorem Sim.upMM (hs : Sim c g s a w) {r N b k0 k1 : Nat} {es es' : Array MapEntry} {L' : List (Value × List (Value × Value))} (hb : w.heap[b]? = some (.map es k0)) (hN : c.w0.heap.size ≤ b)
    (hrep : ∀ q, VRep { w with heap := w.heap.setIfInBounds b (.map es' k1) } q g (.mm r N (L', L'.length, none)) (.map (some (g r).1)))
    (hH : ∀ k row, fnd s.H k = some row → V.mpsL row.cells = false) (hK : V.mpsL s.K = false) :
    Sim c g ⟨s.n, s.T.map (fun x => (x.1, upMM r N L' x.2)), s.H, s.K⟩ a { w with heap := w.heap.setIfInBounds b (.map es' k1) } := by
  have hlt : b < w.heap.size := (Array.getElem?_eq_some_iff.1 hb).1
  obtain ⟨w', hw'⟩ : ∃ w', w' = { w with heap := w.heap.setIfInBounds b (.map es' k1) } := ⟨_, rfl⟩
  have hsz : w'.heap.size = w.heap.size := by rw [hw']; simp
  have hoth : ∀ k, k ≠ b → w'.heap[k]? = w.heap[k]? := fun k hne => by rw [hw']; simp [Array.getElem?_setIfInBounds_ne (Ne.symm hne)]
  have hc : ∀ (k o : Nat) (u : Value), w.cell? ⟨k, o, none⟩ = some u → w'.cell? ⟨k, o, none⟩ = some u := by
    intro k o u h
    by_cases e : k = b
    · subst e
      simp [World.cell?, hb] at h
    exact (World.cell?_of_block (w := w) (a := ⟨k, o, none⟩) (hoth k e)).trans h
  have hm : ∀ {v x}, v.mps = false → VRep w (qt c s.H g) g v x → VRep w' (qt c s.H g) g v x := fun hv h => h.nomap zT13 hc hv
  rw [← hw'] at hrep ⊢
  refine ⟨hs.size, hs.defers, ?_, hs.nul, ?_, ?_, hs.inj, hs.base, hs.low, ?_⟩
  · intro i v hv
    simp only at hv
    rw [fnd_map] at hv
    cases hu : fnd s.T i with
    | none => rw [hu] at hv; cases hv
    | some u =>
      rw [hu] at hv
      simp only [Option.map_some, Option.some.injEq] at hv
      obtain ⟨x, h1, h2⟩ := hs.tmp i u hu
      refine ⟨x, h1, ?_⟩
      subst hv
      have hgen : ∀ u : V, VRep w (qt c s.H g) g u x → VRep w' (qt c s.H g) g (if u.mps then .junk else u) x := by
        intro u h2
        split
        · exact .junk _
        rename_i hne; exact hm (by simpa using hne) h2
      cases u with
      | mm k N0 l0 =>
        simp only [Go.Proofs.YthiknkcigcglkaaDoor.upMM]
        split
        · rename_i e
          obtain ⟨rfl, e⟩ := e
          cases h2 with
          | mm _ _ _ bs _ _ _ _ _ _ =>
            rw [e]
            exact hrep _
        exact .junk _
      | d _ => exact hgen _ h2
      | ad _ => exact hgen _ h2
      | ref _ _ => exact hgen _ h2
      | own _ _ _ _ => exact hgen _ h2
      | que _ _ _ _ => exact hgen _ h2
      | agg _ => exact hgen _ h2
      | tup _ => exact hgen _ h2
      | fn _ _ => exact hgen _ h2
      | mp _ _ _ => exact hgen _ h2
      | mq _ _ _ => exact hgen _ h2
      | ifc _ _ => exact hgen _ h2
      | mp2 _ _ _ _ _ _ => exact hgen _ h2
      | it _ _ _ _ => exact hgen _ h2
      | mit _ _ _ _ _ => exact hgen _ h2
      | blk _ _ _ => exact hgen _ h2
      | junk => exact .junk _
  · intro k row hk hn
    obtain ⟨arr, h1, h2, h3⟩ := hs.obj k row hk hn
    refine ⟨arr, (hoth _ fun e => ?_).trans h1, h2, fun j v hv => ?_⟩
    · rw [e, hb] at h1; cases h1
    obtain ⟨x, h4, h5⟩ := h3 j v hv
    exact ⟨x, h4, hm (V.mpsL_false.1 (hH k row hk) v (List.mem_of_getElem? hv)) h5⟩
  · intro j v x h1 h2
    exact hm (V.mpsL_false.1 hK v (List.mem_of_getElem? h1)) (hs.keep j v x h1 h2)
  refine hs.below.trans ⟨by rw [hw'], by rw [hw'], by rw [hw'], by omega, fun k hk => hoth k ?_⟩
  omega
theorem sm_makeMM (r : Nat) {t : TypeId} (ho : o.op = .makeMap t none) (hr : s.clean r = true) (hd : dok s o = true) : StepM c o s (fun s' => s' = s.put o.dst (.mm r c.w0.heap.size ([], 0, none))) := by
  intro g a w hs K Q hK
  have hb : Below w.heap.size w (w.alloc (.map #[] 0)) := (Below.refl _ _).alloc (Nat.le_refl _) _
  have h1 := (hs.move hb).regauge hr (w.heap.size, 0)
  unfold Oper.wp
  have hexec : (execOp a.eval o).run c.P w = .ok (.value (.map (some w.heap.size))) (w.alloc (.map #[] 0)) := by
    simp [execOp, ho, Instr.makeMap]
  rw [hexec]
  refine hK _ _ _ _ rfl (h1.put o.dst (dok_spec hd) ?_) hb
  have := VRep.mm (w := w.alloc (.map #[] 0)) (q := qt c s.H (fun k => if k = r then (w.heap.size, 0) else g k)) (g := fun k => if k = r then (w.heap.size, 0) else g k) r c.w0.heap.size ([], 0, none) [] (by simp; exact hs.below.size) ⟨rfl, Nat.le_refl _⟩ zT14 zT14 (by simp only [if_true]; exact heap_alloc_new w _) zT14
  simpa [mmAt] using this
theorem mm_open {r N : Nat} {x : Operand} {l : List (Value × List (Value × Value))} {m : Nat} {y : Option Nat} (hs : Sim c g s a w) (hx : s.ev x = some (.mm r N (l, m, y))) : ∃ bs : List Nat, a.eval x = .map (some (mmAt (g r).1 bs y)) ∧ N ≤ (g r).1 ∧ l.length = bs.length ∧ m ≤ l.length ∧ (∀ k ∈ bs, N ≤ k ∧ k ≠ (g r).1) ∧ bs.Nodup ∧
    w.heap[(g r).1]? = some (.map (ments ((outR l bs).take m)) m) ∧ ∀ (j : Nat) (x : Value × List (Value × Value)) (k : Nat), l[j]? = some x → bs[j]? = some k → w.heap[k]? = some (.map (ments x.2) x.2.length) := by
  have h := hs.ev hx
  generalize a.eval x = u at h
  cases h with
  | mm _ _ _ bs h1 h2 h3 h4 h5 h6 => exact ⟨bs, rfl, h1, h2.1, h2.2, h3, h4, h5, h6⟩
/-- A new inner map, not yet entered. -/
theorem sm_makeMM2 (d1 r N : Nat) (kv : Value) {t : TypeId} {l : List (Value × List (Value × Value))} (ho : o.op = .makeMap t none) (h1 : fnd s.T d1 = some (.mm r N (l, l.length, none))) (hN : N = c.w0.heap.size) (hd : dok s o = true) : StepM c o s (fun s' => s' = s.put o.dst (.mm r N (l ++ [(kv, [])], l.length, some l.length))) := by
  subst hN
  intro g a w hs K Q hK
  have hb : Below w.heap.size w (w.alloc (.map #[] 0)) := (Below.refl _ _).alloc (Nat.le_refl _) _
  obtain ⟨bs, _, h2, h3, _, h4, h5, h6, h7⟩ := mm_open (x := .tmp d1) hs h1
  have hsim := hs.move hb
  have hlb : ∀ k ∈ bs, k < w.heap.size := fun k hk => by
    obtain ⟨j, hj⟩ := List.getElem?_of_mem hk
    have hjl : j < l.length := by rw [h3]; exact (List.getElem?_eq_some_iff.1 hj).1
    exact (Array.getElem?_eq_some_iff.1 (h7 j _ k (List.getElem?_eq_getElem hjl) hj)).1
  have hrl : (g r).1 < w.heap.size := (Array.getElem?_eq_some_iff.1 h6).1
  unfold Oper.wp
  have hexec : (execOp a.eval o).run c.P w = .ok (.value (.map (some w.heap.size))) (w.alloc (.map #[] 0)) := by
    simp [execOp, ho, Instr.makeMap]
  rw [hexec]
  refine hK g _ _ _ rfl (hsim.put o.dst (dok_spec hd) ?_) hb
  have hold : ∀ k, k < w.heap.size → (w.alloc (.map #[] 0)).heap[k]? = w.heap[k]? := fun k hk => hb.block k hk
  have := VRep.mm (w := w.alloc (.map #[] 0)) (q := qt c s.H g) (g := g) r c.w0.heap.size (l ++ [(kv, [])], l.length, some l.length) (bs ++ [w.heap.size]) h2 ⟨by simp [h3], by simp⟩ (fun k hk => by
    rcases List.mem_append.1 hk with hk | hk
    · exact h4 k hk
    · rw [List.mem_singleton] at hk
      subst hk
      exact ⟨hs.below.size, by omega⟩) (by
    rw [List.nodup_append]
    refine ⟨h5, by simp, fun x hx y hy => ?_⟩
    rw [List.mem_singleton] at hy
    subst hy
    have := hlb x hx
    omega) (by
    rw [hold _ hrl, h6]
    congr 3
    show (outR l bs).take l.length = (outR (l ++ [(kv, [])]) (bs ++ [w.heap.size])).take l.length
    rw [outR_app h3, List.take_append_of_le_length (by rw [outR_len h3]; exact Nat.le_refl _)]) (fun j x k hj hk => by
    simp only at hj
    by_cases hjl : j < l.length
    · rw [List.getElem?_append_left hjl] at hj
      rw [List.getElem?_append_left zT13] at hk
      rw [hold _ (hlb k (List.mem_of_getElem? hk))]
      exact h7 j x k hj hk
    rw [List.getElem?_append_right zT13] at hj hk
    cases hz : j - l.length with
    | succ n => rw [hz] at hj; simp at hj
    | zero =>
      rw [hz] at hj
      rw [← h3, hz] at hk
      simp at hj hk
      subst hj hk
      exact heap_alloc_new w _)
  have e : mmAt (g r).1 (bs ++ [w.heap.size]) (some l.length) = w.heap.size := by
    simp [mmAt, h3]
  rw [← e]
  exact this
variable {K : Type} [DecidableEq K] {enc : K → Value}
theorem run_lookupMM {P : Program} {t k e : TypeId} {bt b : Nat} {L : List (K × List (Int × Int))} {bs : List Nat} {key : K} {w : World} (hk : KeyG P k enc) (hu : P.underlying t = some (.map k e)) (hi : Inf P e 1 bt (.map none)) (hl : L.length = bs.length) (hb : w.heap[b]? = some (.map (ments (outR (mmr enc L) bs)) L.length)) :
    (Instr.lookup t (.map (some b)) (enc key) false).run P w = .ok (match kfind L key 0 with | none => .map none | some x => .map (bs[x.1]?)) w := by
  rw [outR_mm] at hb
  have hz := kfind_zip key L (bs.map fun k => Value.map (some k)) 0 (by simpa using hl)
  simp only [Instr.lookup, Sem.run_bind, run_underlying hu, Result.andThen_ok, run_getMap hb, Sem.run_pure, hk.check, hk.find, hz]
  cases h : kfind L key 0 with
  | none => simp [run_zeroValue hi]
  | some x =>
    have h1 := (List.getElem?_eq_some_iff.1 (kfind_some (v := x.2) (i := x.1) h)).1
    have h2 : x.1 < bs.length := by omega
    simp [List.getElem?_eq_getElem h2]
theorem rd_lookupMM_miss {t k e : TypeId} {bt : Nat} {x y : Operand} {r N : Nat} {L : List (K × List (Int × Int))} {key : K} (hk : KeyG c.P k enc) (hu : c.P.underlying t = some (.map k e)) (hi : Inf c.P e 1 bt (.map none)) (ho : o.op = .lookup t x y false) (hx : s.ev x = some (.mm r N (mmr enc L, (mmr enc L).length, none))) (hy : ∀ g a w, Sim c g s a w → a.eval y = enc key) (hv : kfind L key 0 = none) : RD c o s (.d (.p (.map none))) := fun g a w hs => by
  obtain ⟨bs, h1, h2, h3, _, h4, h5, h6, h7⟩ := mm_open hs hx
  rw [List.take_of_length_le (by rw [outR_len h3]; exact Nat.le_refl _), List.length_map] at h6
  refine ⟨_, .d _ _ (.p _), fun w' hb => ?_⟩
  have hrun := run_lookupMM (key := key) hk hu hi (by simpa using h3) ((hb.block _ (Array.getElem?_eq_some_iff.1 h6).1).trans h6)
  rw [hv] at hrun
  simp only [execOp, ho, h1, mmAt, hy g a w hs, Sem.run_bind, hrun, Result.andThen_ok]
  rfl
theorem rd_lookupMM_hit {t k e : TypeId} {bt : Nat} {x y : Operand} {r N j : Nat} {L : List (K × List (Int × Int))} {key : K} {lj : List (Int × Int)} (hk : KeyG c.P k enc) (hu : c.P.underlying t = some (.map k e)) (hi : Inf c.P e 1 bt (.map none)) (ho : o.op = .lookup t x y false) (hx : s.ev x = some (.mm r N (mmr enc L, (mmr enc L).length, none))) (hy : ∀ g a w, Sim c g s a w → a.eval y = enc key) (hv : kfind L key 0 = some (j, lj)) : RD c o s (.mm r N (mmr enc L, (mmr enc L).length, some j)) := fun g a w hs => by
  obtain ⟨bs, h1, h2, h3, h3', h4, h5, h6, h7⟩ := mm_open hs hx
  have h0 := VRep.mm (w := w) (q := qt c s.H g) (g := g) r N (mmr enc L, (mmr enc L).length, some j) bs h2 ⟨h3, h3'⟩ h4 h5 h6 h7
  rw [List.take_of_length_le (by rw [outR_len h3]; exact Nat.le_refl _), List.length_map] at h6
  have hjl : j < bs.length := by
    have := (List.getElem?_eq_some_iff.1 (kfind_some hv)).1
    rw [List.length_map] at h3
    omega
  refine ⟨_, h0, fun w' hb => ?_⟩
  have hrun := run_lookupMM (key := key) hk hu hi (by simpa using h3) ((hb.block _ (Array.getElem?_eq_some_iff.1 h6).1).trans h6)
  rw [hv] at hrun
  simp only [execOp, ho, h1, mmAt, hy g a w hs, Sem.run_bind, hrun, Result.andThen_ok, List.getElem?_eq_getElem hjl, List.getD_eq_getElem?_getD, Option.getD_some]
  rfl
/-- The same, of a map of maps that is plain data. -/
theorem rd_lookupMMD {t k e : TypeId} {bt : Nat} {x y : Operand} {j : Nat} {L : List (K × List (Int × Int))} {key : K} {lj : List (Int × Int)} (hk : KeyG c.P k enc) (hu : c.P.underlying t = some (.map k e)) (hi : Inf c.P e 1 bt (.map none)) (ho : o.op = .lookup t x y false) (hx : s.ev x = some (.d (.mm (mmr enc L)))) (hy : ∀ g a w, Sim c g s a w → a.eval y = enc key) (hv : kfind L key 0 = some (j, lj)) : RD c o s (.d (.mp (mrows vI lj))) := fun g a w hs => by
  obtain ⟨b, bs, h1, h2, h3, h4, h5, h6⟩ : ∃ b bs, a.eval x = .map (some b) ∧ (mmr enc L).length = bs.length ∧ (qt c s.H g b ∧ b < w.heap.size) ∧ (∀ k ∈ bs, qt c s.H g k ∧ k < w.heap.size) ∧ w.heap[b]? = some (.map (ments (outR (mmr enc L) bs)) (mmr enc L).length) ∧ ∀ (j : Nat) (x : Value × List (Value × Value)) (k : Nat), (mmr enc L)[j]? = some x → bs[j]? = some k → w.heap[k]? = some (.map (ments x.2) x.2.length) := by
    have h := hs.ev hx
    generalize a.eval x = u at h
    cases h with
    | d _ _ h =>
      cases h with
      | mm _ b bs hq hl hqs hm hi => exact ⟨b, bs, rfl, hl, hq, hqs, hm, hi⟩
  rw [List.length_map] at h5
  have hget := kfind_some hv
  have hjl : j < bs.length := by
    have := (List.getElem?_eq_some_iff.1 hget).1
    rw [List.length_map] at h2
    omega
  have hbj := List.getElem?_eq_getElem hjl
  refine ⟨.map (some bs[j]), .d _ _ (.mp _ _ (h4 _ (List.getElem_mem hjl)) (h6 j (enc key, mrows vI lj) _ (by rw [List.getElem?_map, hget]; rfl) hbj)), fun w' hb => ?_⟩
  have hrun := run_lookupMM (key := key) hk hu hi (by simpa using h2) ((hb.block _ h3.2).trans h5)
  rw [hv] at hrun
  simp only [execOp, ho, h1, hy g a w hs, Sem.run_bind, hrun, Result.andThen_ok, hbj]
  rfl
/-- What an inner map holds. -/
theorem rd_lookupMI {t k e : TypeId} {kd : IntKind} {bt : Nat} {x y : Operand} {r N m j : Nat} {l : List (Value × List (Value × Value))} {kv : Value} {lj : List (Int × Int)} {key : Int} (hk : c.P.underlying k = some (.int kd)) (hu : c.P.underlying t = some (.map k e)) (hi : Inf c.P e 1 bt (.int .i64 0)) (ho : o.op = .lookup t x y true) (hx : s.ev x = some (.mm r N (l, m, some j))) (hj : l[j]? = some (kv, mrows vI lj)) (hy : s.ev y = some (.i key)) : RD c o s (.tup [.i ((mget lj key).getD 0), .b (mget lj key).isSome]) := fun g a w hs => by
  obtain ⟨bs, h1, h2, h3, h3', h4, h5, h6, h7⟩ := mm_open hs hx
  have hjl : j < bs.length := by rw [← h3]; exact (List.getElem?_eq_some_iff.1 hj).1
  have hm := h7 j _ _ hj (List.getElem?_eq_getElem hjl)
  have hye := VRep.p_eq (hs.ev hy)
  refine ⟨.tuple #[.int .i64 ((mget lj key).getD 0), .bool (mget lj key).isSome], ?_, fun w' hb => ?_⟩
  · refine .tup _ [.int .i64 ((mget lj key).getD 0), .bool (mget lj key).isSome] rfl fun j u z hu hz => ?_
    match j, hu, hz with
    | 0, hu, hz => simp at hu hz; subst hu hz; exact .d _ _ (.p _)
    | 1, hu, hz => simp at hu hz; subst hu hz; exact .d _ _ (.p _)
    | n + 2, hu, hz => simp at hu
  have hrun := run_lookup (ok := true) (key := key) (KeyOk.int hk) hu hi ((hb.block _ (Array.getElem?_eq_some_iff.1 hm).1).trans hm)
  have he : mmAt (g r).1 bs (some j) = bs[j] := by simp [mmAt, List.getElem?_eq_getElem hjl]
  simp only [execOp, ho, h1, he, hye, Sem.run_bind, hrun, Result.andThen_ok]
  rfl
theorem rd_lookupMI_hit {t k e : TypeId} {kd : IntKind} {bt : Nat} {x y : Operand} {r N m j : Nat} {l : List (Value × List (Value × Value))} {kv : Value} {lj : List (Int × Int)} {key v : Int} (hk : c.P.underlying k = some (.int kd)) (hu : c.P.underlying t = some (.map k e)) (hi : Inf c.P e 1 bt (.int .i64 0)) (ho : o.op = .lookup t x y true) (hx : s.ev x = some (.mm r N (l, m, some j))) (hj : l[j]? = some (kv, mrows vI lj)) (hy : s.ev y = some (.i key)) (hv : mget lj key = some v) : RD c o s (.tup [.i v, .b true]) := by
  have h := rd_lookupMI hk hu hi ho hx hj hy
  rw [hv] at h
  exact h
theorem rd_lookupMI_miss {t k e : TypeId} {kd : IntKind} {bt : Nat} {x y : Operand} {r N m j : Nat} {l : List (Value × List (Value × Value))} {kv : Value} {lj : List (Int × Int)} {key : Int} (hk : c.P.underlying k = some (.int kd)) (hu : c.P.underlying t = some (.map k e)) (hi : Inf c.P e 1 bt (.int .i64 0)) (ho : o.op = .lookup t x y true) (hx : s.ev x = some (.mm r N (l, m, some j))) (hj : l[j]? = some (kv, mrows vI lj)) (hy : s.ev y = some (.i key)) (hv : mget lj key = none) : RD c o s (.tup [.i 0, .b false]) := by
  have h := rd_lookupMI hk hu hi ho hx hj hy
  rw [hv] at h
  exact h
theorem run_eql_map0 {P : Program} {t k e : TypeId} (w : World) (p : Option Nat) (h : P.underlying t = some (.map k e)) : (binOp .eql t (.map p) (.map none)).run P w = .ok (.bool p.isNone) w := by
  have h2 : ∀ n : Nat, (Op.equalIn (n + 1) t (.map p) (.map none)).run P w = .ok p.isNone w := fun n => by
    cases p <;> simp [Op.equalIn, run_underlying h]
  have h3 : (Op.equal t (.map p) (.map none)).run P w = .ok p.isNone w := h2 9999
  simp only [binOp, Sem.run_bind, h3, Result.andThen_ok]
  rfl
/-- An inner map is held against nil. -/
theorem rp_eqmS {t t' k e : TypeId} {x y : Operand} {r N m j : Nat} {l : List (Value × List (Value × Value))} (hu : c.P.underlying t = some (.map k e)) (ho : o.op = .binOp .eql t x y t') (hx : s.ev x = some (.mm r N (l, m, some j))) (hy : s.ev y = some (.d (.p (.map none)))) : RP c o s (.b false) := fun g a w hs => by
  obtain ⟨bs, h1, _⟩ := mm_open hs hx
  refine ⟨.bool false, .d _ _ (.p _), fun w' => ?_⟩
  have h := run_eql_map0 w' (some (mmAt (g r).1 bs (some j))) hu
  simp [execOp, ho, h1, VRep.p_eq (hs.ev hy), eqGuard, h]
theorem rp_eqmN {t t' k e : TypeId} {x y : Operand} (hu : c.P.underlying t = some (.map k e)) (ho : o.op = .binOp .eql t x y t') (hx : s.ev x = some (.d (.p (.map none)))) (hy : s.ev y = some (.d (.p (.map none)))) : RP c o s (.b true) := fun g a w hs => by
  refine ⟨.bool true, .d _ _ (.p _), fun w' => ?_⟩
  have h := run_eql_map0 w' none hu
  simp [execOp, ho, VRep.p_eq (hs.ev hx), VRep.p_eq (hs.ev hy), eqGuard, h]
theorem rows_hH {s : S} (hH : s.H.all (fun x => !V.mpsL x.2.cells) = true) : ∀ k row, fnd s.H k = some row → V.mpsL row.cells = false := fun k row hk => by
  have := List.all_eq_true.1 hH _ (fnd_mem hk)
  simpa using this
/-- The new inner map is entered. -/
theorem st_mapUpdateMM {t k e : TypeId} {x y z : Operand} {r N : Nat} {L : List (K × List (Int × Int))} {key : K} (hk : KeyG c.P k enc) (hu : c.P.underlying t = some (.map k e)) (ho : o.op = .mapUpdate t x y z) (hd : o.dst = none) (hx : s.ev x = some (.mm r N (mmr enc L, (mmr enc L).length, none))) (hy : ∀ g a w, Sim c g s a w → a.eval y = enc key) (hz : s.ev z = some (.mm r N (mmr enc L ++ [(enc key, [])], (mmr enc L).length, some (mmr enc L).length))) (hv : kfind L key 0 = none)
    (hN : N = c.w0.heap.size) (hH : s.H.all (fun x => !V.mpsL x.2.cells) = true) (hK : V.mpsL s.K = false) : Step c o s (fun s' => s' = ⟨s.n, s.T.map (fun x => (x.1, upMM r N (mmr enc (L ++ [(key, [])])) x.2)), s.H, s.K⟩) := by
  subst hN
  intro g a w hs K' Q hK'
  obtain ⟨bx, hxe, _⟩ := mm_open hs hx
  obtain ⟨bs, h1, h2, h3, _, h4, h5, h6, h7⟩ := mm_open hs hz
  obtain ⟨bs, nb, rfl⟩ : ∃ bs' nb, bs = bs' ++ [nb] := by
    have hne : bs ≠ [] := by rintro rfl; simp at h3
    exact ⟨bs.dropLast, bs.getLast hne, (List.dropLast_concat_getLast hne).symm⟩
  have hl : (mmr enc L).length = bs.length := by simpa using h3
  have hl' : L.length = bs.length := by simpa using hl
  have hnb : mmAt (g r).1 (bs ++ [nb]) (some (mmr enc L).length) = nb := by simp [mmAt, hl']
  rw [hnb] at h1
  rw [outR_app hl, List.take_append_of_le_length (by rw [outR_len hl]; exact Nat.le_refl _), List.take_of_length_le (by rw [outR_len hl]; exact Nat.le_refl _)] at h6
  have hlen : (mmr enc L).length = L.length := by simp
  have hrun : (Instr.mapUpdate t (.map (some (g r).1)) (enc key) (.map (some nb))).run c.P w = .ok () { w with heap := w.heap.setIfInBounds (g r).1 (.map (ments (outR (mmr enc (L ++ [(key, [])])) (bs ++ [nb]))) (mmr enc (L ++ [(key, [])])).length) } := by
    have hz := kfind_zip key L (bs.map fun k => Value.map (some k)) 0 (by simpa using hl')
    have h6' := h6
    rw [outR_mm] at h6'
    have e1 : ∀ (es : List (Value × Value)) (n : Nat) (v : Value), n = es.length → (ments es).push { key := enc key, val := v, born := n } = ments (es ++ [(enc key, v)]) := fun es n v hn => by rw [hn]; exact ments_push es _ _
    have e2 : mmr enc (L ++ [(key, [])]) = mmr enc L ++ [(enc key, [])] := by simp [mmr, mrows]
    rw [e2, outR_app hl, outR_mm]
    simp only [Instr.mapUpdate, Sem.run_bind, run_underlying hu, Result.andThen_ok, run_getMap h6', hk.check, hk.find, hz, hv, Option.bind_none, run_setMap _ h6']
    rw [e1 _ _ _ (by simp [hl'])]
    simp
  unfold Oper.wp
  have hexec : (execOp a.eval o).run c.P w = .ok .skip { w with heap := w.heap.setIfInBounds (g r).1 (.map (ments (outR (mmr enc (L ++ [(key, [])])) (bs ++ [nb]))) (mmr enc (L ++ [(key, [])])).length) } := by
    simp only [execOp, ho, hxe, mmAt, hy g a w hs, h1, Sem.run_bind, hrun, Result.andThen_ok]
    rfl
  rw [hexec]
  simp only [Oper.upon, hd, Act.put]
  have hrl : (g r).1 < w.heap.size := (Array.getElem?_eq_some_iff.1 h6).1
  refine hK' g _ a _ rfl (hs.upMM h6 h2 (fun q => ?_) (rows_hH hH) hK)
  have e2 : mmr enc (L ++ [(key, [])]) = mmr enc L ++ [(enc key, [])] := by simp [mmr, mrows]
  have h3' : (mmr enc (L ++ [(key, [])])).length = (bs ++ [nb]).length := by rw [e2]; exact h3
  refine VRep.mm r _ (_, _, none) (bs ++ [nb]) h2 ⟨h3', Nat.le_refl _⟩ h4 h5 ?_ fun j x k hj hk => ?_
  · simp only [Array.getElem?_setIfInBounds_self_of_lt hrl]
    rw [List.take_of_length_le (by rw [outR_len h3']; exact Nat.le_refl _)]
  have hne : k ≠ (g r).1 := (h4 k (List.mem_of_getElem? hk)).2
  simp only [Array.getElem?_setIfInBounds_ne (Ne.symm hne)]
  rw [e2] at hj
  exact h7 j x k hj hk
omit [DecidableEq K] in
/-- An inner map is written to. -/
theorem st_mapUpdateMI {t k e : TypeId} {kd : IntKind} {x y z : Operand} {r N j : Nat} {L : List (K × List (Int × Int))} {kj : K} {lj : List (Int × Int)} {key v : Int} (hk : c.P.underlying k = some (.int kd)) (hu : c.P.underlying t = some (.map k e)) (ho : o.op = .mapUpdate t x y z) (hd : o.dst = none) (hx : s.ev x = some (.mm r N (mmr enc L, (mmr enc L).length, some j))) (hj : L[j]? = some (kj, lj)) (hy : s.ev y = some (.i key)) (hz : s.ev z = some (.i v))
    (hN : N = c.w0.heap.size) (hH : s.H.all (fun x => !V.mpsL x.2.cells) = true) (hK : V.mpsL s.K = false) : Step c o s (fun s' => s' = ⟨s.n, s.T.map (fun x => (x.1, upMM r N (mmr enc (L.set j (kj, mput lj key v))) x.2)), s.H, s.K⟩) := by
  subst hN
  intro g a w hs K' Q hK'
  obtain ⟨bs, h1, h2, h3, _, h4, h5, h6, h7⟩ := mm_open hs hx
  have hjL : j < L.length := (List.getElem?_eq_some_iff.1 hj).1
  have hl' : L.length = bs.length := by simpa using h3
  have hjl : j < bs.length := by omega
  have hbj := List.getElem?_eq_getElem hjl
  have hjm : (mmr enc L)[j]? = some (enc kj, mrows vI lj) := by rw [List.getElem?_map, hj]; rfl
  have hm := h7 j _ _ hjm hbj
  have he : mmAt (g r).1 bs (some j) = bs[j] := by simp [mmAt, List.getElem?_eq_getElem hjl]
  have hko := KeyOk.int (P := c.P) hk
  have hrun : (Instr.mapUpdate t (.map (some bs[j])) (.int .i64 key) (.int .i64 v)).run c.P w = .ok () { w with heap := w.heap.setIfInBounds bs[j] (.map (ments (mrows vI (mput lj key v))) (mrows vI (mput lj key v)).length) } := by
    have hf := fun w => hko.find lj key w
    simp only [Instr.mapUpdate, Sem.run_bind, run_underlying hu, Result.andThen_ok, run_getMap hm, hko.check false key, hf]
    unfold mput
    cases h : mfind lj key 0 with
    | none =>
      simp only [Option.map_none, run_setMap _ hm, ments_push]
      simp [mrows]
    | some p =>
      obtain ⟨i, v0⟩ := p
      have hget : (mrows vI lj)[i]? = some (.int .i64 key, .int .i64 v0) := by simp [mrows, mfind_some h]
      have hk0 : (((ments (mrows vI lj))[i]?).map (·.key)).getD (.int .i64 key) = .int .i64 key := by rw [ments_get, hget]; rfl
      simp only [Option.map_some, hk0, Instr.keyThatStays, hko.same key, if_true, Sem.run_bind, Sem.run_pure, Result.andThen_ok, run_setMap _ hm, ments_modify _ _ _ _ _ _ hget]
      simp [mrows, List.map_set]
  unfold Oper.wp
  have hexec : (execOp a.eval o).run c.P w = .ok .skip { w with heap := w.heap.setIfInBounds bs[j] (.map (ments (mrows vI (mput lj key v))) (mrows vI (mput lj key v)).length) } := by
    simp only [execOp, ho, h1, he, VRep.p_eq (hs.ev hy), VRep.p_eq (hs.ev hz), Sem.run_bind, hrun, Result.andThen_ok]
    rfl
  rw [hexec]
  simp only [Oper.upon, hd, Act.put]
  have hrl : bs[j] < w.heap.size := (Array.getElem?_eq_some_iff.1 hm).1
  have hbN := h4 _ (List.getElem_mem hjl)
  refine hK' g _ a _ rfl (hs.upMM hm hbN.1 (fun q => ?_) (rows_hH hH) hK)
  have e1 : (mmr enc (L.set j (kj, mput lj key v))).map (·.1) = (mmr enc L).map (·.1) := by
    refine List.ext_getElem? fun i => ?_
    simp only [List.getElem?_map, List.getElem?_set]
    by_cases e : j = i
    · subst e
      have : L[j].1 = kj := by
        have := (List.getElem?_eq_some_iff.1 hj).2
        rw [this]
      simp [hjL, this]
    simp [e]
  have e2 : outR (mmr enc (L.set j (kj, mput lj key v))) bs = outR (mmr enc L) bs := by unfold outR; rw [e1]
  have e3 : (mmr enc (L.set j (kj, mput lj key v))).length = (mmr enc L).length := by simp
  refine VRep.mm r _ (_, _, none) bs h2 ⟨by rw [e3]; exact h3, Nat.le_refl _⟩ h4 h5 ?_ fun i x k hi hk => ?_
  · simp only [Array.getElem?_setIfInBounds_ne hbN.2]
    have e4 : (outR (mmr enc (L.set j (kj, mput lj key v))) bs).take (mmr enc (L.set j (kj, mput lj key v))).length = (outR (mmr enc L) bs).take (mmr enc L).length := by rw [e2, e3]
    show w.heap[(g r).1]? = some (.map (ments ((outR (mmr enc (L.set j (kj, mput lj key v))) bs).take (mmr enc (L.set j (kj, mput lj key v))).length)) (mmr enc (L.set j (kj, mput lj key v))).length)
    rw [e4, e3]
    exact h6
  simp only [List.getElem?_map, List.getElem?_set] at hi
  by_cases e : j = i
  · subst e
    rw [hbj] at hk
    simp only [Option.some.injEq] at hk
    subst hk
    simp [hjL] at hi
    subst hi
    simp only [Array.getElem?_setIfInBounds_self_of_lt hrl]
  rw [if_neg e] at hi
  have hne : bs[j] ≠ k := fun e' => by
    subst e'
    obtain ⟨hil, hik⟩ := List.getElem?_eq_some_iff.1 hk
    exact e ((List.getElem_inj h5).1 hik.symm)
  simp only [Array.getElem?_setIfInBounds_ne hne]
  exact h7 i x k (by rw [List.getElem?_map]; exact hi) hk
end
section
variable {c : Cx} {s : S} {o : Oper} {Q : Exit → S → Prop}
/-- A map of maps that is not written to any more. -/
theorem AW.freezeMM {code : Code} (t : Nat) {r N n : Nat} {l : List (Value × List (Value × Value))} (ht : fnd s.T t = some (.mm r N (l, n, none))) (hn : n = l.length) (hN : N = c.w0.heap.size) (h : AW c code Q ⟨s.n, (t, .d (.mm l)) :: s.T, s.H, s.K⟩) : AW c code Q s := by
  subst hN hn
  intro g a w hs
  refine h g a w ⟨hs.size, hs.defers, ?_, hs.nul, hs.obj, hs.keep, hs.inj, hs.base, hs.low, hs.below⟩
  intro i v hv
  simp only [fnd] at hv
  split at hv
  · rename_i e
    simp only [beq_iff_eq] at e
    subst e
    simp only [Option.some.injEq] at hv
    subst hv
    obtain ⟨x, h1, h2⟩ := hs.tmp _ _ ht
    refine ⟨x, h1, ?_⟩
    have hq : ∀ (b : Nat) (es : Array MapEntry) (k : Nat), w.heap[b]? = some (.map es k) → c.w0.heap.size ≤ b → qt c s.H g b ∧ b < w.heap.size := fun b es k hm hb => by
      refine ⟨⟨fun ho => ?_, fun k row hk hn e => ?_⟩, (Array.getElem?_eq_some_iff.1 hm).1⟩
      · have := hs.low _ ho
        omega
      obtain ⟨arr, h3, _⟩ := hs.obj k row hk hn
      rw [e, hm] at h3
      cases h3
    cases h2 with
    | mm _ _ _ bs h3 h4 h5 h6 h7 h8 =>
      have h4' : l.length = bs.length := h4.1
      refine .d _ _ (.mm l _ bs (hq _ _ _ h7 h3) h4.1 (fun k hk => ?_) ?_ h8)
      · obtain ⟨j, hj⟩ := List.getElem?_of_mem hk
        have hjl : j < l.length := by rw [h4']; exact (List.getElem?_eq_some_iff.1 hj).1
        exact hq _ _ _ (h8 j _ k (List.getElem?_eq_getElem hjl) hj) (h5 k hk).1
      have h7' := h7
      simp only at h7'
      rw [List.take_of_length_le (by have := outR_len h4'; unfold outR at this; omega)] at h7'
      exact h7'
  exact hs.tmp i v hv
/-- A range over a map of maps that is plain data: of the inner maps nothing is said. -/
theorem AL.rangeMM (r rm : Nat) {ops : Array Oper} {rest : List Oper} {t k e : TypeId} {x : Operand} {l : List (Value × List (Value × Value))} (hg : o.guard = none) (hu : c.P.underlying t = some (.map k e)) (ho : o.op = .range t x) (hx : s.ev x = some (.d (.mm l))) (hr : s.clean r = true) (hrm : s.clean rm = true) (hne : rm ≠ r) (hd : dok s o = true)
    (h : ∀ l' : List (Value × Value), l'.map (·.1) = l.map (·.1) → AL c ops rest Q (s.put o.dst (.mit r rm c.w0.heap.size l' []))) : AL c ops (o :: rest) Q s := by
  refine AL.step hg ?_
  intro g a w hs K Q' hK
  obtain ⟨b, bs, hxe, hl, hm⟩ : ∃ b bs, a.eval x = .map (some b) ∧ l.length = bs.length ∧ w.heap[b]? = some (.map (ments (outR l bs)) l.length) := by
    have h := hs.ev hx
    generalize a.eval x = u at h
    cases h with
    | d _ _ h2 =>
      cases h2 with
      | mm _ b bs _ h4 _ h5 _ => exact ⟨b, bs, rfl, h4, h5⟩
  have hl' := outR_len hl
  have hmap : (outR l bs).map (·.1) = l.map (·.1) := by
    unfold outR
    rw [List.map_fst_zip]
    simp [hl]
  rw [← hl'] at hm
  generalize outR l bs = l' at hm hmap
  have hb : Below w.heap.size w (w.alloc (.mapIter (some b) l'.length #[] l'.length)) := (Below.refl _ _).alloc (Nat.le_refl _) _
  have h1 := ((hs.move hb).regauge hrm (b, 0)).regauge hr (w.heap.size, 0)
  unfold Oper.wp
  have hexec : (execOp a.eval o).run c.P w = .ok (.value (.pointer (some ⟨w.heap.size, 0, none⟩))) (w.alloc (.mapIter (some b) l'.length #[] l'.length)) := by
    simp only [execOp, ho, hxe, Sem.run_bind, run_range_map w t k e b (ments l') l'.length hu hm, Result.andThen_ok]
    rfl
  rw [hexec]
  refine hK _ _ _ _ (h l' hmap) (h1.put o.dst (dok_spec hd) ?_)
  have := VRep.mit (w := w.alloc (.mapIter (some b) l'.length #[] l'.length)) (q := qt c s.H (fun k => if k = r then (w.heap.size, 0) else if k = rm then (b, 0) else g k)) (g := fun k => if k = r then (w.heap.size, 0) else if k = rm then (b, 0) else g k) r rm c.w0.heap.size l' [] (by simp; exact hs.below.size) (by simp only [if_true, if_neg hne]; exact heap_alloc_new w _) (by simp only [if_true, if_neg hne]; exact (hb.block _ (Array.getElem?_eq_some_iff.1 hm).1).trans hm)
  simpa using this
end
section
variable (r N : Nat) (L : List (Value × List (Value × Value)))
theorem upMM_p (x : Value) : upMM r N L (.d (.p x)) = .d (.p x) := rfl
theorem upMM_ref (a b : Nat) : upMM r N L (.ref a b) = .ref a b := rfl
theorem upMM_own (a b n : Nat) (z : Bool) : upMM r N L (.own a b n z) = .own a b n z := rfl
theorem upMM_junk : upMM r N L .junk = .junk := rfl
theorem upMM_tup2 (x y : Value) : upMM r N L (.tup [.d (.p x), .d (.p y)]) = .tup [.d (.p x), .d (.p y)] := rfl
theorem upMM_agg2 (x y : Value) : upMM r N L (.agg [.d (.p x), .d (.p y)]) = .agg [.d (.p x), .d (.p y)] := rfl
theorem upMM_agg4 (x y z u : Value) : upMM r N L (.agg [.d (.p x), .d (.p y), .d (.p z), .d (.p u)]) = .agg [.d (.p x), .d (.p y), .d (.p z), .d (.p u)] := rfl
theorem upMM_none (N0 n : Nat) (l : List (Value × List (Value × Value))) : upMM r N L (.mm r N0 (l, n, none)) = .mm r N (L, L.length, none) := by simp [upMM]
theorem upMM_some (N0 n j : Nat) (l : List (Value × List (Value × Value))) : upMM r N L (.mm r N0 (l, n, some j)) = .junk := by simp [upMM]
theorem upMM_d {x : D} (h : x.mps = false) : upMM r N L (.d x) = .d x := by simp [upMM, V.mps, h]
end
abbrev RcL := List ((Int × Int) × List (Int × Int))
def rc1 (L : RcL) (k : Int × Int) : RcL := match kfind L k 0 with
  | none => L ++ [(k, [])]
  | some _ => L
def rc2 (L : RcL) (k : Int × Int) (t v : Int) : RcL := match kfind L k 0 with
  | none => L
  | some (j, lj) => match mget lj t with
    | none => L.set j (k, mput lj t v)
    | some w => if v < w then L.set j (k, mput lj t v) else L
/-- One arc of a state that has cost c. -/
def rcA (L : RcL) (c : Int) (a : Ar) : RcL := rc2 (rc1 L (a.i, a.o)) (a.i, a.o) a.t (c + a.w)
def rcS (sts : List St) (L : RcL) (p : Nat × Nat) : RcL := (stA sts p.1).foldl (fun L a => rcA L p.2 a) L
def rcP (sts : List St) (l : List (Nat × Nat)) : RcL := l.foldl (rcS sts) []
theorem kfind_new {L : RcL} {k : Int × Int} (h : kfind L k 0 = none) : kfind (L ++ [(k, [])]) k 0 = some (L.length, []) := by
  have : ∀ (L : RcL) (i : Nat), kfind L k i = none → kfind (L ++ [(k, [])]) k i = some (i + L.length, []) := by
    intro L
    induction L with
    | nil => intro i _; simp [kfind]
    | cons x L ih =>
      intro i h
      obtain ⟨k', v⟩ := x
      rw [List.cons_append]
      simp only [kfind] at h ⊢
      split at h
      · cases h
      rename_i e
      rw [if_neg e, ih (i + 1) h]
      simp; omega
  simpa using this L 0 h
theorem rcA_new {L : RcL} {c : Int} {a : Ar} (h : kfind L (a.i, a.o) 0 = none) : rcA L c a = (L ++ [((a.i, a.o), [])]).set L.length ((a.i, a.o), mput [] a.t (c + a.w)) := by
  have h1 : rc1 L (a.i, a.o) = L ++ [((a.i, a.o), [])] := by unfold rc1; rw [h]
  have h2 := kfind_new h
  unfold rcA
  rw [h1]
  unfold rc2
  rw [h2]
  rfl
theorem rcA_put {L : RcL} {c : Int} {a : Ar} {j : Nat} {lj : List (Int × Int)} (h : kfind L (a.i, a.o) 0 = some (j, lj)) (h2 : mget lj a.t = none ∨ ∃ w, mget lj a.t = some w ∧ c + a.w < w) : rcA L c a = L.set j ((a.i, a.o), mput lj a.t (c + a.w)) := by
  have h1 : rc1 L (a.i, a.o) = L := by unfold rc1; rw [h]
  unfold rcA
  rw [h1]
  unfold rc2
  rw [h]
  rcases h2 with h2 | ⟨w, h2, h3⟩
  · simp only [h2]
  simp only [h2, if_pos h3]
theorem rcA_old {L : RcL} {c w : Int} {a : Ar} {j : Nat} {lj : List (Int × Int)} (h : kfind L (a.i, a.o) 0 = some (j, lj)) (h2 : mget lj a.t = some w) (h3 : ¬ c + a.w < w) : rcA L c a = L := by
  have h1 : rc1 L (a.i, a.o) = L := by unfold rc1; rw [h]
  unfold rcA
  rw [h1]
  unfold rc2
  rw [h]
  simp only [h2, if_neg h3]
def emp (a : Ar) : Bool := decide (a.i = 0 ∧ a.o = 0)
/-- Empty arcs. -/
def eE (sts : List St) (q p w : Nat) : Prop := ∃ a ∈ stA sts q, emp a = true ∧ a.t = (p : Int) ∧ a.w = (w : Int)
def eI (q p d : Nat) : Prop := p = q ∧ d = 0
structure FwOk (sts : List St) (k : Nat) (D : Nat → Nat → Nat) : Prop where
  le : ∀ q p, D q p ≤ big
  diag : ∀ q, D q q = 0
  path : ∀ q p, D q p < big → Pth (eI q) (eE sts) p (D q p)
  edge : ∀ q p w, eE sts q p w → D q p ≤ w
  tri : ∀ j q p, j < k → D q p ≤ D q j + D j p
/-- What each state costs from one, along empty arcs. -/
noncomputable def hop (sts : List St) (q p : Nat) : Nat := dst (eI q) (eE sts) p
theorem eE_lt {sts : List St} {q p w : Nat} (h : eE sts q p w) : q < sts.length := by
  obtain ⟨a, h1, _⟩ := h
  by_cases hq : q < sts.length
  · exact hq
  rw [stA, List.getD_eq_getElem?_getD, List.getElem?_eq_none zT13] at h1
  simp at h1
/-- Settling the nearest: what is known of costs and of what is settled. -/
structure Nr (sts : List St) (q n : Nat) (L : List Nat) (Dn : List Bool) (k : Nat) : Prop where
  snd : Snd (eI q) (eE sts) n L
  dl : Dn.length = n
  cnt : Dn.count true = k
  bnd : ∀ (r x : Nat), L[r]? = some x → x < big → x ≤ k * 1000000000
  dn : ∀ (r x : Nat), Dn[r]? = some true → L[r]? = some x → x < big
  low : ∀ (r p x y : Nat), Dn[r]? = some true → Dn[p]? = some false → L[r]? = some x → L[p]? = some y → x ≤ y
  cl : ∀ (r p w x y : Nat), Dn[r]? = some true → eE sts r p w → L[r]? = some x → L[p]? = some y → y ≤ x + w
/-- All that can be had is settled. -/
theorem Nr.done {sts : List St} {q n k : Nat} {L : List Nat} {Dn : List Bool} (h : Nr sts q n L Dn k) (hn : sts.length = n) (hu : ∀ r x : Nat, Dn[r]? = some false → L[r]? = some x → x = big) : L = bl (hop sts q) n := by
  refine (Lst.of_closed h.snd (fun r s w h => hn ▸ eE_lt h) fun r p w x y e hx hb hy => ?_).eq
  have hr : r < n := hn ▸ eE_lt e
  obtain ⟨b, hb'⟩ := get_lt h.dl hr
  cases b with
  | true => exact h.cl r p w x y hb' e hx hy
  | false => have := hu r x hb' hx; omega
/-- One is settled: its arcs are gone through. -/
structure NrI (sts : List St) (q n s x0 : Nat) (L : List Nat) (Dn : List Bool) (k : Nat) (A : List Ar) : Prop where
  snd : Snd (eI q) (eE sts) n L
  dl : Dn.length = n
  cnt : Dn.count true = k + 1
  bnd : ∀ (r x : Nat), L[r]? = some x → x < big → x ≤ (k + 1) * 1000000000
  dn : ∀ (r x : Nat), Dn[r]? = some true → L[r]? = some x → x ≤ x0
  und : ∀ (r x : Nat), Dn[r]? = some false → L[r]? = some x → x0 ≤ x
  cl : ∀ (r p w x y : Nat), r ≠ s → Dn[r]? = some true → eE sts r p w → L[r]? = some x → L[p]? = some y → y ≤ x + w
  sx : L[s]? = some x0
  sd : Dn[s]? = some true
  xb : x0 < big
  xk : x0 ≤ k * 1000000000
  arcs : ∀ a ∈ A, emp a = true → ∀ (p y : Nat), a.t = (p : Int) → L[p]? = some y → y ≤ x0 + a.w.toNat
theorem count_on : ∀ (L : List Bool) {x : Nat}, L[x]? = some false → (L.set x true).count true = L.count true + 1
  | [], x, h => by simp at h
  | b :: L, 0, h => by simp at h; subst h; simp
  | b :: L, x + 1, h => by
    have := count_on L (x := x) (by simpa using h)
    cases b <;> simp <;> omega
theorem Nr.take {sts : List St} {q n s x0 k : Nat} {L : List Nat} {Dn : List Bool} (h : Nr sts q n L Dn k) (hs : Dn[s]? = some false) (hx : L[s]? = some x0) (hb : x0 < big) (hm : ∀ r x : Nat, Dn[r]? = some false → L[r]? = some x → x0 ≤ x) : NrI sts q n s x0 L (Dn.set s true) k [] := by
  have hlt : s < Dn.length := (List.getElem?_eq_some_iff.1 hs).1
  have hold : ∀ r b, r ≠ s → (Dn.set s true)[r]? = some b → Dn[r]? = some b := fun r b hr h => by rwa [List.getElem?_set_ne (Ne.symm hr)] at h
  refine ⟨h.snd, by simp [h.dl], by rw [count_on Dn hs, h.cnt], fun r x h1 h2 => ?_, fun r x h1 h2 => ?_, fun r x h1 h2 => ?_, fun r p w x y h0 h1 e h2 h3 => h.cl r p w x y (hold r _ h0 h1) e h2 h3, hx, by simp [hlt], hb, h.bnd s x0 hx hb, fun a ha => by cases ha⟩
  · exact Nat.le_trans (h.bnd r x h1 h2) (Nat.mul_le_mul_right _ (Nat.le_succ k))
  · by_cases e : r = s
    · subst e; rw [hx] at h2; simp at h2; omega
    exact h.low r s x x0 (hold r _ e h1) hs h2 hx
  by_cases e : r = s
  · subst e; simp [hlt] at h1
  exact hm r x (hold r _ e h1) h2
theorem NrI.skip {sts : List St} {q n s x0 k i : Nat} {L : List Nat} {Dn : List Bool} {l : List Ar} {a : Ar} (h : NrI sts q n s x0 L Dn k (l.take i)) (hi : l[i]? = some a) (ha : emp a = true → ∀ (p y : Nat), a.t = (p : Int) → L[p]? = some y → y ≤ x0 + a.w.toNat) : NrI sts q n s x0 L Dn k (l.take (i + 1)) :=
  ⟨h.snd, h.dl, h.cnt, h.bnd, h.dn, h.und, h.cl, h.sx, h.sd, h.xb, h.xk, fun b hb => by
    rw [take_snoc hi] at hb
    rcases List.mem_append.1 hb with hb | hb
    · exact h.arcs b hb
    simp only [List.mem_singleton] at hb
    subst hb; exact ha⟩
theorem NrI.less {sts : List St} {q n s x0 k i p y w : Nat} {L : List Nat} {Dn : List Bool} {l : List Ar} {a : Ar} (h : NrI sts q n s x0 L Dn k (l.take i)) (hl : stA sts s = l) (hi : l[i]? = some a) (he : emp a = true) (hp : a.t = (p : Int)) (hpn : p < n) (hw : a.w = (w : Int)) (hwm : w ≤ 1000000000) (hy : L[p]? = some y) (hlt : x0 + w < y) : NrI sts q n s x0 (L.set p (x0 + w)) Dn k (l.take (i + 1)) := by
  have hE : eE sts s p w := ⟨a, by rw [hl]; exact List.mem_of_getElem? hi, he, hp, hw⟩
  have hpl : p < L.length := (List.getElem?_eq_some_iff.1 hy).1
  have hyb := h.snd.le p y hy
  have hpd : Dn[p]? = some false := by
    obtain ⟨b, hb⟩ := get_lt h.dl hpn
    cases b with
    | false => exact hb
    | true => have := h.dn p y hb hy; omega
  have hps : p ≠ s := by rintro rfl; rw [h.sd] at hpd; cases hpd
  have hset : ∀ r z : Nat, (L.set p (x0 + w))[r]? = some z → r = p ∧ z = x0 + w ∨ r ≠ p ∧ L[r]? = some z := fun r z hr => by
    by_cases e : r = p
    · subst e; rw [List.getElem?_set_self hpl] at hr; simp at hr; exact .inl ⟨rfl, hr.symm⟩
    rw [List.getElem?_set_ne (Ne.symm e)] at hr; exact .inr ⟨e, hr⟩
  refine ⟨h.snd.set hE h.sx h.xb fun y' hy' => by rw [hy] at hy'; simp at hy'; omega, h.dl, h.cnt, fun r z h1 h2 => ?_, fun r z h1 h2 => ?_, fun r z h1 h2 => ?_, fun r t v x z h0 h1 e h2 h3 => ?_, by rw [List.getElem?_set_ne hps]; exact h.sx, h.sd, h.xb, h.xk, fun b hb hbe t z ht hz => ?_⟩
  · rcases hset r z h1 with ⟨_, rfl⟩ | ⟨_, h3⟩
    · have := h.xk; omega
    exact h.bnd r z h3 h2
  · rcases hset r z h2 with ⟨rfl, _⟩ | ⟨_, h3⟩
    · rw [hpd] at h1; cases h1
    exact h.dn r z h1 h3
  · rcases hset r z h2 with ⟨_, rfl⟩ | ⟨_, h3⟩
    · omega
    exact h.und r z h1 h3
  · rcases hset r x h2 with ⟨rfl, _⟩ | ⟨_, h4⟩
    · rw [hpd] at h1; cases h1
    rcases hset t z h3 with ⟨rfl, rfl⟩ | ⟨_, h5⟩
    · have := h.cl r t v x y h0 h1 e h4 hy; omega
    exact h.cl r t v x z h0 h1 e h4 h5
  rw [take_snoc hi] at hb
  rcases hset t z hz with ⟨rfl, rfl⟩ | ⟨h4, h5⟩
  · rcases List.mem_append.1 hb with hb | hb
    · have := h.arcs b hb hbe t y ht hy; omega
    simp only [List.mem_singleton] at hb
    subst hb; omega
  rcases List.mem_append.1 hb with hb | hb
  · exact h.arcs b hb hbe t z ht h5
  simp only [List.mem_singleton] at hb
  subst hb
  exact absurd zT13 h4
theorem NrI.done {sts : List St} {q n s x0 k : Nat} {L : List Nat} {Dn : List Bool} {l : List Ar} (h : NrI sts q n s x0 L Dn k l) (hl : stA sts s = l) : Nr sts q n L Dn (k + 1) := by
  refine ⟨h.snd, h.dl, h.cnt, h.bnd, fun r x h1 h2 => ?_, fun r p x y h1 h2 h3 h4 => ?_, fun r p w x y h1 e h2 h3 => ?_⟩
  · have := h.dn r x h1 h2; have := h.xb; omega
  · have := h.dn r x h1 h3; have := h.und p y h2 h4; omega
  by_cases er : r = s
  · subst er
    obtain ⟨a, a1, a2, a3, a4⟩ := e
    rw [h.sx] at h2
    simp only [Option.some.injEq] at h2
    have := h.arcs a (hl ▸ a1) a2 p y a3 h3
    omega
  exact h.cl r p w x y er h1 e h2 h3
/-- Of arcs that are alike the lightest, by a map. -/
abbrev K3 : Type := Int × Int × Int
def ky (a : Ar) : K3 := (a.i, a.o, a.t)
def lessM (M : List (K3 × Int)) (a : Ar) : Bool := match mget M (ky a) with | some w => decide (a.w < w) | none => true
def addM (M : List (K3 × Int)) (a : Ar) : List (K3 × Int) := if lessM M a = true then mput M (ky a) a.w else M
def mapM (l : List Ar) : List (K3 × Int) := l.foldl addM []
theorem mput_keys {K : Type} [DecidableEq K] {l : List (K × Int)} (a : K) (v : Int) (h : (l.map (·.1)).Nodup) : ((mput l a v).map (·.1)).Nodup := by
  unfold mput
  cases hf : mfind l a 0 with
  | none =>
    have hn : mget l a = none := by simp [mget, hf]
    have hn := mget_none.1 hn
    simp only [List.map_append, List.map_cons, List.map_nil]
    rw [List.nodup_append]
    exact ⟨h, by simp, fun x hx y hy => by
      simp at hy; subst hy
      obtain ⟨z, hz, rfl⟩ := List.mem_map.1 hx
      exact hn z hz⟩
  | some y =>
    obtain ⟨i, u⟩ := y
    have hi := mfind_some hf
    have : (l.set i (a, v)).map (·.1) = l.map (·.1) := by
      refine List.ext_getElem? fun j => ?_
      rw [List.getElem?_map, List.getElem?_map, List.getElem?_set]
      split
      · rename_i e; subst e
        rw [if_pos (List.getElem?_eq_some_iff.1 hi).1, hi]; rfl
      rfl
    show ((l.set i (a, v)).map (·.1)).Nodup
    rw [this]; exact h
theorem mget_mem {K : Type} [DecidableEq K] {k : K} {w : Int} : ∀ {l : List (K × Int)}, (l.map (·.1)).Nodup → (mget l k = some w ↔ (k, w) ∈ l)
  | [], _ => by simp [mget, mfind]
  | (a, u) :: l, h => by
    have h2 := List.nodup_cons.1 (show (a :: l.map (·.1)).Nodup from h)
    have ih := mget_mem (k := k) (w := w) h2.2
    rw [mget_cons]
    by_cases e : k = a
    · subst e
      rw [if_pos rfl]
      constructor
      · intro h3; simp at h3; simp [h3]
      intro h3
      rcases List.mem_cons.1 h3 with h3 | h3
      · simp at h3; simp [h3]
      exact absurd (List.mem_map.2 ⟨_, h3, rfl⟩) h2.1
    rw [if_neg e, ih]
    simp [e]
def leN (l : List Nat) : List Nat := l.mergeSort fun x y => !decide (y < x)
theorem leN_perm (l : List Nat) : (leN l).Perm l := List.mergeSort_perm _ _
theorem leN_sorted (l : List Nat) : (leN l).Pairwise fun x y => x ≤ y := by
  have := List.pairwise_mergeSort (le := fun x y : Nat => !decide (y < x)) (by intro a b c; simp; omega) (by intro a b; simp; omega) l
  exact this.imp fun h => by simpa using h
theorem leN_lt {l : List Nat} (h : l.Nodup) : (leN l).Pairwise fun x y => x < y := by
  have h1 := leN_sorted l
  have h2 : (leN l).Pairwise fun x y => x ≠ y := (leN_perm l).nodup_iff.2 h
  exact (h1.and h2).imp fun ⟨h3, h4⟩ => by omega
end Go.Proofs.YthiknkcigcglkaaDoor
