/- m[k]++ in a drawn region: the old value may be asked for before or behind the making of the entry; and pairs as keys. -/
import Derived.Test.YtjbldphpkkmdpaaAmFr
import Derived.Test.YtjbldphpkkmdpaaAmK
import Derived.Test.YtjbldphpkkmdpaaAmN
namespace Go.Proofs.Ytjbldphpkkmdpaa
open Go.RowKit
set_option linter.unusedSimpArgs false
set_option linter.unusedVariables false

section
variable {c : Cx} {s : S} {Q : Exit → S → Prop} {ops : Array Oper} {L : List Oper} {need : Nat → Bool} {l : List (Nat × Nat)} {i : Nat} {o : Oper} {T : (Nat → Nat × Nat) → World → Prop}
/-- With a relation of the region's own. -/
def AT (T : (Nat → Nat × Nat) → World → Prop) (c : Cx) (ops : Array Oper) (Q : Exit → S → Prop) (need : Nat → Bool) (l : List (Nat × Nat)) (s : S) : Prop := ∀ g a w, Sim c g s a w → ASeqF c.P ops (QQ c Q) (T g) need l a w
theorem AW.drawG {id : Nat} {l : List Oper} (T : (Nat → Nat × Nat) → World → Prop) (order : List (Nat × Nat)) (need : Nat → Bool) (N : Nat) (hm : c.P.follows .mixedOrders = true) (hsel : Region.noSelect l.toArray = true) (hlen : order.length = l.length)
    (hok : okF .any l.toArray need N order (Array.replicate l.length false) = true) (h : AT T c l.toArray Q need order s) : AW c (.region id l.toArray true) Q s := by
  intro g a w hs
  refine wp_region_any hm ?_
  have hs' : Sim c g s a w.drew := hs.move (Below.drew (Below.refl _ _))
  have := any_of_anyF _ _ _ _ (anyF_of (P := c.P) (Q := QQ c Q) (T := T g) (need := need) (md := .any) hsel order (Array.replicate l.length false) a w.drew (by
    intro j oj _ hl
    rw [Array.getD_eq_getD_getElem?, Array.getElem?_replicate] at hl
    split at hl <;> simp at hl) hok (h g a _ hs'))
  rw [hlen] at this
  simpa using this
theorem AT.rp {v : V} (hi : L[i]? = some o) (hg : o.guard = none) (hd : dok s o = true) (hp : noP Q) (h : RP c o s v) (hN : AT T c L.toArray Q need l (s.put o.dst v)) : AT T c L.toArray Q need ((i, 2) :: l) s := fun g a w hs => by
  obtain ⟨x, h1, h2⟩ := h g a w hs
  exact ⟨o, x, by simpa using hi, .inl ⟨by simp [Region.wanted, hg], fun w' _ => h2 w'⟩, QQ_noP hp _ _, hN g _ w (hs.put o.dst (dok_spec hd) h1)⟩
theorem AT.rd0 {v : V} (hi : L[i]? = some o) (hg : o.guard = none) (hn : need i = false) (hd : dok s o = true) (h : RD c o s v) (hN : AT T c L.toArray Q need l (s.put o.dst v)) : AT T c L.toArray Q need ((i, 0) :: l) s := fun g a w hs => by
  obtain ⟨x, h1, h2⟩ := h g a w hs
  refine wpOp_of (by simpa using hi) hg ?_
  unfold Oper.wp
  rw [h2 w (Below.refl _ _)]
  exact ⟨fun h => (by rw [hn] at h; cases h), hN g _ w (hs.put o.dst (dok_spec hd) h1)⟩

theorem AT.rd0T {v : V} (hi : L[i]? = some o) (hg : o.guard = none) (hd : dok s o = true) (h : RD c o s v) (hN : AT T c L.toArray Q need l (s.put o.dst v)) : AT T c L.toArray Q need ((i, 0) :: l) s := fun g a w hs => by
  obtain ⟨x, h1, h2⟩ := h g a w hs
  refine wpOp_of (by simpa using hi) hg ?_
  unfold Oper.wp
  rw [h2 w (Below.refl _ _)]
  exact ⟨fun _ h => h, hN g _ w (hs.put o.dst (dok_spec hd) h1)⟩

variable {K : Type} [DecidableEq K] {enc : K → Value}
/-- The entry of a key: its value v, the map l1 once the entry stands, its place j. -/
structure Ent (l : List (K × Int)) (key : K) (v : Int) (l1 : List (K × Int)) (j : Nat) : Prop where
  h : (mfind l key 0 = none ∧ v = 0 ∧ l1 = l ++ [(key, 0)] ∧ j = l.length) ∨ (mfind l key 0 = some (j, v) ∧ l1 = l)
theorem Ent.ex (l : List (K × Int)) (key : K) : ∃ v l1 j, Ent l key v l1 j ∧ v = (mget l key).getD 0 ∧ j ≤ l.length := by
  unfold mget
  cases h : mfind l key 0 with
  | none => exact ⟨0, _, _, ⟨.inl ⟨h, rfl, rfl, rfl⟩⟩, rfl, Nat.le_refl _⟩
  | some x => exact ⟨x.2, l, x.1, ⟨.inr ⟨h, rfl⟩⟩, rfl, Nat.le_of_lt (List.getElem?_eq_some_iff.1 (mfind_some h)).1⟩
theorem Ent.get {l l1 : List (K × Int)} {key : K} {v : Int} {j : Nat} (h : Ent l key v l1 j) : (mget l key).getD 0 = v ∧ (mget l1 key).getD 0 = v ∧ l1[j]? = some (key, v) ∧ mput l key = fun u => l1.set j (key, u) := by
  rcases h.h with ⟨h1, rfl, rfl, rfl⟩ | ⟨h1, rfl⟩
  · have h0 : mget l key = none := by simp [mget, h1]
    refine ⟨by simp [h0], by rw [mget_snoc, h0]; simp, by simp, ?_⟩
    funext u
    rw [mput_new h0]
    simp
  · have h0 : mget l1 key = some v := by simp [mget, h1]
    refine ⟨by simp [h0], by simp [h0], mfind_some h1, ?_⟩
    funext u
    unfold mput
    rw [h1]
def upS (r : Nat) (l : List (Value × Value)) (s : S) : S := ⟨s.n, s.T.map (fun x => (x.1, upM r l x.2)), s.H, s.K⟩
/-- The map of l, or that in which the entry stands. -/
def TM (enc : K → Value) (r : Nat) (l l1 : List (K × Int)) : (Nat → Nat × Nat) → World → Prop := fun g w => ∃ l', (l' = l ∨ l' = l1) ∧ w.heap[(g r).1]? = some (.map (ments (mrows enc l')) (mrows enc l').length)
theorem ments_find (l : List (Value × Value)) (i : Nat) (h : i < l.length) : (ments l).findIdx? (fun e => ((e.born : Nat) : Int) == (i : Int)) = some i := by
  rw [Array.findIdx?_eq_some_iff_getElem]
  have hs : i < (ments l).size := by rw [ments_size]; exact h
  have hb : ∀ k (hk : k < (ments l).size), ((ments l)[k]'hk).born = k := fun k hk => by
    have h1 := ments_get l k
    rw [Array.getElem?_eq_getElem hk] at h1
    have h2 : k < l.length := by rwa [ments_size] at hk
    rw [List.getElem?_eq_getElem h2, Option.map_some, Option.some.injEq] at h1
    rw [h1]
  refine ⟨hs, by rw [hb]; simp, fun k hk => ?_⟩
  rw [hb]
  simp; omega
theorem AT.incr {t k e : TypeId} {bt r N i2 i3 i4 i5 i6 j d3 d5 : Nat} {L1 : List (K × Int)} {l1 : List (K × Int)} {key : K} {v u : Int} {x y : Operand} {o2 o3 o4 o5 o6 : Oper}
    (hE : Ent L1 key v l1 j) (hk : KeyOk c.P k enc) (hu : c.P.underlying t = some (.map k e)) (hi : Inf c.P e 1 bt (.int .i64 0))
    (h2 : L[i2]? = some o2) (h3 : L[i3]? = some o3) (h4 : L[i4]? = some o4) (h5 : L[i5]? = some o5) (h6 : L[i6]? = some o6)
    (q2 : o2.op = .lookup t x y false) (q4 : o4.op = .mapEntry t x y) (q6 : o6.op = .entryStore t x (.tmp d5) (.tmp d3))
    (g2 : o2.guard = none) (g3 : o3.guard = none) (g4 : o4.guard = none) (g5 : o5.guard = none) (g6 : o6.guard = none) (e6 : o6.dst = none) (n6 : need i6 = false)
    (hp : noP Q) (hd2 : dok s o2 = true) (hx : s.ev x = some (.mp r N (mrows enc L1))) (hy : ∀ g a w, Sim c g s a w → a.eval y = enc key)
    (hd3 : dok (s.put o2.dst (.i v)) o3 = true) (r3 : RP c o3 (s.put o2.dst (.i v)) (.i u))
    (hd4 : dok ((s.put o2.dst (.i v)).put o3.dst (.i u)) o4 = true) (hx4 : ((s.put o2.dst (.i v)).put o3.dst (.i u)).ev x = some (.mp r N (mrows enc L1))) (hy4 : ∀ g a w, Sim c g ((s.put o2.dst (.i v)).put o3.dst (.i u)) a w → a.eval y = enc key)
    (hN : N = c.w0.heap.size) (hH : s.H.all (fun x => !V.mpsL x.2.cells) = true) (hK : V.mpsL s.K = false)
    (hd5 : dok (upS r (mrows enc l1) (((s.put o2.dst (.i v)).put o3.dst (.i u)).put o4.dst (.tup [.i v, .i j]))) o5 = true) (r5 : RP c o5 (upS r (mrows enc l1) (((s.put o2.dst (.i v)).put o3.dst (.i u)).put o4.dst (.tup [.i v, .i j]))) (.i j))
    (hx6 : ((upS r (mrows enc l1) (((s.put o2.dst (.i v)).put o3.dst (.i u)).put o4.dst (.tup [.i v, .i j]))).put o5.dst (.i j)).ev x = some (.mp r N (mrows enc l1)))
    (hs6 : ((upS r (mrows enc l1) (((s.put o2.dst (.i v)).put o3.dst (.i u)).put o4.dst (.tup [.i v, .i j]))).put o5.dst (.i j)).ev (.tmp d5) = some (.i j))
    (hv6 : ((upS r (mrows enc l1) (((s.put o2.dst (.i v)).put o3.dst (.i u)).put o4.dst (.tup [.i v, .i j]))).put o5.dst (.i j)).ev (.tmp d3) = some (.i u))
    (hQ : Q .normal (upS r (mrows enc (mput L1 key u)) ((upS r (mrows enc l1) (((s.put o2.dst (.i v)).put o3.dst (.i u)).put o4.dst (.tup [.i v, .i j]))).put o5.dst (.i j)))) :
    AT (TM enc r L1 l1) c L.toArray Q need [(i2, 1), (i3, 2), (i4, 0), (i5, 2), (i6, 0)] s := by
  subst hN
  obtain ⟨E1, E2, E3, E4⟩ := hE.get
  intro g a w hs
  have hmap : ∀ {s' : S} {l' : List (K × Int)} {a w}, Sim c g s' a w → s'.ev x = some (.mp r c.w0.heap.size (mrows enc l')) → a.eval x = .map (some (g r).1) ∧ c.w0.heap.size ≤ (g r).1 ∧ w.heap[(g r).1]? = some (.map (ments (mrows enc l')) (mrows enc l').length) := by
    intro s' l' a w hs hx
    have h := hs.ev hx
    generalize a.eval x = u at h
    cases h with
    | mp _ _ _ hN hm => exact ⟨rfl, hN, hm⟩
  obtain ⟨x1, x2, x3⟩ := hmap hs hx
  refine ⟨o2, .int .i64 v, by simpa using h2, .inl ⟨by simp [Region.wanted, g2], fun w' hT => ?_⟩, ⟨L1, .inl rfl, x3⟩, QQ_noP hp _ _, ?_⟩
  · obtain ⟨l', hl', hb⟩ := hT
    have := run_lookup (ok := false) (key := key) hk hu hi hb
    simp only [execOp, q2, x1, hy g a w hs, Sem.run_bind, this, Result.andThen_ok]
    rcases hl' with rfl | rfl
    · rw [E1]; rfl
    · rw [E2]; rfl
  have hs2 := hs.put o2.dst (dok_spec hd2) (v := .i v) (x := .int .i64 v) (.d _ _ (.p _))
  obtain ⟨y3, z1, z2⟩ := r3 g _ w hs2
  obtain rfl : y3 = .int .i64 u := by cases z1 with | d _ _ h => cases h; rfl
  refine ⟨o3, .int .i64 u, by simpa using h3, .inl ⟨by simp [Region.wanted, g3], fun w' _ => z2 w'⟩, QQ_noP hp _ _, ?_⟩
  have hs3 := hs2.put o3.dst (dok_spec hd3) z1
  obtain ⟨u1, u2, u3⟩ := hmap hs3 hx4
  generalize hA : (Act.put (Act.put a o2.dst (.int .i64 v)) o3.dst (.int .i64 u)) = A at *
  have hrun : (Instr.mapEntry t (.map (some (g r).1)) (enc key)).run c.P w = .ok (.tuple #[.int .i64 v, goInt j]) { w with heap := w.heap.setIfInBounds (g r).1 (.map (ments (mrows enc l1)) (mrows enc l1).length) } := by
    simp only [Instr.mapEntry, Sem.run_bind, run_underlying hu, Result.andThen_ok, run_getMap u3, hk.check, hk.find]
    rcases hE.h with ⟨h1, rfl, rfl, rfl⟩ | ⟨h1, rfl⟩
    · simp only [h1, Option.map_none, run_zeroValue hi, Sem.run_bind, Result.andThen_ok, run_setMap _ u3, ments_push]
      simp [mrows]
    · have hget : (mrows enc l1)[j]? = some (enc key, .int .i64 v) := by simp [mrows, mfind_some h1]
      have hk0 : (((ments (mrows enc l1))[j]?).map (·.key)).getD (enc key) = enc key := by rw [ments_get, hget]; rfl
      have hself : (ments (mrows enc l1)).modify j (fun e => { e with key := enc key }) = ments (mrows enc l1) := by
        apply Array.ext_getElem?
        intro i
        rw [Array.getElem?_modify]
        split
        · rename_i e
          subst e
          rw [ments_get, hget]; rfl
        · rfl
      simp only [h1, Option.map_some, hk0, Instr.keyThatStays, hk.same, if_true, Sem.run_bind, Sem.run_pure, Result.andThen_ok, run_setMap _ u3, hself]
      rw [ments_get, hget]
      rfl
  refine wpOp_of (by simpa using h4) g4 ?_
  unfold Oper.wp
  have hexec : (execOp A.eval o4).run c.P w = .ok (.value (.tuple #[.int .i64 v, goInt j])) { w with heap := w.heap.setIfInBounds (g r).1 (.map (ments (mrows enc l1)) (mrows enc l1).length) } := by
    simp only [execOp, q4, u1, hy4 g A w hs3, Sem.run_bind, hrun, Result.andThen_ok]
    rfl
  rw [hexec]
  have htup : VRep w (qt c ((s.put o2.dst (.i v)).put o3.dst (.i u)).H g) g (.tup [.i v, .i j]) (.tuple #[.int .i64 v, goInt j]) := by
    refine .tup [.i v, .i j] [.int .i64 v, .int .i64 j] rfl fun n p z hp hz => ?_
    match n, hp, hz with
    | 0, hp, hz => simp at hp hz; subst hp hz; exact .d _ _ (.p _)
    | 1, hp, hz => simp at hp hz; subst hp hz; exact .d _ _ (.p _)
    | n + 2, hp, hz => simp at hp
  have hs4 := hs3.put o4.dst (dok_spec hd4) htup
  have hlt : (g r).1 < w.heap.size := (Array.getElem?_eq_some_iff.1 u3).1
  have hHall : ∀ k row, fnd s.H k = some row → V.mpsL row.cells = false := fun k row hk => by
    have := List.all_eq_true.1 hH _ (fnd_mem hk)
    simpa using this
  have hputH : ∀ (s : S) d v, (s.put d v).H = s.H := fun s d v => by cases d <;> rfl
  have hputK : ∀ (s : S) d v, (s.put d v).K = s.K := fun s d v => by cases d <;> rfl
  have hs4' := hs4.upMap (r := r) (l' := mrows enc l1) u3 u2 (fun k row hk => hHall k row (by simpa only [hputH] using hk)) (by simpa only [hputK] using hK)
  refine ⟨fun _ _ => ⟨l1, .inr rfl, by simp [hlt]⟩, ?_⟩
  obtain ⟨y5, k1, k2⟩ := r5 g _ _ hs4'
  obtain rfl : y5 = .int .i64 j := by cases k1 with | d _ _ h => cases h; rfl
  refine ⟨o5, .int .i64 j, by simpa using h5, .inl ⟨by simp [Region.wanted, g5], fun w' _ => k2 w'⟩, QQ_noP hp _ _, ?_⟩
  have hs5 := hs4'.put o5.dst (dok_spec hd5) k1
  obtain ⟨m1, m2, m3⟩ := hmap hs5 hx6
  have m4 := VRep.p_eq (hs5.ev hs6)
  have m5 := VRep.p_eq (hs5.ev hv6)
  refine wpOp_of (by simpa using h6) g6 ?_
  unfold Oper.wp
  have hjl : j < (mrows enc l1).length := by rw [mrows, List.length_map]; exact (List.getElem?_eq_some_iff.1 E3).1
  have hgetj : (mrows enc l1)[j]? = some (enc key, .int .i64 v) := by simp [mrows, E3]
  have hmod : (ments (mrows enc l1)).modify j (fun e => { e with val := .int .i64 u }) = ments ((mrows enc l1).set j (enc key, .int .i64 u)) := by
    rw [← ments_modify _ _ (enc key) (.int .i64 u) _ _ hgetj]
    apply Array.ext_getElem?
    intro i
    rw [Array.getElem?_modify, Array.getElem?_modify]
    split
    · rename_i e
      subst e
      rw [ments_get, hgetj]; rfl
    · rfl
  obtain ⟨A6, hA6⟩ : ∃ A6, A6 = Act.put (Act.put A o4.dst (.tuple #[.int .i64 v, goInt j])) o5.dst (.int .i64 j) := ⟨_, rfl⟩
  rw [← hA6] at m1 m4 m5 hs5 ⊢
  obtain ⟨W, hW⟩ : ∃ W, W = { w with heap := w.heap.setIfInBounds (g r).1 (.map (ments (mrows enc l1)) (mrows enc l1).length) } := ⟨_, rfl⟩
  rw [← hW] at m3 hs5 ⊢
  have hset : mrows enc (mput L1 key u) = (mrows enc l1).set j (enc key, .int .i64 u) := by rw [E4]; simp [mrows, List.map_set]
  have hexec6 : (execOp A6.eval o6).run c.P W = .ok .skip { W with heap := W.heap.setIfInBounds (g r).1 (.map (ments (mrows enc (mput L1 key u))) (mrows enc (mput L1 key u)).length) } := by
    simp only [execOp, q6, m1, m4, m5, Instr.entryStore, Sem.run_bind, run_getMap m3, Result.andThen_ok, asInt, asIntOf, goInt, Sem.run_pure, ments_find _ _ hjl, run_setMap _ m3, hmod, hset]
    simp
  rw [hexec6]
  simp only [Oper.upon, e6, Act.put]
  have hfin := hs5.upMap (r := r) (l' := mrows enc (mput L1 key u)) m3 m2 (fun k row hk => hHall k row (by simpa only [hputH, upS] using hk)) (by simpa only [hputK, upS] using hK)
  exact ⟨fun h => (by rw [n6] at h; cases h), ⟨g, _, hQ, hfin⟩⟩
end
end Go.Proofs.Ytjbldphpkkmdpaa
