/- Part 16 of what the law SameSames rests on. -/
import Derived.Shelf.SlSortCmp.InsertionK
import Derived.Test.YthiknkcigcglkaaGreatDoorPkSS14
namespace Go.Proofs.YthiknkcigcglkaaGreatDoor
open Go.RowKit
open Go.Proofs.Tryz
open Bool (and_eq_true)
open List (all_eq_true append_nil cons_append ext_getElem? getD_eq_getElem?_getD length_map length_take map_append map_cons map_set mem_cons mem_cons_self mem_of_getElem? mem_singleton nil_append take_of_length_le take_zero zipIdx_cons zip_cons_cons)
open Nat (le_refl)
open Option (getD_some map_none map_some)
set_option linter.unusedSimpArgs false
set_option linter.unusedVariables false
set_option maxRecDepth 100000
set_option maxHeartbeats 8000000
open Go.Sort (grow)
variable {bs : List Nat} {k0 key : ByteArray} {bt j k m n sz : Nat} {P : Program} {lj : List (Int × Int)} {kd : IntKind} {kv v0 : Value} {v : Int} {z : Operand}
section
variable {K β : Type} [DecidableEq K]
def xV : List (K × β) → K → Nat → Option (Nat × β)
  | [], _, _ => none
  | (k, v) :: l, a, i => if a = k then some (i, v) else xV l a (i + 1)
theorem gt (a : K) : ∀ (l : List (K × β)) (i : Nat), xV l a i = (xV l a 0).map fun x => (x.1 + i, x.2)
  | [], i => rfl
  | (k, v) :: l, i => by
    simp only [xV]
    split
    · simp
    rw [gt a l (i + 1), gt a l (0 + 1)]
    cases xV l a 0 <;> simp <;> omega
theorem uf {a : K} : ∀ {l : List (K × β)} {i : Nat} {v : β}, xV l a 0 = some (i, v) → l[i]? = some (a, v)
  | [], i, v, h => by simp [xV] at h
  | (k, u) :: l, i, v, h => by
    simp only [xV] at h
    split at h
    · grind
    rw [gt] at h
    cases h2 : xV l a 0 with
    | none => rw [h2] at h; cases h
    | some x =>
      rw [h2] at h; simp only [map_some, Option.some.injEq, Prod.mk.injEq] at h; obtain ⟨rfl, rfl⟩ := h; have := uf (l := l) (i := x.1) (v := x.2) h2
      simpa using this
theorem bu {a : K} : ∀ {l : List (K × β)}, xV l a 0 = none ↔ ∀ x ∈ l, x.1 ≠ a
  | [] => by simp [xV]
  | (k, u) :: l => by
    have ih := bu (a := a) (l := l); simp only [xV]
    split
    · rename_i e; simp [e]
    grind [gt, Option.map_eq_none_iff]
theorem qn0 {γ : Type} (a : K) : ∀ (l : List (K × β)) (ys : List γ) (i : Nat), l.length = ys.length → xV ((l.map (·.1)).zip ys) a i = (xV l a 0).bind fun x => (ys[x.1]?).map fun y => (x.1 + i, y)
  | [], ys, i, h => by cases ys <;> simp_all [xV]
  | (k, u) :: l, [], i, h => by simp at h
  | (k, u) :: l, y :: ys, i, h => by
    simp only [map_cons, zip_cons_cons, xV]
    split
    · simp
    rw [qn0 a l ys (i + 1) (by simpa using h), gt a l (0 + 1)]
    cases xV l a 0 with
    | none => rfl
    | some x => simp; rw [show x.1 + (i + 1) = x.1 + 1 + i by omega]
end
structure qD9 {K : Type} [DecidableEq K] (P : Program) (k : TypeId) (enc : K → Value) : Prop where
  check : ∀ (b : Bool) (a : K) (w : World), (Instr.checkKey b 10000 k (enc a)).run P w = .ok () w
  find : ∀ (l : List (K × Value)) (a : K) (w : World), (Instr.findKey k (enc a) (zB (l.map fun x => (enc x.1, x.2))).toList).run P w = .ok (xV l a 0) w
  same : ∀ a, Instr.sameBits 10000 (enc a) (enc a) = true
abbrev vI (a : Int) : Value := .int .i64 a
abbrev mmr {K : Type} (enc : K → Value) (L : List (K × List (Int × Int))) : List (Value × List (Value × Value)) := L.map fun x => (enc x.1, zu vI x.2)
abbrev yR (l : List (Value × List (Value × Value))) (bs : List Nat) : List (Value × Value) := (l.map (·.1)).zip (bs.map fun k => .map (some k))
theorem qE0 {K : Type} (enc : K → Value) (bs : List Nat) : ∀ (L : List (K × List (Int × Int))), yR (mmr enc L) bs = ((L.map (·.1)).zip (bs.map fun k => Value.map (some k))).map fun x => (enc x.1, x.2) := by
  induction bs with
  | nil => intro L; simp [yR]
  | cons b bs ih =>
    intro L
    cases L with
    | nil => rfl
    | cons x L => simpa [yR] using ih L
theorem gK {l : List (Value × List (Value × Value))} (h : l.length = bs.length) : (yR l bs).length = l.length := by simp [yR, h]
theorem qt8 {l : List (Value × List (Value × Value))} (h : l.length = bs.length) (x : Value × List (Value × Value)) (b : Nat) : yR (l ++ [x]) (bs ++ [b]) = yR l bs ++ [(x.1, .map (some b))] := by
  unfold yR; rw [map_append, map_append, List.zip_append (by simp [h])]; rfl
def gk (r N : Nat) (L' : List (Value × List (Value × Value))) : V → V
  | .mm k _ l => if k = r ∧ l.2.2 = none then .mm k N (L', L'.length, none) else .junk
  | v => if v.mps then .junk else v
section
variable {c : Cx} {s : S} {o : Oper} {g : Nat → Nat × Nat} {a : Act} {w : World} {Q : Exit → S → Prop}
theorem Sim.upMM (hs : Sim c g s a w) {r N b k0 k1 : Nat} {es es' : Array MapEntry} {L' : List (Value × List (Value × Value))} (hb : w.heap[b]? = some (.map es k0)) (hN : c.w0.heap.size ≤ b)
    (qU7 : ∀ q, VRep { w with heap := w.heap.setIfInBounds b (.map es' k1) } q g (.mm r N (L', L'.length, none)) (.map (some (g r).1)))
    (hH : ∀ k row, fnd s.H k = some row → V.mpsL row.cells = false) (hK : V.mpsL s.K = false) :
    Sim c g ⟨s.n, s.T.map (fun x => (x.1, gk r N L' x.2)), s.H, s.K⟩ a { w with heap := w.heap.setIfInBounds b (.map es' k1) } := by
  have zk : b < w.heap.size := (Array.getElem?_eq_some_iff.1 hb).1; obtain ⟨w', hw'⟩ : ∃ w', w' = { w with heap := w.heap.setIfInBounds b (.map es' k1) } := ⟨_, rfl⟩; have xz : w'.heap.size = w.heap.size := by rw [hw']; simp
  have bV : ∀ k, k ≠ b → w'.heap[k]? = w.heap[k]? := fun k zT => by rw [hw']; simp [Array.getElem?_setIfInBounds_ne (Ne.symm zT)]
  have hc : ∀ (k o : Nat) (u : Value), w.cell? ⟨k, o, none⟩ = some u → w'.cell? ⟨k, o, none⟩ = some u := by
    intro k o u h
    by_cases e : k = b
    · subst e
      simp [World.cell?, hb] at h
    exact (World.cell?_of_block (w := w) (a := ⟨k, o, none⟩) (bV k e)).trans h
  have hm : ∀ {v x}, v.mps = false → VRep w (qt c s.H g) g v x → VRep w' (qt c s.H g) g v x := fun hv h => h.nomap zg hc hv
  rw [← hw'] at qU7 ⊢; refine ⟨hs.size, hs.defers, ?_, hs.nul, ?_, ?_, hs.inj, hs.base, hs.low, ?_⟩
  · intro i v hv
    simp only at hv; rw [uo] at hv
    cases hu : fnd s.T i with
    | none => rw [hu] at hv; cases hv
    | some u =>
      rw [hu] at hv; simp only [map_some, Option.some.injEq] at hv; obtain ⟨x, h1, h2⟩ := hs.tmp i u hu; refine ⟨x, h1, ?_⟩; subst hv
      have vt : ∀ u : V, VRep w (qt c s.H g) g u x → VRep w' (qt c s.H g) g (if u.mps then .junk else u) x := by
        intro u h2
        split
        · exact .junk _
        rename_i zT; exact hm (by simpa using zT) h2
      cases u with
      | mm k N0 l0 =>
        simp only [Go.Proofs.YthiknkcigcglkaaGreatDoor.gk]
        split
        · rename_i e
          obtain ⟨rfl, e⟩ := e
          cases h2 with
          | mm _ _ _ bs _ _ _ _ _ _ =>
            rw [e]; exact qU7 _
        exact .junk _
      | d _ => exact vt _ h2
      | ad _ => exact vt _ h2
      | ref _ _ => exact vt _ h2
      | own _ _ _ _ => exact vt _ h2
      | que _ _ _ _ => exact vt _ h2
      | agg _ => exact vt _ h2
      | tup _ => exact vt _ h2
      | fn _ _ => exact vt _ h2
      | mp _ _ _ => exact vt _ h2
      | mq _ _ _ => exact vt _ h2
      | ifc _ _ => exact vt _ h2
      | mp2 _ _ _ _ _ _ => exact vt _ h2
      | it _ _ _ _ => exact vt _ h2
      | mit _ _ _ _ _ => exact vt _ h2
      | blk _ _ _ => exact vt _ h2
      | junk => exact .junk _
  · intro k row hk hn
    obtain ⟨arr, h1, h2, h3⟩ := hs.obj k row hk hn; refine ⟨arr, (bV _ fun e => ?_).trans h1, h2, fun j v hv => ?_⟩
    · rw [e, hb] at h1; cases h1
    grind [V.mpsL_false, mem_of_getElem?]
  · intro j v x h1 h2
    exact hm (V.mpsL_false.1 hK v (mem_of_getElem? h1)) (hs.keep j v x h1 h2)
  refine hs.below.trans ⟨by rw [hw'], by rw [hw'], by rw [hw'], by omega, fun k hk => bV k ?_⟩; omega
theorem jj8 (r : Nat) {t : TypeId} (ho : o.op = .makeMap t none) (hr : s.clean r = true) (hd : dok s o = true) : StepM c o s (fun s' => s' = s.put o.dst (.mm r c.w0.heap.size ([], 0, none))) := by
  intro g a w hs K Q hK; have hb : Below w.heap.size w (w.alloc (.map #[] 0)) := (Below.refl _ _).alloc (le_refl _) _; have h1 := (hs.move hb).regauge hr (w.heap.size, 0); unfold Oper.wp
  have xP : (execOp a.eval o).run c.P w = .ok (.value (.map (some w.heap.size))) (w.alloc (.map #[] 0)) := by
    simp [execOp, ho, Instr.makeMap]
  rw [xP]; refine hK _ _ _ _ rfl (h1.put o.dst (zJ hd) ?_) hb
  have := VRep.mm (w := w.alloc (.map #[] 0)) (q := qt c s.H (fun k => if k = r then (w.heap.size, 0) else g k)) (g := fun k => if k = r then (w.heap.size, 0) else g k) r c.w0.heap.size ([], 0, none) [] (by simp; exact hs.below.size) ⟨rfl, le_refl _⟩ zx zx (by simp only [if_true]; exact heap_alloc_new w _) zx
  simpa [gz] using this
theorem gT {r N : Nat} {x : Operand} {l : List (Value × List (Value × Value))} {y : Option Nat} (hs : Sim c g s a w) (hx : s.ev x = some (.mm r N (l, m, y))) : ∃ bs : List Nat, a.eval x = .map (some (gz (g r).1 bs y)) ∧ N ≤ (g r).1 ∧ l.length = bs.length ∧ m ≤ l.length ∧ (∀ k ∈ bs, N ≤ k ∧ k ≠ (g r).1) ∧ bs.Nodup ∧
    w.heap[(g r).1]? = some (.map (zB ((yR l bs).take m)) m) ∧ ∀ (j : Nat) (x : Value × List (Value × Value)) (k : Nat), l[j]? = some x → bs[j]? = some k → w.heap[k]? = some (.map (zB x.2) x.2.length) := by
  have h := hs.ev hx; generalize a.eval x = u at h
  cases h with
  | mm _ _ _ bs h1 h2 h3 h4 h5 h6 => exact ⟨bs, rfl, h1, h2.1, h2.2, h3, h4, h5, h6⟩
theorem jd8 (d1 r N : Nat) (kv : Value) {t : TypeId} {l : List (Value × List (Value × Value))} (ho : o.op = .makeMap t none) (h1 : fnd s.T d1 = some (.mm r N (l, l.length, none))) (hN : N = c.w0.heap.size) (hd : dok s o = true) : StepM c o s (fun s' => s' = s.put o.dst (.mm r N (l ++ [(kv, [])], l.length, some l.length))) := by
  subst hN; intro g a w hs K Q hK; have hb : Below w.heap.size w (w.alloc (.map #[] 0)) := (Below.refl _ _).alloc (le_refl _) _; obtain ⟨bs, _, h2, h3, _, h4, h5, h6, h7⟩ := gT (x := .tmp d1) hs h1; have bG := hs.move hb
  have hlb : ∀ k ∈ bs, k < w.heap.size := fun k hk => by
    obtain ⟨j, hj⟩ := List.getElem?_of_mem hk; have vJ : j < l.length := by rw [h3]; exact (List.getElem?_eq_some_iff.1 hj).1
    exact (Array.getElem?_eq_some_iff.1 (h7 j _ k (List.getElem?_eq_getElem vJ) hj)).1
  have hrl : (g r).1 < w.heap.size := (Array.getElem?_eq_some_iff.1 h6).1; unfold Oper.wp
  have xP : (execOp a.eval o).run c.P w = .ok (.value (.map (some w.heap.size))) (w.alloc (.map #[] 0)) := by
    simp [execOp, ho, Instr.makeMap]
  rw [xP]; refine hK g _ _ _ rfl (bG.put o.dst (zJ hd) ?_) hb
  have uJ : ∀ k, k < w.heap.size → (w.alloc (.map #[] 0)).heap[k]? = w.heap[k]? := fun k hk => hb.block k hk
  have := VRep.mm (w := w.alloc (.map #[] 0)) (q := qt c s.H g) (g := g) r c.w0.heap.size (l ++ [(kv, [])], l.length, some l.length) (bs ++ [w.heap.size]) h2 ⟨by simp [h3], by simp⟩ (fun k hk => by
    rcases List.mem_append.1 hk with hk | hk
    · exact h4 k hk
    · rw [mem_singleton] at hk
      subst hk
      exact ⟨hs.below.size, by omega⟩) (by
    rw [List.nodup_append]; refine ⟨h5, by simp, fun x hx y hy => ?_⟩; rw [mem_singleton] at hy; subst hy; have := hlb x hx
    omega) (by
    rw [uJ _ hrl, h6]
    congr 3
    show (yR l bs).take l.length = (yR (l ++ [(kv, [])]) (bs ++ [w.heap.size])).take l.length
    rw [qt8 h3, List.take_append_of_le_length (by rw [gK h3]; exact le_refl _)]) (fun j x k hj hk => by
    simp only at hj
    by_cases vJ : j < l.length
    · grind
    rw [List.getElem?_append_right zg] at hj hk
    cases hz : j - l.length with
    | succ n => rw [hz] at hj; simp at hj
    | zero =>
      rw [hz] at hj; rw [← h3, hz] at hk; simp at hj hk; subst hj hk
      exact heap_alloc_new w _)
  have e : gz (g r).1 (bs ++ [w.heap.size]) (some l.length) = w.heap.size := by
    simp [gz, h3]
  rw [← e]; exact this
variable {K : Type} [DecidableEq K] {enc : K → Value}
theorem q72 {t k e : TypeId} {b : Nat} {L : List (K × List (Int × Int))} {key : K} {w : World} (hk : qD9 P k enc) (hu : P.underlying t = some (.map k e)) (hi : Inf P e 1 bt (.map none)) (hl : L.length = bs.length) (hb : w.heap[b]? = some (.map (zB (yR (mmr enc L) bs)) L.length)) :
    (Instr.lookup t (.map (some b)) (enc key) false).run P w = .ok (match xV L key 0 with | none => .map none | some x => .map (bs[x.1]?)) w := by
  rw [qE0] at hb
  have hz := qn0 key L (bs.map fun k => Value.map (some k)) 0 (by simpa using hl)
  simp only [Instr.lookup, Sem.run_bind, run_underlying hu, Result.andThen_ok, wS hb, Sem.run_pure, hk.check, hk.find, hz]
  cases h : xV L key 0 with
  | none => simp [u0 hi]
  | some x =>
    have h1 := (List.getElem?_eq_some_iff.1 (uf (v := x.2) (i := x.1) h)).1; have h2 : x.1 < bs.length := by omega
    simp [List.getElem?_eq_getElem h2]
theorem qt9 {t k e : TypeId} {x y : Operand} {r N : Nat} {L : List (K × List (Int × Int))} {key : K} (hk : qD9 c.P k enc) (hu : c.P.underlying t = some (.map k e)) (hi : Inf c.P e 1 bt (.map none)) (ho : o.op = .lookup t x y false) (hx : s.ev x = some (.mm r N (mmr enc L, (mmr enc L).length, none))) (hy : ∀ g a w, Sim c g s a w → a.eval y = enc key) (hv : xV L key 0 = none) : RD c o s (.d (.p (.map none))) := fun g a w hs => by
  obtain ⟨bs, h1, h2, h3, _, h4, h5, h6, h7⟩ := gT hs hx; rw [take_of_length_le (by rw [gK h3]; exact le_refl _), length_map] at h6; refine ⟨_, .d _ _ (.p _), fun w' hb => ?_⟩; have zv := q72 (key := key) hk hu hi (by simpa using h3) ((hb.block _ (Array.getElem?_eq_some_iff.1 h6).1).trans h6); rw [hv] at zv; simp only [execOp, ho, h1, gz, hy g a w hs, Sem.run_bind, zv, Result.andThen_ok]; rfl
theorem vU {t k e : TypeId} {x y : Operand} {r N : Nat} {L : List (K × List (Int × Int))} {key : K} (hk : qD9 c.P k enc) (hu : c.P.underlying t = some (.map k e)) (hi : Inf c.P e 1 bt (.map none)) (ho : o.op = .lookup t x y false) (hx : s.ev x = some (.mm r N (mmr enc L, (mmr enc L).length, none))) (hy : ∀ g a w, Sim c g s a w → a.eval y = enc key) (hv : xV L key 0 = some (j, lj)) : RD c o s (.mm r N (mmr enc L, (mmr enc L).length, some j)) := fun g a w hs => by
  obtain ⟨bs, h1, h2, h3, h3', h4, h5, h6, h7⟩ := gT hs hx; have h0 := VRep.mm (w := w) (q := qt c s.H g) (g := g) r N (mmr enc L, (mmr enc L).length, some j) bs h2 ⟨h3, h3'⟩ h4 h5 h6 h7; rw [take_of_length_le (by rw [gK h3]; exact le_refl _), length_map] at h6
  have vJ : j < bs.length := by
    have := (List.getElem?_eq_some_iff.1 (uf hv)).1; rw [length_map] at h3; omega
  refine ⟨_, h0, fun w' hb => ?_⟩; have zv := q72 (key := key) hk hu hi (by simpa using h3) ((hb.block _ (Array.getElem?_eq_some_iff.1 h6).1).trans h6); rw [hv] at zv; simp only [execOp, ho, h1, gz, hy g a w hs, Sem.run_bind, zv, Result.andThen_ok, List.getElem?_eq_getElem vJ, getD_eq_getElem?_getD, getD_some]; rfl
theorem bv {t k e : TypeId} {x y : Operand} {L : List (K × List (Int × Int))} {key : K} (hk : qD9 c.P k enc) (hu : c.P.underlying t = some (.map k e)) (hi : Inf c.P e 1 bt (.map none)) (ho : o.op = .lookup t x y false) (hx : s.ev x = some (.d (.mm (mmr enc L)))) (hy : ∀ g a w, Sim c g s a w → a.eval y = enc key) (hv : xV L key 0 = some (j, lj)) : RD c o s (.d (.mp (zu vI lj))) := fun g a w hs => by
  obtain ⟨b, bs, h1, h2, h3, h4, h5, h6⟩ : ∃ b bs, a.eval x = .map (some b) ∧ (mmr enc L).length = bs.length ∧ (qt c s.H g b ∧ b < w.heap.size) ∧ (∀ k ∈ bs, qt c s.H g k ∧ k < w.heap.size) ∧ w.heap[b]? = some (.map (zB (yR (mmr enc L) bs)) (mmr enc L).length) ∧ ∀ (j : Nat) (x : Value × List (Value × Value)) (k : Nat), (mmr enc L)[j]? = some x → bs[j]? = some k → w.heap[k]? = some (.map (zB x.2) x.2.length) := by
    have h := hs.ev hx; generalize a.eval x = u at h
    cases h with
    | d _ _ h =>
      cases h with
      | mm _ b bs hq hl hqs hm hi => exact ⟨b, bs, rfl, hl, hq, hqs, hm, hi⟩
  rw [length_map] at h5; have wP := uf hv; have vJ : j < bs.length := by grind
  have hbj := List.getElem?_eq_getElem vJ; refine ⟨.map (some bs[j]), .d _ _ (.mp _ _ (h4 _ (List.getElem_mem vJ)) (h6 j (enc key, zu vI lj) _ (by rw [List.getElem?_map, wP]; rfl) hbj)), fun w' hb => ?_⟩; have zv := q72 (key := key) hk hu hi (by simpa using h2) ((hb.block _ h3.2).trans h5); rw [hv] at zv; simp only [execOp, ho, h1, hy g a w hs, Sem.run_bind, zv, Result.andThen_ok, hbj]; rfl
theorem qr2 {t k e : TypeId} {x y : Operand} {r N : Nat} {l : List (Value × List (Value × Value))} {key : Int} (hk : c.P.underlying k = some (.int kd)) (hu : c.P.underlying t = some (.map k e)) (hi : Inf c.P e 1 bt (.int .i64 0)) (ho : o.op = .lookup t x y true) (hx : s.ev x = some (.mm r N (l, m, some j))) (hj : l[j]? = some (kv, zu vI lj)) (hy : s.ev y = some (.i key)) : RD c o s (.tup [.i ((zK lj key).getD 0), .b (zK lj key).isSome]) := fun g a w hs => by
  obtain ⟨bs, h1, h2, h3, h3', h4, h5, h6, h7⟩ := gT hs hx; have vJ : j < bs.length := by rw [← h3]; exact (List.getElem?_eq_some_iff.1 hj).1
  have hm := h7 j _ _ hj (List.getElem?_eq_getElem vJ); have hye := VRep.p_eq (hs.ev hy); refine ⟨.tuple #[.int .i64 ((zK lj key).getD 0), .bool (zK lj key).isSome], ?_, fun w' hb => ?_⟩
  · refine .tup _ [.int .i64 ((zK lj key).getD 0), .bool (zK lj key).isSome] rfl fun j u z hu hz => ?_
    match j, hu, hz with
    | 0, hu, hz => simp at hu hz; subst hu hz; exact .d _ _ (.p _)
    | 1, hu, hz => simp at hu hz; subst hu hz; exact .d _ _ (.p _)
    | n + 2, hu, hz => simp at hu
  have zv := qg4 (ok := true) (key := key) (KeyOk.int hk) hu hi ((hb.block _ (Array.getElem?_eq_some_iff.1 hm).1).trans hm); have he : gz (g r).1 bs (some j) = bs[j] := by simp [gz, List.getElem?_eq_getElem vJ]
  simp only [execOp, ho, h1, he, hye, Sem.run_bind, zv, Result.andThen_ok]; rfl
theorem q90 {t k e : TypeId} {x y : Operand} {r N : Nat} {l : List (Value × List (Value × Value))} {key : Int} (hk : c.P.underlying k = some (.int kd)) (hu : c.P.underlying t = some (.map k e)) (hi : Inf c.P e 1 bt (.int .i64 0)) (ho : o.op = .lookup t x y true) (hx : s.ev x = some (.mm r N (l, m, some j))) (hj : l[j]? = some (kv, zu vI lj)) (hy : s.ev y = some (.i key)) (hv : zK lj key = some v) : RD c o s (.tup [.i v, .b true]) := by
  have h := qr2 hk hu hi ho hx hj hy; rw [hv] at h; exact h
theorem q73 {t k e : TypeId} {x y : Operand} {r N : Nat} {l : List (Value × List (Value × Value))} {key : Int} (hk : c.P.underlying k = some (.int kd)) (hu : c.P.underlying t = some (.map k e)) (hi : Inf c.P e 1 bt (.int .i64 0)) (ho : o.op = .lookup t x y true) (hx : s.ev x = some (.mm r N (l, m, some j))) (hj : l[j]? = some (kv, zu vI lj)) (hy : s.ev y = some (.i key)) (hv : zK lj key = none) : RD c o s (.tup [.i 0, .b false]) := by
  have h := qr2 hk hu hi ho hx hj hy; rw [hv] at h; exact h
theorem qn1 {t k e : TypeId} (w : World) (p : Option Nat) (h : P.underlying t = some (.map k e)) : (binOp .eql t (.map p) (.map none)).run P w = .ok (.bool p.isNone) w := by
  have h2 : ∀ n : Nat, (Op.equalIn (n + 1) t (.map p) (.map none)).run P w = .ok p.isNone w := fun n => by
    cases p <;> simp [Op.equalIn, run_underlying h]
  have h3 : (Op.equal t (.map p) (.map none)).run P w = .ok p.isNone w := h2 9999; simp only [binOp, Sem.run_bind, h3, Result.andThen_ok]; rfl
theorem jE0 {t t' k e : TypeId} {x y : Operand} {r N : Nat} {l : List (Value × List (Value × Value))} (hu : c.P.underlying t = some (.map k e)) (ho : o.op = .binOp .eql t x y t') (hx : s.ev x = some (.mm r N (l, m, some j))) (hy : s.ev y = some (.d (.p (.map none)))) : RP c o s (.b false) := fun g a w hs => by
  obtain ⟨bs, h1, _⟩ := gT hs hx; refine ⟨.bool false, .d _ _ (.p _), fun w' => ?_⟩; have h := qn1 w' (some (gz (g r).1 bs (some j))) hu; simp [execOp, ho, h1, VRep.p_eq (hs.ev hy), eqGuard, h]
theorem jF6 {t t' k e : TypeId} {x y : Operand} (hu : c.P.underlying t = some (.map k e)) (ho : o.op = .binOp .eql t x y t') (hx : s.ev x = some (.d (.p (.map none)))) (hy : s.ev y = some (.d (.p (.map none)))) : RP c o s (.b true) := fun g a w hs => by
  refine ⟨.bool true, .d _ _ (.p _), fun w' => ?_⟩; have h := qn1 w' none hu; simp [execOp, ho, VRep.p_eq (hs.ev hx), VRep.p_eq (hs.ev hy), eqGuard, h]
theorem qE1 {s : S} (hH : s.H.all (fun x => !V.mpsL x.2.cells) = true) : ∀ k row, fnd s.H k = some row → V.mpsL row.cells = false := fun k row hk => by
  have := List.all_eq_true.1 hH _ (vo hk)
  simpa using this
theorem qE2 {t k e : TypeId} {x y : Operand} {r N : Nat} {L : List (K × List (Int × Int))} {key : K} (hk : qD9 c.P k enc) (hu : c.P.underlying t = some (.map k e)) (ho : o.op = .mapUpdate t x y z) (hd : o.dst = none) (hx : s.ev x = some (.mm r N (mmr enc L, (mmr enc L).length, none))) (hy : ∀ g a w, Sim c g s a w → a.eval y = enc key) (hz : s.ev z = some (.mm r N (mmr enc L ++ [(enc key, [])], (mmr enc L).length, some (mmr enc L).length))) (hv : xV L key 0 = none)
    (hN : N = c.w0.heap.size) (hH : s.H.all (fun x => !V.mpsL x.2.cells) = true) (hK : V.mpsL s.K = false) : vm c o s (fun s' => s' = ⟨s.n, s.T.map (fun x => (x.1, gk r N (mmr enc (L ++ [(key, [])])) x.2)), s.H, s.K⟩) := by
  subst hN; intro g a w hs K' Q hK'; obtain ⟨bx, hxe, _⟩ := gT hs hx; obtain ⟨bs, h1, h2, h3, _, h4, h5, h6, h7⟩ := gT hs hz
  obtain ⟨bs, nb, rfl⟩ : ∃ bs' nb, bs = bs' ++ [nb] := by
    have zT : bs ≠ [] := by rintro rfl; simp at h3
    exact ⟨bs.dropLast, bs.getLast zT, (List.dropLast_concat_getLast zT).symm⟩
  have hl : (mmr enc L).length = bs.length := by simpa using h3
  have hl' : L.length = bs.length := by simpa using hl
  have hnb : gz (g r).1 (bs ++ [nb]) (some (mmr enc L).length) = nb := by simp [gz, hl']
  rw [hnb] at h1; rw [qt8 hl, List.take_append_of_le_length (by rw [gK hl]; exact le_refl _), take_of_length_le (by rw [gK hl]; exact le_refl _)] at h6; have zI : (mmr enc L).length = L.length := by simp
  have zv : (Instr.mapUpdate t (.map (some (g r).1)) (enc key) (.map (some nb))).run c.P w = .ok () { w with heap := w.heap.setIfInBounds (g r).1 (.map (zB (yR (mmr enc (L ++ [(key, [])])) (bs ++ [nb]))) (mmr enc (L ++ [(key, [])])).length) } := by
    have hz := qn0 key L (bs.map fun k => Value.map (some k)) 0 (by simpa using hl')
    have h6' := h6; rw [qE0] at h6'
    have e1 : ∀ (es : List (Value × Value)) (n : Nat) (v : Value), n = es.length → (zB es).push { key := enc key, val := v, born := n } = zB (es ++ [(enc key, v)]) := fun es n v hn => by rw [hn]; exact gc es _ _
    have e2 : mmr enc (L ++ [(key, [])]) = mmr enc L ++ [(enc key, [])] := by simp [mmr, zu]
    rw [e2, qt8 hl, qE0]; simp only [Instr.mapUpdate, Sem.run_bind, run_underlying hu, Result.andThen_ok, wS h6', hk.check, hk.find, hz, hv, Option.bind_none, yd _ h6']; rw [e1 _ _ _ (by simp [hl'])]; simp
  unfold Oper.wp
  have xP : (execOp a.eval o).run c.P w = .ok .skip { w with heap := w.heap.setIfInBounds (g r).1 (.map (zB (yR (mmr enc (L ++ [(key, [])])) (bs ++ [nb]))) (mmr enc (L ++ [(key, [])])).length) } := by
    simp only [execOp, ho, hxe, gz, hy g a w hs, h1, Sem.run_bind, zv, Result.andThen_ok]; rfl
  rw [xP]; simp only [Oper.upon, hd, Act.put]; have hrl : (g r).1 < w.heap.size := (Array.getElem?_eq_some_iff.1 h6).1; refine hK' g _ a _ rfl (hs.upMM h6 h2 (fun q => ?_) (qE1 hH) hK); have e2 : mmr enc (L ++ [(key, [])]) = mmr enc L ++ [(enc key, [])] := by simp [mmr, zu]
  have h3' : (mmr enc (L ++ [(key, [])])).length = (bs ++ [nb]).length := by rw [e2]; exact h3
  refine VRep.mm r _ (_, _, none) (bs ++ [nb]) h2 ⟨h3', le_refl _⟩ h4 h5 ?_ fun j x k hj hk => ?_
  · grind
  grind
omit [DecidableEq K] in
theorem bW {t k e : TypeId} {x y : Operand} {r N : Nat} {L : List (K × List (Int × Int))} {kj : K} {key : Int} (hk : c.P.underlying k = some (.int kd)) (hu : c.P.underlying t = some (.map k e)) (ho : o.op = .mapUpdate t x y z) (hd : o.dst = none) (hx : s.ev x = some (.mm r N (mmr enc L, (mmr enc L).length, some j))) (hj : L[j]? = some (kj, lj)) (hy : s.ev y = some (.i key)) (hz : s.ev z = some (.i v))
    (hN : N = c.w0.heap.size) (hH : s.H.all (fun x => !V.mpsL x.2.cells) = true) (hK : V.mpsL s.K = false) : vm c o s (fun s' => s' = ⟨s.n, s.T.map (fun x => (x.1, gk r N (mmr enc (L.set j (kj, vB lj key v))) x.2)), s.H, s.K⟩) := by
  subst hN; intro g a w hs K' Q hK'; obtain ⟨bs, h1, h2, h3, _, h4, h5, h6, h7⟩ := gT hs hx; have hjL : j < L.length := (List.getElem?_eq_some_iff.1 hj).1; have hl' : L.length = bs.length := by simpa using h3
  have vJ : j < bs.length := by omega
  have hbj := List.getElem?_eq_getElem vJ; have hjm : (mmr enc L)[j]? = some (enc kj, zu vI lj) := by rw [List.getElem?_map, hj]; rfl
  have hm := h7 j _ _ hjm hbj; have he : gz (g r).1 bs (some j) = bs[j] := by simp [gz, List.getElem?_eq_getElem vJ]
  have hko := KeyOk.int (P := c.P) hk
  have zv : (Instr.mapUpdate t (.map (some bs[j])) (.int .i64 key) (.int .i64 v)).run c.P w = .ok () { w with heap := w.heap.setIfInBounds bs[j] (.map (zB (zu vI (vB lj key v))) (zu vI (vB lj key v)).length) } := by
    have hf := fun w => hko.find lj key w
    simp only [Instr.mapUpdate, Sem.run_bind, run_underlying hu, Result.andThen_ok, wS hm, hko.check false key, hf]; unfold vB
    cases h : xQ lj key 0 with
    | none =>
      simp only [map_none, yd _ hm, gc]; simp [zu]
    | some p =>
      obtain ⟨i, v0⟩ := p; have wP : (zu vI lj)[i]? = some (.int .i64 key, .int .i64 v0) := by simp [zu, ub h]
      have hk0 : (((zB (zu vI lj))[i]?).map (·.key)).getD (.int .i64 key) = .int .i64 key := by rw [wF, wP]; rfl
      simp only [map_some, hk0, Instr.keyThatStays, hko.same key, if_true, Sem.run_bind, Sem.run_pure, Result.andThen_ok, yd _ hm, q69 _ _ _ _ _ _ wP]; simp [zu, map_set]
  unfold Oper.wp
  have xP : (execOp a.eval o).run c.P w = .ok .skip { w with heap := w.heap.setIfInBounds bs[j] (.map (zB (zu vI (vB lj key v))) (zu vI (vB lj key v)).length) } := by
    simp only [execOp, ho, h1, he, VRep.p_eq (hs.ev hy), VRep.p_eq (hs.ev hz), Sem.run_bind, zv, Result.andThen_ok]; rfl
  rw [xP]; simp only [Oper.upon, hd, Act.put]; have hrl : bs[j] < w.heap.size := (Array.getElem?_eq_some_iff.1 hm).1; have hbN := h4 _ (List.getElem_mem vJ); refine hK' g _ a _ rfl (hs.upMM hm hbN.1 (fun q => ?_) (qE1 hH) hK)
  have e1 : (mmr enc (L.set j (kj, vB lj key v))).map (·.1) = (mmr enc L).map (·.1) := by
    refine ext_getElem? fun i => ?_; simp only [List.getElem?_map, List.getElem?_set]
    by_cases e : j = i
    · grind
    simp [e]
  have e2 : yR (mmr enc (L.set j (kj, vB lj key v))) bs = yR (mmr enc L) bs := by unfold yR; rw [e1]
  have e3 : (mmr enc (L.set j (kj, vB lj key v))).length = (mmr enc L).length := by simp
  refine VRep.mm r _ (_, _, none) bs h2 ⟨by rw [e3]; exact h3, le_refl _⟩ h4 h5 ?_ fun i x k hi hk => ?_
  · grind
  grind [Option.some.injEq, Array.getElem?_setIfInBounds_self_of_lt, List.getElem?_eq_some_iff, List.getElem_inj, Array.getElem?_setIfInBounds_ne]
end
section
variable {c : Cx} {s : S} {o : Oper} {Q : Exit → S → Prop}
theorem kh {code : Code} (t : Nat) {r N : Nat} {l : List (Value × List (Value × Value))} (ht : fnd s.T t = some (.mm r N (l, n, none))) (hn : n = l.length) (hN : N = c.w0.heap.size) (h : AW c code Q ⟨s.n, (t, .d (.mm l)) :: s.T, s.H, s.K⟩) : AW c code Q s := by
  subst hN hn; intro g a w hs; refine h g a w ⟨hs.size, hs.defers, ?_, hs.nul, hs.obj, hs.keep, hs.inj, hs.base, hs.low, hs.below⟩; intro i v hv; simp only [fnd] at hv
  split at hv
  · rename_i e
    simp only [beq_iff_eq] at e; subst e; simp only [Option.some.injEq] at hv; subst hv; obtain ⟨x, h1, h2⟩ := hs.tmp _ _ ht; refine ⟨x, h1, ?_⟩
    have hq : ∀ (b : Nat) (es : Array MapEntry) (k : Nat), w.heap[b]? = some (.map es k) → c.w0.heap.size ≤ b → qt c s.H g b ∧ b < w.heap.size := fun b es k hm hb => by
      refine ⟨⟨fun ho => ?_, fun k row hk hn e => ?_⟩, (Array.getElem?_eq_some_iff.1 hm).1⟩
      · have := hs.low _ ho
        omega
      obtain ⟨arr, h3, _⟩ := hs.obj k row hk hn; rw [e, hm] at h3
      cases h3
    cases h2 with
    | mm _ _ _ bs h3 h4 h5 h6 h7 h8 =>
      have h4' : l.length = bs.length := h4.1; refine .d _ _ (.mm l _ bs (hq _ _ _ h7 h3) h4.1 (fun k hk => ?_) ?_ h8)
      · obtain ⟨j, hj⟩ := List.getElem?_of_mem hk
        have vJ : j < l.length := by rw [h4']; exact (List.getElem?_eq_some_iff.1 hj).1
        exact hq _ _ _ (h8 j _ k (List.getElem?_eq_getElem vJ) hj) (h5 k hk).1
      have h7' := h7; simp only at h7'; rw [take_of_length_le (by have := gK h4'; unfold yR at this; omega)] at h7'; exact h7'
  exact hs.tmp i v hv
theorem ki (r rm : Nat) {ops : Array Oper} {rest : List Oper} {t k e : TypeId} {x : Operand} {l : List (Value × List (Value × Value))} (hg : o.guard = none) (hu : c.P.underlying t = some (.map k e)) (ho : o.op = .range t x) (hx : s.ev x = some (.d (.mm l))) (hr : s.clean r = true) (hrm : s.clean rm = true) (zT : rm ≠ r) (hd : dok s o = true)
    (h : ∀ l' : List (Value × Value), l'.map (·.1) = l.map (·.1) → AL c ops rest Q (s.put o.dst (.mit r rm c.w0.heap.size l' []))) : AL c ops (o :: rest) Q s := by
  refine qN hg ?_; intro g a w hs K Q' hK
  obtain ⟨b, bs, hxe, hl, hm⟩ : ∃ b bs, a.eval x = .map (some b) ∧ l.length = bs.length ∧ w.heap[b]? = some (.map (zB (yR l bs)) l.length) := by
    have h := hs.ev hx; generalize a.eval x = u at h
    cases h with
    | d _ _ h2 =>
      cases h2 with
      | mm _ b bs _ h4 _ h5 _ => exact ⟨b, bs, rfl, h4, h5⟩
  have hl' := gK hl
  have qE3 : (yR l bs).map (·.1) = l.map (·.1) := by
    unfold yR; rw [List.map_fst_zip]; simp [hl]
  rw [← hl'] at hm; generalize yR l bs = l' at hm qE3; have hb : Below w.heap.size w (w.alloc (.mapIter (some b) l'.length #[] l'.length)) := (Below.refl _ _).alloc (le_refl _) _; have h1 := ((hs.move hb).regauge hrm (b, 0)).regauge hr (w.heap.size, 0); unfold Oper.wp
  have xP : (execOp a.eval o).run c.P w = .ok (.value (.pointer (some ⟨w.heap.size, 0, none⟩))) (w.alloc (.mapIter (some b) l'.length #[] l'.length)) := by
    simp only [execOp, ho, hxe, Sem.run_bind, run_range_map w t k e b (zB l') l'.length hu hm, Result.andThen_ok]; rfl
  rw [xP]; refine hK _ _ _ _ (h l' qE3) (h1.put o.dst (zJ hd) ?_)
  have := VRep.mit (w := w.alloc (.mapIter (some b) l'.length #[] l'.length)) (q := qt c s.H (fun k => if k = r then (w.heap.size, 0) else if k = rm then (b, 0) else g k)) (g := fun k => if k = r then (w.heap.size, 0) else if k = rm then (b, 0) else g k) r rm c.w0.heap.size l' [] (by simp; exact hs.below.size) (by simp only [if_true, if_neg zT]; exact heap_alloc_new w _) (by simp only [if_true, if_neg zT]; exact (hb.block _ (Array.getElem?_eq_some_iff.1 hm).1).trans hm)
  simpa using this
end
section
variable (r N : Nat) (L : List (Value × List (Value × Value)))
theorem qy8 (x : Value) : gk r N L (.d (.p x)) = .d (.p x) := rfl
theorem qh0 (a b : Nat) : gk r N L (.ref a b) = .ref a b := rfl
theorem qh1 (a b n : Nat) (z : Bool) : gk r N L (.own a b n z) = .own a b n z := rfl
theorem q91 : gk r N L .junk = .junk := rfl
theorem q92 (x y : Value) : gk r N L (.tup [.d (.p x), .d (.p y)]) = .tup [.d (.p x), .d (.p y)] := rfl
theorem q93 (x y : Value) : gk r N L (.agg [.d (.p x), .d (.p y)]) = .agg [.d (.p x), .d (.p y)] := rfl
theorem q94 (x y z u : Value) : gk r N L (.agg [.d (.p x), .d (.p y), .d (.p z), .d (.p u)]) = .agg [.d (.p x), .d (.p y), .d (.p z), .d (.p u)] := rfl
theorem q95 (N0 n : Nat) (l : List (Value × List (Value × Value))) : gk r N L (.mm r N0 (l, n, none)) = .mm r N (L, L.length, none) := by simp [gk]
theorem q96 (N0 n j : Nat) (l : List (Value × List (Value × Value))) : gk r N L (.mm r N0 (l, n, some j)) = .junk := by simp [gk]
theorem qy9 {x : D} (h : x.mps = false) : gk r N L (.d x) = .d x := by simp [gk, V.mps, h]
end
section
variable {c : Cx} {s : S} {Q : Exit → S → Prop} {ops : Array Oper} {L : List Oper} {need : Nat → Bool} {l : List (Nat × Nat)} {i : Nat} {o : Oper} {T : (Nat → Nat × Nat) → World → Prop}
def AT (T : (Nat → Nat × Nat) → World → Prop) (c : Cx) (ops : Array Oper) (Q : Exit → S → Prop) (need : Nat → Bool) (l : List (Nat × Nat)) (s : S) : Prop := ∀ g a w, Sim c g s a w → q88 c.P ops (QQ c Q) (T g) need l a w
theorem kl {id : Nat} {l : List Oper} (T : (Nat → Nat × Nat) → World → Prop) (order : List (Nat × Nat)) (need : Nat → Bool) (N : Nat) (hm : c.P.follows .mixedOrders = true) (yg : Region.noSelect l.toArray = true) (zI : order.length = l.length)
    (x6 : okF .any l.toArray need N order (Array.replicate l.length false) = true) (h : AT T c l.toArray Q need order s) : AW c (.region id l.toArray true) Q s := by
  intro g a w hs; refine wp_region_any hm ?_; have hs' : Sim c g s a w.drew := hs.move (Below.drew (Below.refl _ _))
  have := qb2 _ _ _ _ (qd1 (P := c.P) (Q := QQ c Q) (T := T g) (need := need) (md := .any) yg order (Array.replicate l.length false) a w.drew (by
    intro j oj _ hl; rw [Array.getD_eq_getD_getElem?, Array.getElem?_replicate] at hl
    split at hl <;> simp at hl) x6 (h g a _ hs'))
  rw [zI] at this
  simpa using this
theorem km {v : V} (hi : L[i]? = some o) (hg : o.guard = none) (hd : dok s o = true) (hp : noP Q) (h : RP c o s v) (hN : AT T c L.toArray Q need l (s.put o.dst v)) : AT T c L.toArray Q need ((i, 2) :: l) s := fun g a w hs => by
  obtain ⟨x, h1, h2⟩ := h g a w hs
  exact ⟨o, x, by simpa using hi, .inl ⟨by simp [Region.wanted, hg], fun w' _ => h2 w'⟩, yu hp _ _, hN g _ w (hs.put o.dst (zJ hd) h1)⟩
theorem ko {v : V} (hi : L[i]? = some o) (hg : o.guard = none) (hd : dok s o = true) (h : RD c o s v) (hN : AT T c L.toArray Q need l (s.put o.dst v)) : AT T c L.toArray Q need ((i, 0) :: l) s := fun g a w hs => by
  obtain ⟨x, h1, h2⟩ := h g a w hs; refine u6 (by simpa using hi) hg ?_; unfold Oper.wp; rw [h2 w (Below.refl _ _)]
  exact ⟨fun _ h => h, hN g _ w (hs.put o.dst (zJ hd) h1)⟩
variable {K : Type} [DecidableEq K] {enc : K → Value}
structure Ent (l : List (K × Int)) (key : K) (v : Int) (l1 : List (K × Int)) (j : Nat) : Prop where
  h : (xQ l key 0 = none ∧ v = 0 ∧ l1 = l ++ [(key, 0)] ∧ j = l.length) ∨ (xQ l key 0 = some (j, v) ∧ l1 = l)
theorem Ent.ex (l : List (K × Int)) (key : K) : ∃ v l1 j, Ent l key v l1 j ∧ v = (zK l key).getD 0 ∧ j ≤ l.length := by
  unfold zK
  cases h : xQ l key 0 with
  | none => exact ⟨0, _, _, ⟨.inl ⟨h, rfl, rfl, rfl⟩⟩, rfl, le_refl _⟩
  | some x => exact ⟨x.2, l, x.1, ⟨.inr ⟨h, rfl⟩⟩, rfl, Nat.le_of_lt (List.getElem?_eq_some_iff.1 (ub h)).1⟩
theorem Ent.get {l l1 : List (K × Int)} {key : K} (h : Ent l key v l1 j) : (zK l key).getD 0 = v ∧ (zK l1 key).getD 0 = v ∧ l1[j]? = some (key, v) ∧ vB l key = fun u => l1.set j (key, u) := by
  rcases h.h with ⟨h1, rfl, rfl, rfl⟩ | ⟨h1, rfl⟩
  · grind [zK, jj0, ju2]
  grind [zK, ub, vB]
def upS (r : Nat) (l : List (Value × Value)) (s : S) : S := ⟨s.n, s.T.map (fun x => (x.1, upM r l x.2)), s.H, s.K⟩
def TM (enc : K → Value) (r : Nat) (l l1 : List (K × Int)) : (Nat → Nat × Nat) → World → Prop := fun g w => ∃ l', (l' = l ∨ l' = l1) ∧ w.heap[(g r).1]? = some (.map (zB (zu enc l')) (zu enc l').length)
theorem jd9 (l : List (Value × Value)) (i : Nat) (h : i < l.length) : (zB l).findIdx? (fun e => ((e.born : Nat) : Int) == (i : Int)) = some i := by
  rw [Array.findIdx?_eq_some_iff_getElem]; have hs : i < (zB l).size := by rw [qg3]; exact h
  have hb : ∀ k (hk : k < (zB l).size), ((zB l)[k]'hk).born = k := fun k hk => by
    have h1 := wF l k; rw [Array.getElem?_eq_getElem hk] at h1; have h2 : k < l.length := by rwa [qg3] at hk
    rw [List.getElem?_eq_getElem h2, map_some, Option.some.injEq] at h1; rw [h1]
  refine ⟨hs, by rw [hb]; simp, fun k hk => ?_⟩; rw [hb]; simp; omega
theorem kr {t k e : TypeId} {bt r N i2 i3 i4 i5 i6 j d3 d5 : Nat} {L1 : List (K × Int)} {l1 : List (K × Int)} {key : K} {v u : Int} {x y : Operand} {o2 o3 o4 o5 o6 : Oper}
    (hE : Ent L1 key v l1 j) (hk : KeyOk c.P k enc) (hu : c.P.underlying t = some (.map k e)) (hi : Inf c.P e 1 bt (.int .i64 0))
    (h2 : L[i2]? = some o2) (h3 : L[i3]? = some o3) (h4 : L[i4]? = some o4) (h5 : L[i5]? = some o5) (h6 : L[i6]? = some o6)
    (q2 : o2.op = .lookup t x y false) (q4 : o4.op = .mapEntry t x y) (q6 : o6.op = .entryStore t x (.tmp d5) (.tmp d3))
    (g2 : o2.guard = none) (g3 : o3.guard = none) (g4 : o4.guard = none) (g5 : o5.guard = none) (g6 : o6.guard = none) (e6 : o6.dst = none) (n6 : need i6 = false)
    (hp : noP Q) (hd2 : dok s o2 = true) (hx : s.ev x = some (.mp r N (zu enc L1))) (hy : ∀ g a w, Sim c g s a w → a.eval y = enc key)
    (hd3 : dok (s.put o2.dst (.i v)) o3 = true) (r3 : RP c o3 (s.put o2.dst (.i v)) (.i u))
    (hd4 : dok ((s.put o2.dst (.i v)).put o3.dst (.i u)) o4 = true) (hx4 : ((s.put o2.dst (.i v)).put o3.dst (.i u)).ev x = some (.mp r N (zu enc L1))) (hy4 : ∀ g a w, Sim c g ((s.put o2.dst (.i v)).put o3.dst (.i u)) a w → a.eval y = enc key)
    (hN : N = c.w0.heap.size) (hH : s.H.all (fun x => !V.mpsL x.2.cells) = true) (hK : V.mpsL s.K = false)
    (hd5 : dok (upS r (zu enc l1) (((s.put o2.dst (.i v)).put o3.dst (.i u)).put o4.dst (.tup [.i v, .i j]))) o5 = true) (r5 : RP c o5 (upS r (zu enc l1) (((s.put o2.dst (.i v)).put o3.dst (.i u)).put o4.dst (.tup [.i v, .i j]))) (.i j))
    (hx6 : ((upS r (zu enc l1) (((s.put o2.dst (.i v)).put o3.dst (.i u)).put o4.dst (.tup [.i v, .i j]))).put o5.dst (.i j)).ev x = some (.mp r N (zu enc l1)))
    (hs6 : ((upS r (zu enc l1) (((s.put o2.dst (.i v)).put o3.dst (.i u)).put o4.dst (.tup [.i v, .i j]))).put o5.dst (.i j)).ev (.tmp d5) = some (.i j))
    (hv6 : ((upS r (zu enc l1) (((s.put o2.dst (.i v)).put o3.dst (.i u)).put o4.dst (.tup [.i v, .i j]))).put o5.dst (.i j)).ev (.tmp d3) = some (.i u))
    (hQ : Q .normal (upS r (zu enc (vB L1 key u)) ((upS r (zu enc l1) (((s.put o2.dst (.i v)).put o3.dst (.i u)).put o4.dst (.tup [.i v, .i j]))).put o5.dst (.i j)))) :
    AT (TM enc r L1 l1) c L.toArray Q need [(i2, 1), (i3, 2), (i4, 0), (i5, 2), (i6, 0)] s := by
  subst hN; obtain ⟨E1, E2, E3, E4⟩ := hE.get; intro g a w hs
  have qE3 : ∀ {s' : S} {l' : List (K × Int)} {a w}, Sim c g s' a w → s'.ev x = some (.mp r c.w0.heap.size (zu enc l')) → a.eval x = .map (some (g r).1) ∧ c.w0.heap.size ≤ (g r).1 ∧ w.heap[(g r).1]? = some (.map (zB (zu enc l')) (zu enc l').length) := by
    intro s' l' a w hs hx; have h := hs.ev hx; generalize a.eval x = u at h
    cases h with
    | mp _ _ _ hN hm => exact ⟨rfl, hN, hm⟩
  obtain ⟨x1, x2, x3⟩ := qE3 hs hx; refine ⟨o2, .int .i64 v, by simpa using h2, .inl ⟨by simp [Region.wanted, g2], fun w' hT => ?_⟩, ⟨L1, .inl rfl, x3⟩, yu hp _ _, ?_⟩
  · obtain ⟨l', hl', hb⟩ := hT
    have := qg4 (ok := false) (key := key) hk hu hi hb; simp only [execOp, q2, x1, hy g a w hs, Sem.run_bind, this, Result.andThen_ok]
    rcases hl' with rfl | rfl
    · rw [E1]; rfl
    rw [E2]; rfl
  have hs2 := hs.put o2.dst (zJ hd2) (v := .i v) (x := .int .i64 v) (.d _ _ (.p _)); obtain ⟨y3, z1, z2⟩ := r3 g _ w hs2; obtain rfl : y3 = .int .i64 u := by cases z1 with | d _ _ h => cases h; rfl
  refine ⟨o3, .int .i64 u, by simpa using h3, .inl ⟨by simp [Region.wanted, g3], fun w' _ => z2 w'⟩, yu hp _ _, ?_⟩; have hs3 := hs2.put o3.dst (zJ hd3) z1; obtain ⟨u1, u2, u3⟩ := qE3 hs3 hx4; generalize hA : (Act.put (Act.put a o2.dst (.int .i64 v)) o3.dst (.int .i64 u)) = A at *
  have zv : (Instr.mapEntry t (.map (some (g r).1)) (enc key)).run c.P w = .ok (.tuple #[.int .i64 v, goInt j]) { w with heap := w.heap.setIfInBounds (g r).1 (.map (zB (zu enc l1)) (zu enc l1).length) } := by
    simp only [Instr.mapEntry, Sem.run_bind, run_underlying hu, Result.andThen_ok, wS u3, hk.check, hk.find]
    rcases hE.h with ⟨h1, rfl, rfl, rfl⟩ | ⟨h1, rfl⟩
    · simp only [h1, map_none, u0 hi, Sem.run_bind, Result.andThen_ok, yd _ u3, gc]
      simp [zu]
    have wP : (zu enc l1)[j]? = some (enc key, .int .i64 v) := by simp [zu, ub h1]
    have hk0 : (((zB (zu enc l1))[j]?).map (·.key)).getD (enc key) = enc key := by rw [wF, wP]; rfl
    have jY1 : (zB (zu enc l1)).modify j (fun e => { e with key := enc key }) = zB (zu enc l1) := by
      apply Array.ext_getElem?; intro i; rw [Array.getElem?_modify]
      split
      · grind [wF]
      rfl
    simp only [h1, map_some, hk0, Instr.keyThatStays, hk.same, if_true, Sem.run_bind, Sem.run_pure, Result.andThen_ok, yd _ u3, jY1]; rw [wF, wP]; rfl
  refine u6 (by simpa using h4) g4 ?_; unfold Oper.wp
  have xP : (execOp A.eval o4).run c.P w = .ok (.value (.tuple #[.int .i64 v, goInt j])) { w with heap := w.heap.setIfInBounds (g r).1 (.map (zB (zu enc l1)) (zu enc l1).length) } := by
    simp only [execOp, q4, u1, hy4 g A w hs3, Sem.run_bind, zv, Result.andThen_ok]; rfl
  rw [xP]
  have k63 : VRep w (qt c ((s.put o2.dst (.i v)).put o3.dst (.i u)).H g) g (.tup [.i v, .i j]) (.tuple #[.int .i64 v, goInt j]) := by
    refine .tup [.i v, .i j] [.int .i64 v, .int .i64 j] rfl fun n p z hp hz => ?_
    match n, hp, hz with
    | 0, hp, hz => simp at hp hz; subst hp hz; exact .d _ _ (.p _)
    | 1, hp, hz => simp at hp hz; subst hp hz; exact .d _ _ (.p _)
    | n + 2, hp, hz => simp at hp
  have hs4 := hs3.put o4.dst (zJ hd4) k63; have zk : (g r).1 < w.heap.size := (Array.getElem?_eq_some_iff.1 u3).1
  have jC3 : ∀ k row, fnd s.H k = some row → V.mpsL row.cells = false := fun k row hk => by
    have := List.all_eq_true.1 hH _ (vo hk)
    simpa using this
  have jC4 : ∀ (s : S) d v, (s.put d v).H = s.H := fun s d v => by cases d <;> rfl
  have jC5 : ∀ (s : S) d v, (s.put d v).K = s.K := fun s d v => by cases d <;> rfl
  have jQ7 := hs4.upMap (r := r) (l' := zu enc l1) u3 u2 (fun k row hk => jC3 k row (by simpa only [jC4] using hk)) (by simpa only [jC5] using hK)
  refine ⟨fun _ _ => ⟨l1, .inr rfl, by simp [zk]⟩, ?_⟩; obtain ⟨y5, k1, k2⟩ := r5 g _ _ jQ7; obtain rfl : y5 = .int .i64 j := by cases k1 with | d _ _ h => cases h; rfl
  refine ⟨o5, .int .i64 j, by simpa using h5, .inl ⟨by simp [Region.wanted, g5], fun w' _ => k2 w'⟩, yu hp _ _, ?_⟩; have hs5 := jQ7.put o5.dst (zJ hd5) k1; obtain ⟨m1, m2, m3⟩ := qE3 hs5 hx6; have m4 := VRep.p_eq (hs5.ev hs6); have m5 := VRep.p_eq (hs5.ev hv6); refine u6 (by simpa using h6) g6 ?_; unfold Oper.wp
  have vJ : j < (zu enc l1).length := by rw [zu, length_map]; exact (List.getElem?_eq_some_iff.1 E3).1
  have jY2 : (zu enc l1)[j]? = some (enc key, .int .i64 v) := by simp [zu, E3]
  have k64 : (zB (zu enc l1)).modify j (fun e => { e with val := .int .i64 u }) = zB ((zu enc l1).set j (enc key, .int .i64 u)) := by
    rw [← q69 _ _ (enc key) (.int .i64 u) _ _ jY2]; apply Array.ext_getElem?; intro i; rw [Array.getElem?_modify, Array.getElem?_modify]
    split
    · grind [wF]
    rfl
  obtain ⟨A6, hA6⟩ : ∃ A6, A6 = Act.put (Act.put A o4.dst (.tuple #[.int .i64 v, goInt j])) o5.dst (.int .i64 j) := ⟨_, rfl⟩; rw [← hA6] at m1 m4 m5 hs5 ⊢; obtain ⟨W, hW⟩ : ∃ W, W = { w with heap := w.heap.setIfInBounds (g r).1 (.map (zB (zu enc l1)) (zu enc l1).length) } := ⟨_, rfl⟩; rw [← hW] at m3 hs5 ⊢
  have wJ : zu enc (vB L1 key u) = (zu enc l1).set j (enc key, .int .i64 u) := by rw [E4]; simp [zu, map_set]
  have jQ8 : (execOp A6.eval o6).run c.P W = .ok .skip { W with heap := W.heap.setIfInBounds (g r).1 (.map (zB (zu enc (vB L1 key u))) (zu enc (vB L1 key u)).length) } := by
    simp only [execOp, q6, m1, m4, m5, Instr.entryStore, Sem.run_bind, wS m3, Result.andThen_ok, asInt, asIntOf, goInt, Sem.run_pure, jd9 _ _ vJ, yd _ m3, k64, wJ]; simp
  rw [jQ8]; simp only [Oper.upon, e6, Act.put]
  have ur := hs5.upMap (r := r) (l' := zu enc (vB L1 key u)) m3 m2 (fun k row hk => jC3 k row (by simpa only [jC4, upS] using hk)) (by simpa only [jC5, upS] using hK)
  exact ⟨fun h => (by rw [n6] at h; cases h), ⟨g, _, hQ, ur⟩⟩
end
def je0 (a b : Ar) : Int := orI [yX a.i b.i, yX a.o b.o, yX a.t b.t, yX a.w b.w]
def ahd (a b : Ar) : Bool := if a.i ≠ b.i then decide (a.i < b.i) else if a.o ≠ b.o then decide (a.o < b.o) else if a.t ≠ b.t then decide (a.t < b.t) else decide (a.w < b.w)
theorem ju7 (a b : Ar) : (je0 a b < 0) ↔ ahd a b = true := by grind [je0, ahd, orI, ji2, jE2, js3]
theorem u7 {a b : Ar} : ahd a b = true ↔ a.i < b.i ∨ a.i = b.i ∧ (a.o < b.o ∨ a.o = b.o ∧ (a.t < b.t ∨ a.t = b.t ∧ a.w < b.w)) := by grind [ahd]
theorem qn2 {a b x : Ar} (h1 : ahd a b = false) (h2 : ahd b x = false) : ahd a x = false := by
  rw [Bool.eq_false_iff] at h1 h2 ⊢; rw [ne_eq, u7] at h1 h2 ⊢; omega
def q74 (l : List Ar) (k : Nat) : Ar := l.getD k ⟨0, 0, 0, 0⟩
theorem bX {l : List Ar} {a : Ar} (h : l[k]? = some a) : q74 l k = a := by simp [q74, List.getD_eq_getElem?_getD, h]
def uN (l : List Ar) : Nat → Bool
  | 0 => true
  | k + 1 => uN l k && (l.take k).all fun b => !ahd (q74 l k) b
def uA (l : List Ar) : Nat → Bool
  | 0 => true
  | k + 1 => uA l k && (l.take k).all fun b => !(decide ((q74 l k).i = b.i) && decide ((q74 l k).o = b.o))
def bY (l : List Ar) : Nat → Bool
  | 0 => true
  | k + 1 => if k + 1 < l.length then (!ahd (q74 l (k + 1)) (q74 l k)) && bY l k else bY l k
theorem j56 {l : List Ar} : ∀ {k : Nat}, bY l k = true ↔ ∀ i, i < k → i + 1 < l.length → ahd (q74 l (i + 1)) (q74 l i) = false
  | 0 => by simp [bY]
  | k + 1 => by
    have ih := j56 (l := l) (k := k); simp only [bY]
    constructor
    · grind
    grind
theorem j57 {l : List Ar} : ∀ {k : Nat}, k ≤ l.length → (uN l k = true ↔ ∀ i j, j < i → i < k → ahd (q74 l i) (q74 l j) = false)
  | 0, _ => by simp [uN]
  | k + 1, hk => by
    have ih := j57 (l := l) (k := k) zg; simp only [uN, and_eq_true, ih, all_eq_true, Bool.not_eq_true']
    constructor
    · rintro ⟨h1, h2⟩ i j hj hi
      by_cases e : i = k
      · subst e
        refine h2 _ ?_; have hx : l[j]? = some l[j] := List.getElem?_eq_getElem zg; rw [bX hx]; exact mem_of_getElem? (i := j) (by rw [List.getElem?_take_of_lt hj]; exact hx)
      exact h1 i j hj zg
    grind [List.getElem?_of_mem, List.getElem?_eq_some_iff, List.getElem?_take_of_lt, bX]
theorem jF7 (l : List Ar) : bY l l.length = uN l l.length := by
  rw [Bool.eq_iff_iff, j56, j57 (le_refl _)]
  constructor
  · intro h i
    induction i with
    | zero => intro j hj; omega
    | succ i ih =>
      intro j hj hi
      by_cases e : j = i
      · subst e; exact h j zg hi
      grind [qn2]
  intro h i hi hl; exact h (i + 1) i zg hl
theorem j58 {l : List Ar} : ∀ {k : Nat}, l.length ≤ k + 1 → bY l k = bY l (l.length - 1)
  | 0, h => by rw [show l.length - 1 = 0 by omega]
  | k + 1, h => by
    by_cases e : k + 1 = l.length - 1
    · rw [e]
    simp only [bY, if_neg (show ¬ k + 1 < l.length by omega)]
    exact j58 zg
def bZ (p : Int × Int) (l : List Ar) : Nat := (l.filter fun a => decide ((a.i, a.o) = p)).length
theorem jj9 {l : List Ar} {i : Nat} {a : Ar} (h : l[i]? = some a) (p : Int × Int) : bZ p (l.take (i + 1)) = bZ p (l.take i) + if p = (a.i, a.o) then 1 else 0 := by
  rw [x5 h]; unfold bZ
  by_cases e : (a.i, a.o) = p
  · simp [e]
  simp [e, Ne.symm e]
theorem jF8 (p : Int × Int) (l : List Ar) : bZ p l ≤ l.length := List.length_filter_le _ _
theorem jk0 {a : Ar} {l : List Ar} : decide (bZ (a.i, a.o) l = 0) = l.all fun b => !(decide (a.i = b.i) && decide (a.o = b.o)) := by
  rw [Bool.eq_iff_iff, decide_eq_true_iff, all_eq_true]; unfold bZ; rw [List.length_eq_zero_iff, List.filter_eq_nil_iff]
  constructor
  · grind
  grind
section
variable {K : Type} [DecidableEq K]
theorem qJ3 (k : K) (u : Int) (l : List (K × Int)) (a : K) (v : Int) : vB ((k, u) :: l) a v = if a = k then (a, v) :: l else (k, u) :: vB l a v := by grind [vB, xQ, uH]
theorem gU (a : K) (v : Int) (b : K) : ∀ l : List (K × Int), zK (vB l a v) b = if b = a then some v else zK l b
  | [] => by
    have : vB ([] : List (K × Int)) a v = [(a, v)] := rfl; rw [this, yF]
  | (k, u) :: l => by
    rw [qJ3]
    by_cases e : a = k
    · grind [yF]
    rw [if_neg e, yF, gU a v b l, yF]
    by_cases e2 : b = k
    · grind
    rw [if_neg e2, if_neg e2]
theorem qU8 (a : K) (v : Int) : ∀ l : List (K × Int), (vB l a v).length ≤ l.length + 1
  | [] => by simp [vB, xQ]
  | (k, u) :: l => by
    rw [qJ3]; have := qU8 a v l
    split <;> simp
    omega
end
structure Seen (M : List ((Int × Int) × Int)) (l : List Ar) : Prop where
  cnt : ∀ p, (zK M p).getD 0 = (bZ p l : Int)
  len : M.length ≤ l.length
theorem Seen.nil : Seen [] [] := ⟨fun p => rfl, le_refl _⟩
theorem Seen.step {M : List ((Int × Int) × Int)} {l : List Ar} {i : Nat} {a : Ar} (h : Seen M (l.take i)) (ha : l[i]? = some a) : Seen (vB M (a.i, a.o) ((bZ (a.i, a.o) (l.take i) : Int) + 1)) (l.take (i + 1)) := by
  refine ⟨fun p => ?_, ?_⟩
  · rw [gU, jj9 ha]
    by_cases e : p = (a.i, a.o)
    · subst e; simp
    rw [if_neg e, if_neg e, h.cnt p]; simp
  have h1 := qU8 (a.i, a.o) ((bZ (a.i, a.o) (l.take i) : Int) + 1) M; have h2 := h.len; have h3 := (List.getElem?_eq_some_iff.1 ha).1; rw [length_take] at h2 ⊢; omega
def fA (a : Ar) : Bool := decide (a.i = a.o)
def fF (a : Ar) : Bool := !(decide (a.i = 0) && decide (a.o = 0))
def fW (a : Ar) : Bool := decide (a.w = 0)
def fP (x : Int) : Bool := decide (x = 0) || decide (x = 1000000001)
def bA (sts : List St) : Bool := sts.all fun s => s.arcs.all fA
def bFl (sts : List St) : Bool := sts.all fun s => s.arcs.all fF
def bPl (sts : List St) : Bool := sts.all fun s => fP s.fin && s.arcs.all fW
def bSo (sts : List St) : Bool := sts.all fun s => uN s.arcs s.arcs.length
def bDi (sts : List St) : Bool := sts.all fun s => uA s.arcs s.arcs.length
theorem w7 {α : Type} {l : List α} {i : Nat} {a : α} (f : α → Bool) (h : l[i]? = some a) : (l.take (i + 1)).all f = ((l.take i).all f && f a) := by rw [x5 h]; simp [List.all_append]
theorem ju8 {l : List Ar} {i : Nat} {a : Ar} (h : l[i]? = some a) : uA l (i + 1) = (uA l i && decide (bZ (a.i, a.o) (l.take i) = 0)) := by
  rw [jk0]; simp only [uA, bX h]
def xW (l : List (ByteArray × Int)) : List (Value × Value) := l.map fun x => (.string x.1, .agg #[.int .i64 x.2])
theorem qn3 (a : ByteArray) : ∀ (l : List (ByteArray × Int)) (i j : Nat), Instr.findNow .string (.string a) (((xW l).zipIdx j).map fun x => ({ key := x.1.1, val := x.1.2, born := x.2 } : MapEntry)) i = some ((xQ l a i).map fun x => (x.1, .agg #[.int .i64 x.2]))
  | [], i, j => rfl
  | (k, v) :: l, i, j => by
    simp only [xW, map_cons, zipIdx_cons, Instr.findNow, Instr.sameNow, xQ]
    by_cases e : a = k
    · subst e; simp [jj2]
    have : (a == k) = false := by rw [jj2]; simpa using e
    simp only [this, if_neg e]; exact qn3 a l (i + 1) (j + 1)
theorem qh2 {k : TypeId} (hu : P.underlying k = some .string) (b : Bool) (a : ByteArray) (w : World) : (Instr.checkKey b 10000 k (.string a)).run P w = .ok () w := by
  have : ∀ n : Nat, (Instr.checkKey b (n + 1) k (.string a)).run P w = .ok () w := fun n => by simp [Instr.checkKey, run_underlying hu]
  exact this 9999
theorem qn4 {k : TypeId} (hu : P.underlying k = some .string) (l : List (ByteArray × Int)) (a : ByteArray) (w : World) : (Instr.findKey k (.string a) (zB (xW l)).toList).run P w = .ok ((xQ l a 0).map fun x => (x.1, .agg #[.int .i64 x.2])) w := by
  have := qn3 a l 0 0; simp only [Instr.findKey, Sem.run_bind, run_underlying hu, Result.andThen_ok, zB, List.toList_toArray, this]; rfl
section
variable {c : Cx} {s : S} {o : Oper}
theorem j23 {t k e : TypeId} {b : Nat} {l : List (ByteArray × Int)} {key : ByteArray} {ok : Bool} {w : World} (hk : P.underlying k = some .string) (hu : P.underlying t = some (.map k e)) (hi : Inf P e 1 bt (.agg #[.int .i64 0])) (hb : w.heap[b]? = some (.map (zB (xW l)) (xW l).length)) :
    (Instr.lookup t (.map (some b)) (.string key) ok).run P w = .ok (if ok then .tuple #[.agg #[.int .i64 ((zK l key).getD 0)], .bool (zK l key).isSome] else .agg #[.int .i64 ((zK l key).getD 0)]) w := by
  simp only [Instr.lookup, Sem.run_bind, run_underlying hu, Result.andThen_ok, wS hb, Sem.run_pure, qh2 hk, qn4 hk]; unfold zK
  cases h : xQ l key 0 with
  | none => cases ok <;> simp [u0 hi]
  | some x => cases ok <;> simp
theorem qz0 {t k e : TypeId} {x y : Operand} {r N : Nat} {l : List (ByteArray × Int)} {v : V} (hk : c.P.underlying k = some .string) (hu : c.P.underlying t = some (.map k e)) (hi : Inf c.P e 1 bt (.agg #[.int .i64 0])) (ho : o.op = .lookup t x y true) (hx : s.ev x = some (.mp r N (xW l))) (hy : s.ev y = some (.s key))
    (hv : v = .tup [.agg [.i ((zK l key).getD 0)], .b (zK l key).isSome]) : RD c o s v := fun g a w hs => by
  have hx' : ∃ b, a.eval x = .map (some b) ∧ w.heap[b]? = some (.map (zB (xW l)) (xW l).length) := by
    have h := hs.ev hx; generalize a.eval x = u at h
    cases h with
    | mp _ _ _ hN hm => exact ⟨_, rfl, hm⟩
  obtain ⟨b, hxe, hm⟩ := hx'; have hye := VRep.p_eq (hs.ev hy); subst hv; refine ⟨.tuple #[.agg #[.int .i64 ((zK l key).getD 0)], .bool (zK l key).isSome], ?_, fun w' hb => ?_⟩
  · refine .tup _ [.agg #[.int .i64 ((zK l key).getD 0)], .bool (zK l key).isSome] rfl fun j u z hu hz => ?_
    match j, hu, hz with
    | 0, hu, hz =>
      simp at hu hz; subst hu hz; refine .agg _ [.int .i64 ((zK l key).getD 0)] rfl fun j u z hu hz => ?_
      match j, hu, hz with
      | 0, hu, hz => simp at hu hz; subst hu hz; exact .d _ _ (.p _)
      | n + 1, hu, hz => simp at hu
    | 1, hu, hz => simp at hu hz; subst hu hz; exact .d _ _ (.p _)
    | n + 2, hu, hz => simp at hu
  have := j23 (ok := true) (key := key) hk hu hi ((hb.block _ (Array.getElem?_eq_some_iff.1 hm).1).trans hm); simp only [execOp, ho, hxe, hye, Sem.run_bind, this, Result.andThen_ok]; rfl
theorem qc3 {t k e : TypeId} {x y : Operand} {r N : Nat} {l : List (ByteArray × Int)} {v : Int} (hk : c.P.underlying k = some .string) (hu : c.P.underlying t = some (.map k e)) (hi : Inf c.P e 1 bt (.agg #[.int .i64 0])) (ho : o.op = .lookup t x y true) (hx : s.ev x = some (.mp r N (xW l))) (hy : s.ev y = some (.s key))
    (hv : zK l key = some v) : RD c o s (.tup [.agg [.i v], .b true]) := qz0 hk hu hi ho hx hy (by rw [hv]; rfl)
theorem q97 {t k e : TypeId} {x y : Operand} {r N : Nat} {l : List (ByteArray × Int)} (hk : c.P.underlying k = some .string) (hu : c.P.underlying t = some (.map k e)) (hi : Inf c.P e 1 bt (.agg #[.int .i64 0])) (ho : o.op = .lookup t x y true) (hx : s.ev x = some (.mp r N (xW l))) (hy : s.ev y = some (.s key))
    (hv : zK l key = none) : RD c o s (.tup [.agg [.i 0], .b false]) := qz0 hk hu hi ho hx hy (by rw [hv]; rfl)
theorem qj7 {t k e : TypeId} {x y : Operand} {r N : Nat} {l : List (ByteArray × Int)} (hk : c.P.underlying k = some .string) (hu : c.P.underlying t = some (.map k e)) (ho : o.op = .mapUpdate t x y z) (hd : o.dst = none) (hx : s.ev x = some (.mp r N (xW l))) (hy : s.ev y = some (.s key)) (hz : s.ev z = some (.agg [.i v])) (hm0 : zK l key = none)
    (hN : N = c.w0.heap.size) (hH : s.H.all (fun x => !V.mpsL x.2.cells) = true) (hK : V.mpsL s.K = false) : vm c o s (fun s' => s' = ⟨s.n, s.T.map (fun x => (x.1, upM r (xW (l ++ [(key, v)])) x.2)), s.H, s.K⟩) := by
  subst hN; intro g a w hs K' Q hK'
  have hx' : a.eval x = .map (some (g r).1) ∧ c.w0.heap.size ≤ (g r).1 ∧ w.heap[(g r).1]? = some (.map (zB (xW l)) (xW l).length) := by
    have h := hs.ev hx; generalize a.eval x = u at h
    cases h with
    | mp _ _ _ hN hm => exact ⟨rfl, hN, hm⟩
  obtain ⟨hxe, hNb, hm⟩ := hx'; have hye := VRep.p_eq (hs.ev hy)
  have hze : a.eval z = .agg #[.int .i64 v] := by
    have h := hs.ev hz; generalize a.eval z = u at h
    cases h with
    | agg _ cs zI hh =>
      match cs, zI with
      | [q], _ => rw [VRep.p_eq (hh 0 _ q rfl rfl)]
  have hnf : xQ l key 0 = none := by simpa [zK] using hm0
  have zv : (Instr.mapUpdate t (.map (some (g r).1)) (.string key) (.agg #[.int .i64 v])).run c.P w = .ok () { w with heap := w.heap.setIfInBounds (g r).1 (.map (zB (xW (l ++ [(key, v)]))) (xW (l ++ [(key, v)])).length) } := by
    simp only [Instr.mapUpdate, Sem.run_bind, run_underlying hu, Result.andThen_ok, wS hm, qh2 hk, qn4 hk, hnf, map_none, yd _ hm, gc]; simp [xW]
  unfold Oper.wp
  have xP : (execOp a.eval o).run c.P w = .ok .skip { w with heap := w.heap.setIfInBounds (g r).1 (.map (zB (xW (l ++ [(key, v)]))) (xW (l ++ [(key, v)])).length) } := by
    simp only [execOp, ho, hxe, hye, hze, Sem.run_bind, zv, Result.andThen_ok]; rfl
  rw [xP]; simp only [Oper.upon, hd, Act.put]; refine hK' g _ a _ rfl (hs.upMap hm hNb (fun k row hk => ?_) hK); have := List.all_eq_true.1 hH _ (vo hk)
  simpa using this
theorem jb7 {x : Operand} {t : TypeId} {k e : TypeId} {r N n : Nat} {l : List (ByteArray × Int)} (hu : c.P.underlying t = some (.map k e)) (ho : o.op = .call { callee := .builtin .len, args := #[x], argTypes := #[t] }) (hx : s.ev x = some (.mp r N (xW l))) (hn : l.length = n) : RD c o s (.i (n : Int)) := fun g a w hs => by
  subst hn
  have hx' : ∃ b, a.eval x = .map (some b) ∧ w.heap[b]? = some (.map (zB (xW l)) (xW l).length) := by
    have h := hs.ev hx; generalize a.eval x = u at h
    cases h with
    | mp _ _ _ hN hm => exact ⟨_, rfl, hm⟩
  obtain ⟨b, hxe, hm⟩ := hx'; refine ⟨.int .i64 (l.length : Int), .d _ _ (.p _), fun w' hb => qe3 ho ?_⟩; have hm' : w'.heap[b]? = some (.map (zB (xW l)) (xW l).length) := (hb.block _ (Array.getElem?_eq_some_iff.1 hm).1).trans hm; have hl : (xW l).length = l.length := by simp [xW]
  rw [hxe]; simp [Builtin.len_, run_underlying hu, wS hm', qg3, hl]
end
theorem qz1 (w : World) (k : Nat) (os : Array Obj) : Below w.heap.size w (grow (w.drewN k) os) :=
  ⟨rfl, rfl, rfl, by simp [grow, World.drewN], fun k hk => by simp [grow, World.drewN, Array.getElem?_append_left hk]⟩
def uj : World → Prop := fun w => Lib.TabIs prog w "internal/strconv.uint64pow10" .u64 Lib.pow10Tab
theorem j59 (n : Nat) (h : n ≤ 1000000001) : FnP uj prog 40 [.i (n : Int)] (fun v => v = .s (vu n)) :=
  FnP.ofCalls (xs := [.int .i64 (n : Int)]) (y := .string (vu n)) (fun w hw => (qG8 (n : Int) zg zg w hw).mono fun e w' ⟨he, k, os, hw'⟩ => ⟨by
    rw [he]; have : (⟨(Lib.itoa (n : Int)).toArray⟩ : ByteArray) = vu n := by unfold Lib.itoa vu; rw [if_neg zg]; simp only [Int.toNat_natCast]
    rw [this], by rw [hw']; exact qz1 _ _ _⟩) (fun _ _ _ zs h => by
    obtain ⟨h1, h2⟩ := h
    match zs, h1, h2 with
    | [z], _, h2 => rw [VRep.p_eq (h2 0 _ z rfl rfl)]) (fun _ _ _ => .d _ _ (.p _)) zT8
theorem jF9 (a : Ar) : ahd a a = false := by
  rw [Bool.eq_false_iff, ne_eq, u7]; omega
theorem qJ4 {a b : Ar} (h1 : ahd a b = false) (h2 : ahd b a = false) : a = b := by
  rw [Bool.eq_false_iff, ne_eq, u7] at h1 h2; obtain ⟨ai, ao, aw, at'⟩ := a; obtain ⟨bi, bo, bw, bt⟩ := b; simp only at h1 h2; obtain rfl : ai = bi := by omega
  obtain rfl : ao = bo := by omega
  obtain rfl : at' = bt := by omega
  obtain rfl : aw = bw := by omega
  rfl
theorem qU9 {a b : Ar} (h : ahd a b = true) : ahd b a = false := by
  rw [Bool.eq_false_iff, ne_eq, u7]; rw [u7] at h; omega
theorem je1 {a b x : Ar} (h1 : ahd a b = true) (h2 : ahd b x = true) : ahd a x = true := by
  rw [u7] at *; omega
structure Tot (lt : Ar → Ar → Bool) : Prop where
  irr : ∀ a, lt a a = false
  tr : ∀ a b x, lt a b = false → lt b x = false → lt a x = false
  one : ∀ a b, lt a b = false → lt b a = false → a = b
  asy : ∀ a b, lt a b = true → lt b a = false
theorem qE4 : Tot ahd := ⟨jF9, fun _ _ _ => qn2, fun _ _ => qJ4, fun _ _ => qU9⟩
abbrev Sd (lt : Ar → Ar → Bool) (l : List Ar) : Prop := l.Pairwise fun x y => lt y x = false
theorem qE5 {lt : Ar → Ar → Bool} (hT : Tot lt) : ∀ {l l' : List Ar}, Sd lt l → Sd lt l' → l.Perm l' → l = l'
  | [], l', _, _, h => (List.Perm.nil_eq h)
  | x :: l, [], _, _, h => by have := h.length_eq; simp at this
  | x :: l, y :: l', h1, h2, h => by
    have a1 := List.pairwise_cons.1 h1; have a2 := List.pairwise_cons.1 h2
    have hxy : x = y := by
      have hx : x ∈ y :: l' := h.mem_iff.1 zx; have hy : y ∈ x :: l := h.mem_iff.2 zx
      rcases List.mem_cons.1 hx with e | hx
      · exact e
      rcases List.mem_cons.1 hy with e | hy
      · exact e.symm
      exact hT.one _ _ (a2.1 x hx) (a1.1 y hy)
    subst hxy; rw [qE5 hT a1.2 a2.2 (List.Perm.cons_inv h)]
def plc (a : Ar) : List Ar → List Ar
  | [] => [a]
  | x :: l => if ahd a x = true then a :: x :: l else x :: plc a l
theorem qh3 (a : Ar) : ∀ l : List Ar, (plc a l).Perm (a :: l)
  | [] => List.Perm.refl _
  | x :: l => by
    unfold plc
    split
    · exact List.Perm.refl _
    exact (List.Perm.cons x (qh3 a l)).trans (List.Perm.swap a x l)
theorem jk1 (a : Ar) : ∀ {l : List Ar}, Sd ahd l → Sd ahd (plc a l)
  | [], _ => by simp [plc]
  | x :: l, h => by
    have h1 := List.pairwise_cons.1 h; unfold plc
    split
    · grind [List.pairwise_cons, qU9, qn2]
    rename_i hx
    refine List.pairwise_cons.2 ⟨fun y hy => ?_, jk1 a h1.2⟩
    rcases List.mem_cons.1 ((qh3 a l).mem_iff.1 hy) with rfl | hy
    · simpa using hx
    exact h1.1 y hy
theorem jk2 {a : Ar} {B : List Ar} : ∀ {A : List Ar}, (∃ y ∈ A, ahd a y = true) → plc a (A ++ B) = plc a A ++ B
  | [], h => by obtain ⟨y, hy, _⟩ := h; cases hy
  | x :: A, h => by
    simp only [cons_append, plc]
    split
    · simp
    rename_i hx
    obtain ⟨y, hy, zk⟩ := h
    rcases List.mem_cons.1 hy with rfl | hy
    · exact absurd zk hx
    rw [jk2 ⟨y, hy, zk⟩]; simp
theorem qV0 {a : Ar} {B : List Ar} : ∀ {A : List Ar}, (∀ y ∈ A, ¬ ahd a y = true) → plc a (A ++ B) = A ++ plc a B
  | [], _ => rfl
  | x :: A, h => by
    simp only [cons_append, plc]
    rw [if_neg (h x zx), qV0 fun y hy => h y (by simp [hy])]
theorem j60 (a : Ar) (l : List Ar) : (plc a l).length = l.length + 1 := by
  have := (qh3 a l).length_eq
  simpa using this
def inO (l : List Ar) : List Ar := l.foldl (fun out a => plc a out) []
theorem ju9 {l : List Ar} {i : Nat} {a : Ar} (h : l[i]? = some a) : inO (l.take (i + 1)) = plc a (inO (l.take i)) := by rw [x5 h]; simp [inO]
theorem qV1 (l : List Ar) : ∀ out : List Ar, Sd ahd out → Sd ahd (l.foldl (fun out a => plc a out) out) ∧ (l.foldl (fun out a => plc a out) out).Perm (l ++ out) := by
  induction l with
  | nil => intro out h; exact ⟨h, List.Perm.refl _⟩
  | cons a l ih =>
    intro out h; obtain ⟨h1, h2⟩ := ih (plc a out) (jk1 a h); refine ⟨h1, h2.trans ?_⟩; exact (List.Perm.append_left l (qh3 a out)).trans List.perm_middle
theorem qd4 (l : List Ar) : Sd ahd (inO l) := (qV1 l [] List.Pairwise.nil).1
theorem gM (l : List Ar) : (inO l).Perm l := by
  have := (qV1 l [] List.Pairwise.nil).2
  rwa [append_nil] at this
theorem gg (l : List Ar) : (inO l).length = l.length := (gM l).length_eq
def lst : List Ar → List Ar
  | [] => []
  | a :: l => a :: lstA a l
where
  lstA : Ar → List Ar → List Ar
  | _, [] => []
  | p, b :: l => if b.i = p.i ∧ b.o = p.o ∧ b.t = p.t then lstA b l else b :: lstA b l
def alk (b p : Ar) : Bool := decide (b.i = p.i ∧ b.o = p.o ∧ b.t = p.t)
theorem qJ5 : ∀ {r : List Ar} {i : Nat} {a x p : Ar}, r[i]? = some x → (a :: r)[i]? = some p → lst.lstA a (r.take (i + 1)) = lst.lstA a (r.take i) ++ (if alk x p = true then [] else [x])
  | [], i, a, x, p, hx, _ => by simp at hx
  | y :: r, 0, a, x, p, hx, hp => by
    simp at hx hp; subst hx hp; simp only [List.take_succ_cons, take_zero, lst.lstA, alk, decide_eq_true_eq, nil_append]
  | y :: r, i + 1, a, x, p, hx, hp => by
    have ih := qJ5 (r := r) (i := i) (a := y) (x := x) (p := p) (by simpa using hx) (by simpa using hp); simp only [List.take_succ_cons] at ih ⊢; simp only [lst.lstA]
    split
    · exact ih
    rw [ih]; rfl
theorem jv0 {l : List Ar} {i : Nat} {x p : Ar} (hx : l[i + 1]? = some x) (hp : l[i]? = some p) : lst (l.take (i + 2)) = lst (l.take (i + 1)) ++ (if alk x p = true then [] else [x]) := by
  cases l with
  | nil => simp at hx
  | cons a r =>
    simp only [List.take_succ_cons, lst]; rw [qJ5 (by simpa using hx) hp]; rfl
theorem jG0 {l : List Ar} {x : Ar} (hx : l[0]? = some x) : lst (l.take 1) = [x] := by
  cases l with
  | nil => simp at hx
  | cons a r => simp at hx; subst hx; rfl
theorem qV2 : ∀ (l : List Ar) (a : Ar), (lst.lstA a l).length ≤ l.length
  | [], _ => le_refl _
  | b :: l, a => by
    have := qV2 l b; simp only [lst.lstA]
    split <;> simp <;> omega
theorem j61 (l : List Ar) : (lst l).length ≤ l.length := by
  cases l with
  | nil => exact le_refl _
  | cons a l => have := qV2 l a; simp [lst]; exact this
def inL (l : List Ar) : List Ar := lst (inO l)
def qz2 : Value → Bool
  | .string _ => true
  | _ => false
def qh4 (l : List (Value × List (Value × Value))) : Bool := l.all fun x => !qz2 x.1 && x.2.all fun y => !qz2 y.1
def upT (r : Nat) (l : List (Value × Value)) : V → V
  | .mp k N _ => if k = r then .mp k N l else .junk
  | .d (.mm L) => if qh4 L then .d (.mm L) else .junk
  | v => if v.mps then .junk else v
section
variable {c : Cx} {s : S} {o : Oper} {g : Nat → Nat × Nat} {a : Act} {w : World}
theorem Sim.upTxt (hs : Sim c g s a w) {r : Nat} {l0 l' : List (Value × Value)} (hb : w.heap[(g r).1]? = some (.map (zB ((.string k0, v0) :: l0)) ((Value.string k0, v0) :: l0).length)) (hN : c.w0.heap.size ≤ (g r).1) (hH : ∀ k row, fnd s.H k = some row → V.mpsL row.cells = false) (hK : V.mpsL s.K = false) :
    Sim c g ⟨s.n, s.T.map (fun x => (x.1, upT r l' x.2)), s.H, s.K⟩ a { w with heap := w.heap.setIfInBounds (g r).1 (.map (zB l') l'.length) } := by
  have h1 := hs.upMap (l' := l') hb hN hH hK; have zk : (g r).1 < w.heap.size := (Array.getElem?_eq_some_iff.1 hb).1; have bV : ∀ b, b ≠ (g r).1 → (w.heap.setIfInBounds (g r).1 (.map (zB l') l'.length))[b]? = w.heap[b]? := fun b zT => Array.getElem?_setIfInBounds_ne (Ne.symm zT); refine ⟨h1.size, h1.defers, ?_, h1.nul, h1.obj, h1.keep, h1.inj, h1.base, h1.low, h1.below⟩; intro i v hv
  simp only at hv; rw [uo] at hv
  cases hu : fnd s.T i with
  | none => rw [hu] at hv; cases hv
  | some u =>
    rw [hu] at hv; simp only [map_some, Option.some.injEq] at hv; subst hv
    have h2 : fnd (s.T.map (fun x => (x.1, upM r l' x.2))) i = some (upM r l' u) := by rw [uo, hu]; rfl
    obtain ⟨x, h3, h4⟩ := h1.tmp i _ h2; refine ⟨x, h3, ?_⟩
    have key : ∀ L, u = .d (.mm L) → VRep { w with heap := w.heap.setIfInBounds (g r).1 (.map (zB l') l'.length) } (qt c s.H g) g (if qh4 L then .d (.mm L) else .junk) x := by
      rintro L rfl
      split
      · rename_i vO
        obtain ⟨x', h5, h6⟩ := hs.tmp i _ hu; rw [h3] at h5; simp only [Option.some.injEq] at h5; subst h5
        have zT : ∀ (b : Nat) (es : List (Value × Value)), w.heap[b]? = some (.map (zB es) es.length) → (∀ y ∈ es, qz2 y.1 = false) → b ≠ (g r).1 := by
          rintro b es hm hes rfl; rw [hb] at hm; simp only [Option.some.injEq, Obj.map.injEq] at hm
          cases es with
          | nil => simp at hm
          | cons y es =>
            have h0 := congrArg (fun z : Array MapEntry => z[0]?) hm.1; simp only [wF, List.getElem?_cons_zero, map_some, Option.some.injEq, MapEntry.mk.injEq] at h0; have := hes y mem_cons_self; rw [← h0.1] at this; simp [qz2] at this
        unfold qh4 at vO; rw [all_eq_true] at vO
        cases h6 with
        | d _ _ h6 =>
          cases h6 with
          | mm _ b bs hq hl hqs hm hi =>
            have hob : b ≠ (g r).1 := zT b ((L.map (·.1)).zip (bs.map fun k => Value.map (some k))) (by rw [hm]; congr 1; simp [hl]) fun y hy => by
              have h7 := (List.of_mem_zip hy).1; obtain ⟨z, hz, h8⟩ := List.mem_map.1 h7; have := vO z hz; rw [← h8]; simp at this; exact this.1
            have hib : ∀ k ∈ bs, k ≠ (g r).1 := fun k hk => by
              obtain ⟨j, hj⟩ := List.getElem?_of_mem hk; have vJ : j < L.length := by rw [hl]; exact (List.getElem?_eq_some_iff.1 hj).1
              have h7 := hi j _ k (List.getElem?_eq_getElem vJ) hj; refine zT k _ h7 fun y hy => ?_; have := vO _ (List.getElem_mem vJ); simp only [and_eq_true, all_eq_true, Bool.not_eq_true'] at this; exact this.2 y hy
            refine .d _ _ (.mm L b bs ⟨hq.1, by simpa using hq.2⟩ hl (fun k hk => ⟨(hqs k hk).1, by simpa using (hqs k hk).2⟩) ((bV b hob).trans hm) fun j x k h7 h8 => (bV k (hib k (mem_of_getElem? h8))).trans (hi j x k h7 h8))
      exact .junk _
    cases u with
    | d x =>
      cases x with
      | mm L => exact key L rfl
      | p _ => exact h4
      | sl _ _ _ => exact h4
      | mp _ => exact h4
    | mp _ _ _ => exact h4
    | mm _ _ _ => exact h4
    | ad _ => exact h4
    | ref _ _ => exact h4
    | own _ _ _ _ => exact h4
    | que _ _ _ _ => exact h4
    | agg _ => exact h4
    | tup _ => exact h4
    | fn _ _ => exact h4
    | mq _ _ _ => exact h4
    | ifc _ _ => exact h4
    | mp2 _ _ _ _ _ _ => exact h4
    | it _ _ _ _ => exact h4
    | mit _ _ _ _ _ => exact h4
    | blk _ _ _ => exact h4
    | junk => exact h4
theorem qM8 {t k e : TypeId} {x y : Operand} {r N : Nat} {l : List (ByteArray × Int)} (hk : c.P.underlying k = some .string) (hu : c.P.underlying t = some (.map k e)) (ho : o.op = .mapUpdate t x y z) (hd : o.dst = none) (hx : s.ev x = some (.mp r N (xW l))) (hy : s.ev y = some (.s key)) (hz : s.ev z = some (.agg [.i v])) (hm0 : zK l key = none) (zT : l ≠ [])
    (hN : N = c.w0.heap.size) (hH : s.H.all (fun x => !V.mpsL x.2.cells) = true) (hK : V.mpsL s.K = false) : vm c o s (fun s' => s' = ⟨s.n, s.T.map (fun x => (x.1, upT r (xW (l ++ [(key, v)])) x.2)), s.H, s.K⟩) := by
  subst hN; intro g a w hs K' Q hK'
  have hx' : a.eval x = .map (some (g r).1) ∧ c.w0.heap.size ≤ (g r).1 ∧ w.heap[(g r).1]? = some (.map (zB (xW l)) (xW l).length) := by
    have h := hs.ev hx; generalize a.eval x = u at h
    cases h with
    | mp _ _ _ hN hm => exact ⟨rfl, hN, hm⟩
  obtain ⟨hxe, hNb, hm⟩ := hx'; have hye := VRep.p_eq (hs.ev hy)
  have hze : a.eval z = .agg #[.int .i64 v] := by
    have h := hs.ev hz; generalize a.eval z = u at h
    cases h with
    | agg _ cs zI hh =>
      match cs, zI with
      | [q], _ => rw [VRep.p_eq (hh 0 _ q rfl rfl)]
  have hnf : xQ l key 0 = none := by simpa [zK] using hm0
  have zv : (Instr.mapUpdate t (.map (some (g r).1)) (.string key) (.agg #[.int .i64 v])).run c.P w = .ok () { w with heap := w.heap.setIfInBounds (g r).1 (.map (zB (xW (l ++ [(key, v)]))) (xW (l ++ [(key, v)])).length) } := by
    simp only [Instr.mapUpdate, Sem.run_bind, run_underlying hu, Result.andThen_ok, wS hm, qh2 hk, qn4 hk, hnf, map_none, yd _ hm, gc]; simp [xW]
  unfold Oper.wp
  have xP : (execOp a.eval o).run c.P w = .ok .skip { w with heap := w.heap.setIfInBounds (g r).1 (.map (zB (xW (l ++ [(key, v)]))) (xW (l ++ [(key, v)])).length) } := by
    simp only [execOp, ho, hxe, hye, hze, Sem.run_bind, zv, Result.andThen_ok]; rfl
  rw [xP]; simp only [Oper.upon, hd, Act.put]; obtain ⟨⟨k0, v0⟩, l0, rfl⟩ := List.exists_cons_of_ne_nil zT; refine hK' g _ a _ rfl (hs.upTxt (k0 := k0) hm hNb (qE1 hH) hK)
theorem je2 {t k e : TypeId} {x y : Operand} {r N : Nat} (hk : c.P.underlying k = some .string) (hu : c.P.underlying t = some (.map k e)) (ho : o.op = .insert t x y z) (hd : o.dst = none) (hx : s.ev x = some (.mp r N [])) (hy : s.ev y = some (.s key)) (hz : s.ev z = some (.agg [.i v]))
    (hN : N = c.w0.heap.size) (hH : s.H.all (fun x => !V.mpsL x.2.cells) = true) (hK : V.mpsL s.K = false) : vm c o s (fun s' => s' = ⟨s.n, s.T.map (fun x => (x.1, upM r (xW [(key, v)]) x.2)), s.H, s.K⟩) := by
  have key := qj7 (l := []) (o := { o with op := .mapUpdate t x y z }) hk hu rfl hd hx hy hz rfl hN hH hK; intro g a w hs K' Q hK'; have h := key g a w hs K' Q hK'; unfold Oper.wp at h ⊢; simp only [execOp, ho] at h ⊢; exact h
end
section
variable (r : Nat) (l : List (Value × Value))
theorem jY3 (x : Value) : upT r l (.d (.p x)) = .d (.p x) := rfl
theorem jG1 (a b : Nat) : upT r l (.ref a b) = .ref a b := rfl
theorem jG2 (a b n : Nat) (z : Bool) : upT r l (.own a b n z) = .own a b n z := rfl
theorem jv1 : upT r l .junk = .junk := rfl
theorem jQ9 (N : Nat) (l0 : List (Value × Value)) : upT r l (.mp r N l0) = .mp r N l := by simp [upT]
theorem jR0 {L : List (Value × List (Value × Value))} (h : qh4 L = true) : upT r l (.d (.mm L)) = .d (.mm L) := by simp [upT, h]
theorem jk3 {rows : List (List D)} (h : D.mpsR rows = false) : upT r l (.d (.sl sz bt rows)) = .d (.sl sz bt rows) := by simp [upT, V.mps, D.mps, h]
theorem jG3 {x : List V} (h : V.mpsL x = false) : upT r l (.tup x) = .tup x := by simp [upT, V.mps, h]
end
theorem jk4 {K : Type} {enc : K → Value} (h : ∀ a, qz2 (enc a) = false) (L : List (K × List (Int × Int))) : qh4 (mmr enc L) = true := by
  unfold qh4; rw [all_eq_true]; intro x hx; obtain ⟨y, _, rfl⟩ := List.mem_map.1 hx; simp only [h, Bool.not_false, Bool.true_and, all_eq_true, Bool.not_eq_true']; intro z hz; obtain ⟨u, _, rfl⟩ := List.mem_map.1 hz; rfl
def c3 (x y : Int) : Int := if x < y then -1 else if y < x then 1 else 0
def lx4 (a b : Int × Int × Int × Int) : Int := if a.1 < b.1 then -1 else if b.1 < a.1 then 1 else if a.2.1 < b.2.1 then -1 else if b.2.1 < a.2.1 then 1 else if a.2.2.1 < b.2.2.1 then -1 else if b.2.2.1 < a.2.2.1 then 1 else c3 a.2.2.2 b.2.2.2
def cfR (a b : Ar) : Int := lx4 (a.i, a.o, a.t, a.w) (b.i, b.o, b.t, b.w)
theorem jR1 (a b : Ar) : decide (cfR a b < 0) = ahd a b := by
  rw [Bool.eq_iff_iff, decide_eq_true_iff, u7]; unfold cfR lx4 c3; simp only
  repeat' split
  all_goals omega
theorem jk5 (x y : Int) (w : World) : Calls prog 70 #[.int .i64 x, .int .i64 y] w fun e w' => e = .returned (.int .i64 (c3 x y)) ∧ w' = w := by
  have nan : ∀ (x : Int) (w : World), Calls prog 102 #[.int .i64 x] w fun e w' => e = .returned (.bool false) ∧ w' = w := by
    intro x w
    go_enter func102, ntmps102
    go_wp2
    go_ret
    exact ⟨by simp, rfl⟩
  unfold c3
  by_cases h1 : x < y
  · rw [if_pos h1]
    go_enter func70, ntmps70
    go_wp2_with (go_at_call 102; refine (nan _ _).mono ?_; rintro e w1 ⟨rfl, rfl⟩)
    go_ret
    exact ⟨rfl, rfl⟩
  rw [if_neg h1]
  by_cases h2 : y < x
  · rw [if_pos h2]
    go_enter func70, ntmps70
    go_wp2_with (go_at_call 102; refine (nan _ _).mono ?_; rintro e w1 ⟨rfl, rfl⟩)
    go_ret
    exact ⟨rfl, rfl⟩
  rw [if_neg h2]
  go_enter func70, ntmps70
  go_wp2_with (go_at_call 102; refine (nan _ _).mono ?_; rintro e w1 ⟨rfl, rfl⟩)
  go_ret
  exact ⟨rfl, rfl⟩
def q00 : List Int → List Int → Int
  | x :: xs, y :: ys => if c3 x y = 0 then q00 xs ys else c3 x y
  | _, _ => 0
theorem jG4 {x y : Int} (h : c3 x y = 0) : x = y := by
  unfold c3 at h
  split at h
  · omega
  split at h <;> omega
theorem j62 (x : Int) : c3 x x = 0 := by simp [c3]
theorem qJ6 : ∀ l : List Int, q00 l l = 0
  | [] => rfl
  | x :: l => by rw [q00, if_pos (j62 x), qJ6 l]
theorem j63 : ∀ {xs ys : List Int} {k : Nat} {x y : Int}, xs.take k = ys.take k → xs[k]? = some x → ys[k]? = some y → c3 x y ≠ 0 → q00 xs ys = c3 x y
  | a :: xs, b :: ys, 0, x, y, _, hx, hy, h => by
    simp at hx hy; subst hx hy; rw [q00, if_neg h]
  | a :: xs, b :: ys, k + 1, x, y, ht, hx, hy, h => by
    simp only [List.take_succ_cons, List.cons.injEq] at ht; obtain ⟨rfl, ht⟩ := ht; rw [q00, if_pos (j62 a)]; exact j63 ht (by simpa using hx) (by simpa using hy) h
  | [], _, k, x, y, _, hx, _, _ => by simp at hx
  | _ :: _, [], k, x, y, _, _, hy, _ => by simp at hy
def qh5 (k : Int × Int × Int × Int) : List Int := [k.1, k.2.1, k.2.2.1, k.2.2.2]
theorem jv2 (a b : Int × Int × Int × Int) : q00 (qh5 a) (qh5 b) = lx4 a b := by
  unfold qh5 lx4 q00 q00 q00 q00 q00 c3
  repeat' split
  all_goals first | rfl | omega | (exfalso; simp_all; done) | simp_all
def qh6 (w : World) (b : Nat) (l : List Int) : Prop := ∀ (k : Nat) (x : Int), l[k]? = some x → w.cell? ⟨b, k, none⟩ = some (.int .i64 x)
theorem jG5 (n : Nat) (bx by' : Nat) (xs ys : List Int) (w : World) (hn1 : xs.length = n) (hn2 : ys.length = n) (hn : n ≤ 4) (hx : qh6 w bx xs) (hy : qh6 w by' ys) :
    Calls prog 78 #[.slice (some ⟨bx, 0, none⟩) n n, .slice (some ⟨by', 0, none⟩) n n] w fun e w' => e = .returned (.int .i64 (q00 xs ys)) ∧ w' = w := by
  have HX := Lib.hid hx; have HY := Lib.hid hy; have H1 := Lib.hid hn1; have H2 := Lib.hid hn2; clear hx hy hn1 hn2
  go_enter func78, ntmps78
  go_wp2_with fail
  go_loopw [11] (fun i wr => ∃ k : Nat, k ≤ n ∧ i = .int .i64 k ∧ xs.take k = ys.take k ∧ wr = w) (fun i _ => n - (intOf i).toNat)
  case atStart => exact ⟨0, Nat.zero_le _, rfl, rfl, rfl⟩
  case round =>
    obtain ⟨k, hk, rfl, ht, rfl⟩ := hrel; have HT := Lib.hid ht; clear ht
    by_cases zk : k < n
    · obtain ⟨x, hx⟩ : ∃ x, xs[k]? = some x := ⟨_, List.getElem?_eq_getElem (by rw [H1.out]; exact zk)⟩
      obtain ⟨y, hy⟩ : ∃ y, ys[k]? = some y := ⟨_, List.getElem?_eq_getElem (by rw [H2.out]; exact zk)⟩; have cx := HX.out k x hx; have cy := HY.out k y hy; have Hx := Lib.hid hx; have Hy := Lib.hid hy; clear hx hy
      have vN := fun W => jk5 x y W
      have hz := fun h : c3 x y = 0 => jG4 h
      have zT := fun h : c3 x y ≠ 0 => j63 HT.out Hx.out Hy.out h
      have Hz := Lib.hid hz; have Hne := Lib.hid zT; clear hz zT; generalize c3 x y = z at vN Hz Hne
      by_cases hz0 : z = 0
      · have HE := Lib.hid (Hz.out hz0)
        clear Hz Hne; subst hz0
        go_wp2_with (go_at_call 70; refine (vN _).mono ?_; rintro e w1 ⟨rfl, rfl⟩)
        go_roundw
        case rel =>
          refine ⟨k + 1, by omega, by go_num, ?_, by first | rfl | trivial⟩; rw [List.take_add_one, List.take_add_one, Hx.out, Hy.out, HT.out, HE.out]
        case measure => simp [intOf]; omega
      go_wp2_with (go_at_call 70; refine (vN _).mono ?_; rintro e w1 ⟨rfl, rfl⟩)
      go_ret
      exact ⟨by rw [Hne.out hz0]; rfl, rfl⟩
    go_wp2_with fail
    go_ret
    have e : xs = ys := by
      have h := HT.out
      rwa [take_of_length_le (by rw [H1.out]; omega), take_of_length_le (by rw [H2.out]; omega)] at h
    exact ⟨by rw [e, qJ6]; rfl, rfl⟩
abbrev je3 (a : Ar) : Value := .agg #[.int .i64 a.i, .int .i64 a.o, .int .i64 a.w, .int .i64 a.t]
abbrev je4 (k : Int × Int × Int × Int) : Value := .agg #[.int .i64 k.1, .int .i64 k.2.1, .int .i64 k.2.2.1, .int .i64 k.2.2.2]
def jC6 (P : Program) (f : FuncId) (key : Ar → Int × Int × Int × Int) : Prop := ∀ (a : Ar) (w : World), Calls P f #[je3 a] w fun e w' => e = .returned (je4 (key a)) ∧ ∃ o1 o2, w' = (w.alloc o1).alloc o2
theorem j24 (w : World) (o1 o2 : Obj) : ((w.alloc o1).alloc o2).heap[w.heap.size + 1]? = some o2 := by
  show ((w.heap.push o1).push o2)[w.heap.size + 1]? = some o2
  rw [Array.getElem?_push, if_pos zx]
theorem je5 : jC6 prog 39 (fun a => (a.i, a.o, a.t, a.w)) := by
  intro a w
  go_enter func39, ntmps39
  go_wp2
  (try simp only [Exit.inBlock, Exit.then]); refine bodyPost_ret (results_cell_row rfl _ _ (w.heap.size + 1) 109 #[.int .i64 a.i, .int .i64 a.o, .int .i64 a.t, .int .i64 a.w] (0, 0) _ rfl (j24 _ _ _) underlying109 rfl zh) rfl ?_
  exact ⟨rfl, _, _, rfl⟩
end Go.Proofs.YthiknkcigcglkaaGreatDoor
