/- Drawn regions, order by order: at each point every operation that stands ready may come; those that do not touch memory come first. -/
import Derived.Test.YthlcginebeapdaaAmJ
import Derived.Test.YthlcginebeapdaaAmHp
namespace Go.Proofs.Ythlcginebeapdaa
open Go.RowKit
set_option linter.unusedSimpArgs false
set_option linter.unusedVariables false

section
variable {c : Cx} {s : S} {Q : Exit → S → Prop} {L : List Oper} {n : Nat} {l l' : Array Bool} {i j k : Nat} {o : Oper}
def AN (c : Cx) (ops : Array Oper) (Q : Exit → S → Prop) (n : Nat) (l : Array Bool) (s : S) : Prop := closedL .any ops l → ∀ g a w, Sim c g s a w → anyN c.P .any ops (QQ c Q) (fun _ => True) (fun _ => true) n l a w
theorem AN.rp {v : V} (hi : L[i]? = some o) (hg : o.guard = none) (hd : dok s o = true) (hp : noP Q) (hok : (Region.noSelect L.toArray && (Region.ready .any L.toArray l).contains i && Region.free .any L.toArray l i) = true) (hl : l.setIfInBounds i true = l') (h : RP c o s v) (hN : AN c L.toArray Q n l' (s.put o.dst v)) : AN c L.toArray Q (n + 1) l s := by
  intro hcl g a w hs
  simp only [Bool.and_eq_true] at hok
  obtain ⟨⟨h1, h2⟩, h3⟩ := hok
  obtain ⟨x, h4, h5⟩ := h g a w hs
  have hr : i ∈ Region.ready .any L.toArray l := by simpa using h2
  have hi' : L.toArray[i]? = some o := by simpa using hi
  subst hl
  exact anyN_early (N := 0) (oi := o) (fun j hj hlt => .inl rfl) hi' (Region.noSelect_spec h1) (QQ_noP hp _ _) n l a w hcl (Region.free_spec hi' h3) hr (.inl ⟨by simp [Region.wanted, hg], fun w' _ => h5 w'⟩) trivial (hN (closed_set hcl hr) g _ w (hs.put o.dst (dok_spec hd) h4))
def BR (c : Cx) (L : List Oper) (Q : Exit → S → Prop) (n : Nat) (l : Array Bool) (s : S) (i : Nat) : Prop := ∃ o, L[i]? = some o ∧ o.guard = none ∧ ∀ g a w, Sim c g s a w → ∀ K : Act → World → Prop,
  (∀ g' s' a' w', AN c L.toArray Q n (l.setIfInBounds i true) s' → Sim c g' s' a' w' → K a' w') → o.wp c.P a w K (QQ c Q)
theorem BR.mk (hi : L[i]? = some o) (hg : o.guard = none) (hl : l.setIfInBounds i true = l') (h : Step c o s (AN c L.toArray Q n l')) : BR c L Q n l s i := ⟨o, hi, hg, fun g a w hs K hK => h g a w hs K _ (by rw [hl] at hK; exact hK)⟩
theorem AN.br {rs : List Nat} (hr : Region.ready .any L.toArray l = rs) (hne : rs ≠ []) (h : ∀ i ∈ rs, BR c L Q n l s i) : AN c L.toArray Q (n + 1) l s := by
  intro hcl g a w hs
  refine ⟨fun h0 => absurd (hr.symm.trans h0) hne, fun j hj => ?_⟩
  obtain ⟨o, hi, hg, hst⟩ := h j (hr ▸ hj)
  exact wpOp_of (by simpa using hi) hg (hst g a w hs _ fun g' s' a' w' hn hs' => ⟨fun _ => trivial, hn (closed_set hcl hj) g' a' w' hs'⟩)
theorem AN.br1 (hr : Region.ready .any L.toArray l = [i]) (h : BR c L Q n l s i) : AN c L.toArray Q (n + 1) l s := AN.br hr (by simp) fun x hx => by
  obtain rfl := List.mem_singleton.1 hx
  exact h
theorem AN.br2 (hr : Region.ready .any L.toArray l = [i, j]) (h : BR c L Q n l s i) (h2 : BR c L Q n l s j) : AN c L.toArray Q (n + 1) l s := AN.br hr (by simp) fun x hx => by
  simp only [List.mem_cons, List.not_mem_nil, or_false] at hx
  rcases hx with rfl | rfl
  · exact h
  · exact h2
theorem AN.br3 (hr : Region.ready .any L.toArray l = [i, j, k]) (h : BR c L Q n l s i) (h2 : BR c L Q n l s j) (h3 : BR c L Q n l s k) : AN c L.toArray Q (n + 1) l s := AN.br hr (by simp) fun x hx => by
  simp only [List.mem_cons, List.not_mem_nil, or_false] at hx
  rcases hx with rfl | rfl | rfl
  · exact h
  · exact h2
  · exact h3
theorem AN.br4 {k2 : Nat} (hr : Region.ready .any L.toArray l = [i, j, k, k2]) (h : BR c L Q n l s i) (h2 : BR c L Q n l s j) (h3 : BR c L Q n l s k) (h4 : BR c L Q n l s k2) : AN c L.toArray Q (n + 1) l s := AN.br hr (by simp) fun x hx => by
  simp only [List.mem_cons, List.not_mem_nil, or_false] at hx
  rcases hx with rfl | rfl | rfl | rfl
  · exact h
  · exact h2
  · exact h3
  · exact h4
theorem AN.nil (hr : Region.ready .any L.toArray l = []) (h : Q .normal s) : AN c L.toArray Q 0 l s := fun hcl g a w hs => ⟨hr, g, s, h, hs⟩
theorem AN.less {s' : S} (h : AN c L.toArray Q n l s') (hl : Less s' s) : AN c L.toArray Q n l s := fun hcl g a w hs => h hcl g a w (hs.less hl)
theorem ST.rd {N : S → Prop} {v : V} (hd : dok s o = true) (h : RD c o s v) (hN : N (s.put o.dst v)) : Step c o s N := by
  intro g a w hs K Q hK
  obtain ⟨x, h1, h2⟩ := h g a w hs
  unfold Oper.wp
  rw [h2 w (Below.refl _ _)]
  exact hK g _ _ _ hN (hs.put o.dst (dok_spec hd) h1)
theorem ST.rp {N : S → Prop} {v : V} (hd : dok s o = true) (h : RP c o s v) (hN : N (s.put o.dst v)) : Step c o s N := ST.rd hd h.rd hN
theorem ST.st {N : S → Prop} {X : S} (h : Step c o s (fun s' => s' = X)) (hN : N X) : Step c o s N := fun g a w hs K Q hK => h g a w hs K Q fun g' s' a' w' h1 h2 => hK g' s' a' w' (by rw [h1]; exact hN) h2
theorem ST.sm {N : S → Prop} {X : S} (h : StepM c o s (fun s' => s' = X)) (hN : N X) : Step c o s N := ST.st h.step hN
theorem ST.call {N : S → Prop} {post : V → Prop} (h : StepM c o s (fun s' => ∃ v, post v ∧ v.pure ∧ s' = s.put o.dst v)) (hN : ∀ v, post v → v.pure → N (s.put o.dst v)) : Step c o s N := fun g a w hs K Q hK => h.step g a w hs K Q fun g' s' a' w' ⟨v, h1, h2, h3⟩ h4 => hK g' s' a' w' (by rw [h3]; exact hN v h1 h2) h4
theorem ST.pc {N : S → Prop} {P : Program} {f : FuncId} {args : List V} {H : List (Nat × Row)} {K : List V} {post : V → List (Nat × Row) → List V → Prop} {fx : Operand} {xs : Array Operand} {tys : Array TypeId} (l : List Nat) {ts : List V} (h : PC P f args H K post) (hg : o.guard = none) (hP : c.P = P) (ho : o.op = .call { callee := .value fx, args := xs, argTypes := tys }) (hfx : s.ev fx = some (.fn f [])) (hargs : xs.toList.map s.ev = args.map some)
    (hts : l.map (fun i => fnd s.T i) = ts.map some) (hH : s.H = H) (hK : ts ++ s.K = K) (hd : dok s o = true) (hN : ∀ v H' K', post v H' K' → N (back s l o.dst v H' K')) : Step c o s N :=
  fun g a w hs K' Q' hK' => h c s o fx xs tys l ts hP ho hfx hargs hts hH hK hd g a w hs K' Q' fun g' s' a' w' ⟨v, H', K2, h1, h2⟩ h3 => hK' g' s' a' w' (by rw [h2]; exact hN _ _ _ h1) h3
theorem AW.drawT {id : Nat} {N : S} (n : Nat) (hm : c.P.follows .mixedOrders = true) (hlen : L.length = n) (hl : Array.replicate n false = l) (h : AN c L.toArray (QJ N) n l s) (hN : Q .normal N) : AW c (.region id L.toArray true) Q s := by
  intro g a w hs
  refine wp_mono (Q := QQ c (QJ N)) ?_ (fun e a w hq => by
    obtain ⟨g', s', h3, h4⟩ := hq
    cases e <;> first | exact ⟨g', N, hN, h4.less h3⟩ | exact h3.elim)
  refine wp_region_any hm ?_
  have hs' : Sim c g s a w.drew := hs.move (Below.drew (Below.refl _ _))
  subst hl hlen
  have h1 := any_of_anyN _ _ _ _ (h (by
    intro j oj _ hl
    rw [Array.getD_eq_getD_getElem?, Array.getElem?_replicate] at hl
    split at hl <;> simp at hl) g a _ hs')
  simpa using h1
end
end Go.Proofs.Ythlcginebeapdaa
