/- A region that draws its order and ends in a store: one condition S on the world, which holds behind every operation but the last one. The operations that only read are taken first; each other one is the only one that may come up when it does. -/
import Derived.Test.YthlcginebeapdaaBase
import Derived.OrdersHeld
namespace Go.Proofs.Ythlcginebeapdaa
open Go.RowKit
set_option linter.unusedSimpArgs false
set_option linter.unusedVariables false

section
variable {P : Program} {ops : Array Oper} {Q : Exit → Act → World → Prop} {md : Region.Mode} {S : World → Prop}

/-- Operation z waits for operation i. -/
def edgeB (md : Region.Mode) (ops : Array Oper) (z i : Nat) : Bool :=
  match ops[z]? with
  | some oz => oz.after.any fun e => Region.binds md e && e.on == i
  | none => false

theorem edgeB_edge {z i : Nat} {oz : Oper} (h : edgeB md ops z i = true) (hz : ops[z]? = some oz) : ∃ e ∈ oz.after, Region.binds md e = true ∧ e.on = i := by
  simp only [edgeB, hz] at h
  obtain ⟨e, he, hb⟩ := Array.any_eq_true'.1 h
  simp only [Bool.and_eq_true, beq_iff_eq] at hb
  exact ⟨e, he, hb.1, hb.2⟩

/-- Whatever comes up: behind it S holds, unless it was the last one. -/
def anyThen (P : Program) (md : Region.Mode) (ops : Array Oper) (Q : Exit → Act → World → Prop) (S : World → Prop) (z : Nat) : Nat → Array Bool → Act → World → Prop
  | 0, listed, a, w => Region.ready md ops listed = [] ∧ Q .normal a w
  | n + 1, listed, a, w => (Region.ready md ops listed = [] → Q .normal a w) ∧
      ∀ i ∈ Region.ready md ops listed, wpOp P ops Q i (fun a' w' => (i ≠ z → S w') ∧ anyThen P md ops Q S z n (listed.setIfInBounds i true) a' w') a w

variable {z : Nat}

theorem any_of_anyThen : ∀ (n : Nat) (listed : Array Bool) (a : Act) (w : World), anyThen P md ops Q S z n listed a w → wpAny P md ops Q n listed a w
  | 0, _, _, _, h => h
  | n + 1, _, _, _, h => ⟨h.1, fun i hi => wpOp_mono (fun a' w' h' => any_of_anyThen n _ a' w' h'.2) (h.2 i hi)⟩

theorem anyThen_early {i : Nat} {oi : Oper} {v : Value} (hz : edgeB md ops z i = true) (hiz : i ≠ z) (hi : ops[i]? = some oi) (hsel : ∀ (j : Nat) (o : Oper) cs b, ops[j]? = some o → o.op ≠ .select cs b)
    (hQ : ∀ c a w, Q (.panic c) (a.put oi.dst v) w → Q (.panic c) a w) (n : Nat) :
    ∀ (listed : Array Bool) (a : Act) (w : World),
      (∀ j oj, ops[j]? = some oj → j ≠ i → listed.getD j true = false → (∀ e ∈ oj.after, Region.binds md e = true → e.on ≠ i) → oi.apart ops oj = true) →
      i ∈ Region.ready md ops listed → YieldsIf P ops S oi v a → S w →
      anyThen P md ops Q S z n (listed.setIfInBounds i true) (a.put oi.dst v) w → anyThen P md ops Q S z (n + 1) listed a w := by
  induction n with
  | zero =>
    intro listed a w hfree hr hy hS H
    refine ⟨fun h => by rw [h] at hr; exact absurd hr List.not_mem_nil, fun j hj => ?_⟩
    by_cases hji : j = i
    · subst hji
      exact hy.wpOp hi hS ⟨fun _ => hS, H⟩
    · have hm := ready_mono hj hji
      rw [H.1] at hm
      exact absurd hm List.not_mem_nil
  | succ n ih =>
    intro listed a w hfree hr hy hS H
    refine ⟨fun h => by rw [h] at hr; exact absurd hr List.not_mem_nil, fun j hj => ?_⟩
    by_cases hji : j = i
    · subst hji
      exact hy.wpOp hi hS ⟨fun _ => hS, H⟩
    · have hij : i ≠ j := fun h => hji h.symm
      have hnext := H.2 j (ready_mono hj hji)
      obtain ⟨hjl, oj, hoj, hdone⟩ := mem_ready.1 hj
      have hil := (mem_ready.1 hr).1
      have hno : ∀ e ∈ oj.after, Region.binds md e = true → e.on ≠ i := by
        intro e he hb hei
        have hd := hdone e he hb
        rw [hei] at hd
        by_cases hsz : i < listed.size
        · rw [Array.getD, dif_pos hsz] at hd hil
          rw [hd] at hil
          exact absurd hil (by simp)
        · rw [Array.getD, dif_neg hsz] at hd
          exact absurd hd (by simp)
      have hjz : j ≠ z := by
        intro h
        subst h
        obtain ⟨e, he, hb, hon⟩ := edgeB_edge hz hoj
        exact hno e he hb hon
      have hstep := wpOp_putIf hoj (hfree j oj hoj hji hjl hno) (fun cs b => hsel i oi cs b hi) (fun cs b => hsel j oj cs b hoj) hQ hy hnext
      refine wpOp_mono (fun a' w' h3 => ?_) hstep
      obtain ⟨hy', hS', hrest⟩ := h3
      refine ⟨fun _ => hS' hjz, ih _ a' w' ?_ (ready_mono hr hij) hy' (hS' hjz) ?_⟩
      · intro k ok hk hki hkl hkn
        refine hfree k ok hk hki ?_ hkn
        by_cases hjk : j = k
        · subst hjk
          exact hjl
        · rwa [getD_set_ne true hjk] at hkl
      · rw [Array.setIfInBounds_comm _ _ hji]
        exact hrest

/-- Take number i first: it only reads. -/
theorem any_take (i : Nat) {l : List Oper} {oi : Oper} {v : Value} {n : Nat} {listed : Array Bool} {a : Act} {w : World} (hz : edgeB md l.toArray z i = true) (hiz : (i != z) = true) (hi : l[i]? = some oi)
    (hs : Region.noSelect l.toArray = true) (hf : Region.free md l.toArray listed i = true) (hr : (Region.ready md l.toArray listed).contains i = true)
    (hQ : ∀ c a w, Q (.panic c) (a.put oi.dst v) w → Q (.panic c) a w) (hy : YieldsIf P l.toArray S oi v a) (hS : S w)
    (h : anyThen P md l.toArray Q S z n (listed.setIfInBounds i true) (a.put oi.dst v) w) : anyThen P md l.toArray Q S z (n + 1) listed a w :=
  anyThen_early hz (by simpa using hiz) (by simpa using hi) (Region.noSelect_spec hs) hQ n listed a w (Region.free_spec (by simpa using hi) hf) (by simpa using hr) hy hS h

/-- Number i is the only one that may come up. -/
theorem any_one (i : Nat) {l : List Oper} {oi : Oper} {n : Nat} {listed : Array Bool} {a : Act} {w : World} (hr : Region.ready md l.toArray listed = [i]) (hi : l[i]? = some oi)
    (h : ∀ K : Act → World → Prop, Hid (∀ a' w', (i ≠ z → S w') → anyThen P md l.toArray Q S z n (listed.setIfInBounds i true) a' w' → K a' w') →
      if Region.wanted oi (yielded l.toArray a.tmps) = true then Oper.wp P oi a w K Q else K (a.put oi.dst undef) w) : anyThen P md l.toArray Q S z (n + 1) listed a w := by
  refine ⟨fun h0 => by rw [hr] at h0; exact absurd h0 (by simp), fun j hj => ?_⟩
  rw [hr] at hj
  obtain rfl := List.mem_singleton.1 hj
  exact wpOp_step (by simpa using hi) fun K hK => h K fun a' w' hS hA => hK a' w' ⟨hS, hA⟩

/-- Behind an operation: S is shown, and handed on. -/
theorem any_hand {i : Nat} {n : Nat} {listed : Array Bool} {K : Act → World → Prop} {a' : Act} {w' : World} (hK : Hid (∀ a' w', (i ≠ z → S w') → anyThen P md ops Q S z n listed a' w' → K a' w'))
    (hS : i ≠ z → S w') (h : (i ≠ z → S w') → anyThen P md ops Q S z n listed a' w') : K a' w' := hK.out a' w' hS (h hS)

theorem any_done {n : Nat} {listed : Array Bool} {a : Act} {w : World} (hr : Region.ready md ops listed = []) (h : Q .normal a w) : anyThen P md ops Q S z n listed a w := by
  cases n with
  | zero => exact ⟨hr, h⟩
  | succ n => exact ⟨fun _ => h, by rw [hr]; intro i hi; exact absurd hi List.not_mem_nil⟩

theorem region_any (S : World → Prop) (z : Nat) {id : Nat} {l : List Oper} {a : Act} {w : World} (n : Nat) (hn : l.length = n) (hm : P.follows .mixedOrders = true) (hS : S w.drew)
    (h : S w.drew → anyThen P .any l.toArray Q S z n (Array.replicate n false) a w.drew) : (Code.region id l.toArray true).wp P Q a w := by
  subst hn
  exact wp_region_any hm (any_of_anyThen _ _ _ _ (by simpa using h hS))
end
end Go.Proofs.Ythlcginebeapdaa
