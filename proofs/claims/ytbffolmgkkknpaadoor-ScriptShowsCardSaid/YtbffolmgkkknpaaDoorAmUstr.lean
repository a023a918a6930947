/- unsafe.SliceData and unsafe.String over a slice of bytes of the call's own: the bytes are frozen, and the slice is the call's own no more. -/
import Derived.Lib.UnsafeStr
import Derived.Test.YtbffolmgkkknpaaDoorAmStrA
import Derived.Test.YtbffolmgkkknpaaDoorAmHp
namespace Go.Proofs.YtbffolmgkkknpaaDoor
open Go.RowKit
set_option linter.unusedSimpArgs false
set_option linter.unusedVariables false

section
variable {c : Cx} {s : S} {o : Oper} {g : Nat → Nat × Nat} {a : Act} {w : World}
theorem rp_sliceData {x : Operand} {t : TypeId} {r sz n : Nat} (ho : o.op = .call { callee := .builtin .unsafeSliceData, args := #[x], argTypes := #[t] }) (hx : s.ev x = some (.own r sz n false)) (hn : 0 < n) : RP c o s (.ref r 0) := fun g a w hs => by
  have hx' : ∃ cap, a.eval x = .slice (some ⟨(g r).1, 0, none⟩) n cap ∧ cap ≠ 0 := by
    have h := hs.ev hx
    generalize a.eval x = u at h
    cases h with
    | own _ _ _ h1 h2 => exact ⟨_, rfl, by omega⟩
  obtain ⟨cap, hxe, hc⟩ := hx'
  refine ⟨.pointer (some ⟨(g r).1, 0, none⟩), .ref r 0, fun w' => ?_⟩
  simp only [execOp, ho, resolve, invoke, builtin, Sem.run_bind, Sem.run_pure, Result.andThen_ok, List.map_toArray, List.map_cons, List.map_nil, hxe, Lib.run_unsafeSliceData_row _ _ _ _ _ _ hc]
theorem rp_sliceData0 {x : Operand} {t : TypeId} {r sz n : Nat} (ho : o.op = .call { callee := .builtin .unsafeSliceData, args := #[x], argTypes := #[t] }) (hx : s.ev x = some (.own r sz n true)) : RP c o s (.d (.p (.pointer none))) := fun g a w hs => by
  have hx' : a.eval x = .slice none 0 0 := by
    have h := hs.ev hx
    generalize a.eval x = u at h
    cases h with
    | ownNil => rfl
  refine ⟨.pointer none, .d _ _ (.p _), fun w' => ?_⟩
  simp only [execOp, ho, resolve, invoke, builtin, Sem.run_bind, Sem.run_pure, Result.andThen_ok, List.map_toArray, List.map_cons, List.map_nil, hx', Lib.run_unsafeSliceData_nil]
theorem rp_ustr0 {x y : Operand} {t u : TypeId} {n' : Int} (ho : o.op = .call { callee := .builtin .unsafeString, args := #[x, y], argTypes := #[t, u] }) (hx : s.ev x = some (.d (.p (.pointer none)))) (hy : s.ev y = some (.i n')) (hn : n' = 0) : RP c o s (.s ⟨#[]⟩) := fun g a w hs => by
  subst hn
  refine ⟨.string ⟨#[]⟩, .d _ _ (.p _), fun w' => ?_⟩
  simp only [execOp, ho, resolve, invoke, builtin, Sem.run_bind, Sem.run_pure, Result.andThen_ok, List.map_toArray, List.map_cons, List.map_nil, VRep.p_eq (hs.ev hx), VRep.p_eq (hs.ev hy), Lib.run_unsafeString_none]
  rfl
theorem cell_freeze (w : World) (a b : Addr) (n : Nat) : (w.freeze a n).cell? b = w.cell? b := by
  unfold World.freeze
  split
  · rfl
  · simp only [World.cell?, Array.getElem?_modify]
    by_cases h : a.block = b.block
    · rw [if_pos h]
      cases hh : w.heap[b.block]? with
      | none => rfl
      | some ob => cases ob <;> rfl
    · rw [if_neg h]
theorem add0 (g j : Nat) : (⟨g, 0, none⟩ : Addr).add j = ⟨g, j, none⟩ := by
  unfold Addr.add
  split
  · rename_i h; simp [h]
  · simp
theorem heap_freeze_other (w : World) (a : Addr) (n k : Nat) (h : k ≠ a.block) : (w.freeze a n).heap[k]? = w.heap[k]? := by
  unfold World.freeze
  split
  · rfl
  · simp only [Array.getElem?_modify]
    rw [if_neg (fun e => h e.symm)]
theorem size_freeze (w : World) (a : Addr) (n : Nat) : (w.freeze a n).heap.size = w.heap.size := by
  unfold World.freeze
  split
  · rfl
  · simp
/-- An object of bytes is frozen: it is no object any more. -/
theorem Sim.frzStr (hs : Sim c g s a w) {r : Nat} {row : Row} (hr : fnd s.H r = some row) (hn : row.nil = false) (n : Nat) : Sim c g ⟨s.n, s.T, s.H.filter (fun x => x.1 != r), s.K⟩ a (w.freeze ⟨(g r).1, 0, none⟩ n) := by
  obtain ⟨arr0, h0, _, _⟩ := hs.obj r row hr hn
  have hfn : ∀ k row', fnd (s.H.filter (fun x => x.1 != r)) k = some row' → k ≠ r ∧ fnd s.H k = some row' := by
    intro k row' hk
    have e : k ≠ r := by rintro rfl; rw [fnd_filter_self] at hk; cases hk
    rw [fnd_filter r _ _ e] at hk
    exact ⟨e, hk⟩
  have hq : ∀ b, qt c s.H g b → b < w.heap.size → qt c (s.H.filter (fun x => x.1 != r)) g b := fun b hb _ => ⟨hb.1, fun k row' hk hn => hb.2 k row' (hfn k row' hk).2 hn⟩
  have hw : Cells w (w.freeze ⟨(g r).1, 0, none⟩ n) (qt c s.H g) := ⟨by rw [size_freeze]; exact Nat.le_refl _, fun b o u _ _ h => by rw [cell_freeze]; exact h, fun b es hne hm => by
    rw [heap_freeze_other]
    · exact hm
    · intro e
      simp only at e
      rw [e, h0] at hm
      cases hm
      exact hne _ _ _ rfl⟩
  have hm : ∀ {v x}, VRep w (qt c s.H g) g v x → VRep (w.freeze ⟨(g r).1, 0, none⟩ n) (qt c (s.H.filter (fun x => x.1 != r)) g) g v x := fun hv => hv.mono hw hq (fun _ _ => rfl)
  refine ⟨hs.size, hs.defers, ?_, ?_, ?_, ?_, ?_, ?_, hs.low, Lib.below_freeze hs.below (hs.base r row hr hn) n⟩
  · intro i v hv
    obtain ⟨x, h1, h2⟩ := hs.tmp i v hv
    exact ⟨x, h1, hm h2⟩
  · intro k row' hk hn
    exact hs.nul k row' (hfn k row' hk).2 hn
  · intro k row' hk hkn
    obtain ⟨k1, k2⟩ := hfn k row' hk
    obtain ⟨arr, h1, h2, h3⟩ := hs.obj k row' k2 hkn
    refine ⟨arr, ?_, h2, fun j v hv => ?_⟩
    · rw [heap_freeze_other]
      · exact h1
      · exact fun e => k1 (hs.inj k r _ _ k2 hkn hr hn e)
    · obtain ⟨x, h4, h5⟩ := h3 j v hv
      exact ⟨x, h4, hm h5⟩
  · intro j v x h1 h2
    exact hm (hs.keep j v x h1 h2)
  · intro k k' row row' h1 n1 h2 n2 h3
    exact hs.inj k k' row row' (hfn k row h1).2 n1 (hfn k' row' h2).2 n2 h3
  · intro k row h1 n1
    exact hs.base k row (hfn k row h1).2 n1
theorem st_ustr {x y : Operand} {t u e : TypeId} {r : Nat} {n' : Int} {row : Row} {b : ByteArray} (hu : c.P.underlying t = some (.pointer e)) (hce : c.P.cellsOf e = 1) (ho : o.op = .call { callee := .builtin .unsafeString, args := #[x, y], argTypes := #[t, u] }) (hx : s.ev x = some (.ref r 0)) (hy : s.ev y = some (.i n')) (hn : n' = (b.size : Int)) (hb0 : 0 < b.size) (hb : b.size ≤ 140737488355328)
    (hr : fnd s.H r = some row) (hnl : row.nil = false) (hty : row.ty = e) (hrow : row.cells = strV b) (hd : dok s o = true) :
    Step c o s (fun s' => s' = S.put ⟨s.n, s.T, s.H.filter (fun x => x.1 != r), s.K⟩ o.dst (.s b)) := by
  subst hn
  intro g a w hs K Q hK
  have hxe : a.eval x = .pointer (some ⟨(g r).1, 0, none⟩) := by
    have h := hs.ev hx
    generalize a.eval x = u at h
    cases h; rfl
  obtain ⟨arr, h1, _, h2⟩ := hs.obj r row hr hnl
  have hlen : b.data.toList.length = b.size := Array.length_toList
  have hcell : ∀ j x, b.data.toList[j]? = some x → w.cell? ((⟨(g r).1, 0, none⟩ : Addr).add j) = some (.int .u8 x.toNat) := by
    intro j x hj
    obtain ⟨y, h3, h4⟩ := h2 j (.d (.p (.int .u8 (x.toNat : Int)))) (by rw [hrow]; simp [strV, hj])
    have := cell_of_row w (g r).1 j _ _ _ h1
    rw [add0, this, h3, VRep.p_eq h4]
  have hal : b.size ≤ arr.size := by
    obtain ⟨y, h3, _⟩ := h2 (b.size - 1) ((strV b)[b.size - 1]'(by rw [strV_len]; omega)) (by rw [hrow]; exact List.getElem?_eq_getElem _)
    have := (Array.getElem?_eq_some_iff.1 h3).1
    omega
  have hsh : w.shape? (g r).1 = some (e, arr.size) := by
    simp [World.shape?, h1, hty]
  have hrun := Lib.run_unsafeString_row (P := c.P) (w := w) t u o.type e hu hce (g r).1 arr.size hsh b.data.toList (by intro h0; rw [h0] at hlen; simp at hlen; omega) (by omega) (by omega) hcell
  have hba : (⟨b.data.toList.toArray⟩ : ByteArray) = b := by cases b; simp
  rw [hlen, hba] at hrun
  unfold Oper.wp
  have hexec : (execOp a.eval o).run c.P w = .ok (.value (.string b)) (w.freeze ⟨(g r).1, 0, none⟩ b.size) := by
    simp only [execOp, ho, resolve, invoke, builtin, Sem.run_bind, Sem.run_pure, Result.andThen_ok, List.map_toArray, List.map_cons, List.map_nil, hxe, VRep.p_eq (hs.ev hy), hrun]
  rw [hexec]
  exact hK g _ _ _ rfl ((hs.frzStr hr hnl b.size).put o.dst (dok_spec (s := s) hd) (.d _ _ (.p _)))
end
end Go.Proofs.YtbffolmgkkknpaaDoor
