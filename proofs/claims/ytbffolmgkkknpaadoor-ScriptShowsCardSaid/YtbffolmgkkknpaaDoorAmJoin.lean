/- strings.Join over a slice of strings of the call's own; pointers to the call's own objects against each other and as unsafe pointers. -/
import Derived.Lib.Builder
import Derived.Test.YtbffolmgkkknpaaDoorAmPre
import Derived.Test.YtbffolmgkkknpaaDoorAmH
import Derived.Test.YtbffolmgkkknpaaDoorShelfJ
namespace Go.Proofs.YtbffolmgkkknpaaDoor
open Go.RowKit
set_option linter.unusedSimpArgs false
set_option linter.unusedVariables false
set_option maxRecDepth 100000

def joinB (ws : List ByteArray) (sep : ByteArray) : ByteArray := ⟨(Lib.join (ws.map (·.data.toList)) sep.data.toList).toArray⟩
section
variable {c : Cx} {s : S} {o : Oper}
theorem sm_join {x y fx : Operand} {ts : Array TypeId} {f : FuncId} {fn : Func} {code : Code} {n m r : Nat} {rs : List ResultVar} {row : Row} {sep : ByteArray} (ws : List ByteArray)
    (hj : ∀ (bk cap : Nat) (w : World), (∀ (j : Nat) x, ws[j]? = some x → w.cell? ⟨bk, 0 + j, none⟩ = some (.string x)) → bk < w.heap.size → ws.length ≤ cap → Calls c.P f #[.slice (some ⟨bk, 0, none⟩) ws.length cap, .string sep] w fun e w' => e = .returned (.string (joinB ws sep)) ∧ Below w.heap.size w w')
    (hf : Is c.P f fn code n rs) (ho : o.op = .call { callee := .value fx, args := #[x, y], argTypes := ts }) (hfx : s.ev fx = some (.fn f [])) (hx : s.ev x = some (.own r 1 m false)) (hr : fnd s.H r = some row) (hn : row.nil = false) (hc : row.cells.take m = ws.map V.s) (hm : ws.length = m) (hy : s.ev y = some (.s sep)) (hd : dok s o = true) : StepM c o s (fun s' => s' = s.put o.dst (.s (joinB ws sep))) := by
  intro g a w hs K Q hK
  have hfx' : a.eval fx = .func (.func f) #[] ([] : List Value).toArray := by
    have h := hs.ev hfx
    generalize a.eval fx = u at h
    cases h with
    | fn _ _ cs hl _ =>
      obtain rfl : cs = [] := by cases cs with | nil => rfl | cons => simp at hl
      rfl
  have hyv := VRep.p_eq (hs.ev hy)
  obtain ⟨arr, h1, _, h2⟩ := hs.obj r row hr hn
  have hlt : (g r).1 < w.heap.size := (Array.getElem?_eq_some_iff.1 h1).1
  have h := hs.ev hx
  unfold Oper.wp
  rw [exec_call (caps := []) hf ho hfx']
  simp only [Oper.upon, List.append_nil, List.map_cons, List.map_nil, hyv]
  generalize a.eval x = u at h
  cases h with
  | own _ _ _ hle hcap =>
    subst hm
    refine (hj (g r).1 (g r).2 w (fun j z hz => ?_) hlt hle).mono ?_
    · have hk : row.cells[j]? = some (V.s z) := by
        have := congrArg (fun l => l[j]?) hc
        have hjl := (List.getElem?_eq_some_iff.1 hz).1
        simp only [List.getElem?_take, if_pos hjl, List.getElem?_map, hz, Option.map_some] at this
        exact this
      obtain ⟨y, h3, h4⟩ := h2 j _ hk
      have h5 := VRep.p_eq h4
      subst h5
      rw [Nat.zero_add]
      exact (cell_of_row w _ _ _ _ _ h1).trans h3
    · rintro e w' ⟨rfl, h4⟩
      exact hK g _ _ _ rfl ((hs.move h4).put o.dst (dok_spec hd) (.d _ _ (.p _))) h4
/-- A pointer to an object of the call's own, held against itself. -/
theorem rp_neqp_same {t t' e : TypeId} {sz bt : Nat} {z : Value} {x y : Operand} {r k : Nat} (hu : c.P.underlying t = some (.pointer e)) (hii : Inf c.P e sz bt z) (ho : o.op = .binOp .neq t x y t') (hx : s.ev x = some (.ref r k)) (hy : s.ev y = some (.ref r k)) : RP c o s (.b false) := fun g a w hs => by
  obtain ⟨j, hi, _⟩ := hii.out
  have h1 := hs.ev hx
  have h2 := hs.ev hy
  refine ⟨.bool false, .d _ _ (.p _), fun w' => ?_⟩
  have h3 : a.eval x = .pointer (some ⟨(g r).1, k, none⟩) := by generalize a.eval x = u at h1; cases h1; rfl
  have h4 : a.eval y = .pointer (some ⟨(g r).1, k, none⟩) := by generalize a.eval y = u at h2; cases h2; rfl
  have h := Lib.run_neq_ptr_same w' (P := c.P) ⟨(g r).1, k, none⟩ hu hi
  simp [execOp, ho, h3, h4, eqGuard, h]
theorem rp_eqlp_nil {t t' e : TypeId} {x y : Operand} (hu : c.P.underlying t = some (.pointer e)) (ho : o.op = .binOp .eql t x y t') (hx : s.ev x = some (.d (.p (.pointer none)))) (hy : s.ev y = some (.d (.p (.pointer none)))) : RP c o s (.b true) :=
  rp_ptr (b := true) (.inl rfl) hu ho hx hy fun w q g z hz => by rw [VRep.p_eq hz]; exact ⟨_, rfl, rfl⟩
/-- A pointer to an object of the call's own is not nil. -/
theorem rp_eqlp_own {t t' e : TypeId} {x y : Operand} {r k : Nat} (hu : c.P.underlying t = some (.pointer e)) (ho : o.op = .binOp .eql t x y t') (hx : s.ev x = some (.ref r k)) (hy : s.ev y = some (.d (.p (.pointer none)))) : RP c o s (.b false) :=
  rp_ptr (b := false) (.inl rfl) hu ho hx hy fun w q g z hz => by cases hz; exact ⟨_, rfl, rfl⟩
end
theorem join_fits (sep : ByteArray) (ws : List ByteArray) (hN : ws.length ≤ 1000) (hlen : (Lib.join (ws.map (·.data.toList)) sep.data.toList).length ≤ 140737488355328) (bk cap : Nat) (w : World) (hcells : ∀ (j : Nat) x, ws[j]? = some x → w.cell? ⟨bk, 0 + j, none⟩ = some (.string x)) (hbk : bk < w.heap.size) (hcap : ws.length ≤ cap) :
    Calls Tryd.prog 44 #[.slice (some ⟨bk, 0, none⟩) ws.length cap, .string sep] w fun e w' => e = .returned (.string (joinB ws sep)) ∧ Below w.heap.size w w' :=
  join_call bk 0 cap ws sep w hcells hbk (by omega) hcap hlen
end Go.Proofs.YtbffolmgkkknpaaDoor
