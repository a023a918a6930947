/- Part 10 of what the law PaperReads rests on. -/
import Derived.Laws.Externs
import Derived.Lib.AppendStr
import Derived.Lib.UnsafeStr
import Derived.Test.YtkikceoccmoanaaGreatDoorPkPa1
import Derived.Test.YtkikceoccmoanaaGreatDoorPkPa2
import Derived.Test.YtkikceoccmoanaaGreatDoorPkPa3
import Derived.Test.YtkikceoccmoanaaGreatDoorPkPa4
import Derived.Test.YtkikceoccmoanaaGreatDoorPkPa5
import Derived.Test.YtkikceoccmoanaaGreatDoorPkPa6
import Derived.Test.YtkikceoccmoanaaGreatDoorPkPa7
import Derived.Test.YtkikceoccmoanaaGreatDoorPkPa8
import Derived.Test.YtkikceoccmoanaaGreatDoorPkPa9
namespace Go.Proofs.YtkikceoccmoanaaGreatDoor
open Go.RowKit
set_option linter.unusedSimpArgs false
set_option linter.unusedVariables false
set_option maxRecDepth 100000

theorem rowAt_count {p : Program} {fits : TypeId → Bool} {e : TypeId} {n : Nat} (h : 1 ≤ n) : ∀ d, rowAt p fits d e n 0 1 = rowAt p fits d e 1 0 1
  | 0 => rfl
  | d + 1 => by
    have h1 : 0 < n := h
    simp only [rowAt, Nat.zero_div, Nat.zero_mod, Nat.zero_add]
    simp [h, h1]
theorem liesAt_count {p : Program} {e u : TypeId} {n : Nat} (h : 1 ≤ n) (hl : rowAt p (fun x => sameLayout p p.depth x u) p.depth e 1 0 1 = true) : liesAt p p.depth e n 0 u 1 = true := by
  cases hd : p.depth with
  | zero => rw [hd] at hl; cases hl
  | succ d =>
    rw [liesAt]
    have h2 := rowAt_count (p := p) (fits := fun x => sameLayout p p.depth x u) (e := e) h p.depth
    rw [h2, hl]
    rfl
section
variable {c : Cx} {s : S} {o : Oper}
theorem shape_own {g : Nat → Nat × Nat} {a : Act} {w : World} {r : Nat} {row : Row} (hs : Sim c g s a w) (hr : fnd s.H r = some row) (hn : row.nil = false) : ∃ n, (∀ w', Below w.heap.size w w' → w'.shape? (g r).1 = some (row.ty, n)) ∧ row.cells.length ≤ n := by
  obtain ⟨arr, h1, _, h2⟩ := hs.obj r row hr hn
  refine ⟨arr.size, fun w' hb => ?_, ?_⟩
  · have h3 := (hb.block _ (Array.getElem?_eq_some_iff.1 h1).1).trans h1
    simp [World.shape?, h3]
  · by_cases h0 : row.cells.length = 0
    · omega
    · obtain ⟨y, h4, _⟩ := h2 (row.cells.length - 1) _ (List.getElem?_eq_getElem (by omega))
      have := (Array.getElem?_eq_some_iff.1 h4).1
      omega
theorem rd_to_unsafe {t t' e : TypeId} {sz bt : Nat} {z : Value} {x : Operand} {r : Nat} {row : Row} (hu : c.P.underlying t = some (.pointer e)) (hu' : c.P.underlying t' = some .unsafePointer) (hii : Inf c.P e sz bt z) (hj : sz ≠ 0) (ho : o.op = .convert t t' x) (hx : s.ev x = some (.ref r 0)) (hr : fnd s.H r = some row) (hn : row.nil = false) (hc : 0 < row.cells.length) : RD c o s (.ref r 0) := fun g a w hs => by
  obtain ⟨j, hi, hi2, hi3, hi4⟩ := hii.out
  obtain ⟨n, h1, h2⟩ := shape_own hs hr hn
  have h3 := hs.ev hx
  refine ⟨.pointer (some ⟨(g r).1, 0, none⟩), .ref _ _, fun w' hb => ?_⟩
  have h4 : a.eval x = .pointer (some ⟨(g r).1, 0, none⟩) := by generalize a.eval x = u at h3; cases h3; rfl
  have h := Lib.run_to_unsafe w' (P := c.P) ⟨(g r).1, 0, none⟩ hu hu' hi (by omega) (h1 w' hb) (by show 0 < n; omega)
  simp only [execOp, ho, h4, Sem.run_bind, h, Result.andThen_ok]
  rfl
theorem rd_from_unsafe {t t' u : TypeId} {sz bt : Nat} {z : Value} {x : Operand} {r : Nat} {row : Row} (hu : c.P.underlying t = some .unsafePointer) (hu' : c.P.underlying t' = some (.pointer u)) (hii : Inf c.P u sz bt z) (ho : o.op = .convert t t' x) (hx : s.ev x = some (.ref r 0)) (hr : fnd s.H r = some row) (hn : row.nil = false) (hz : 0 < c.P.cellsOf row.ty) (hc : c.P.cellsOf row.ty ≤ row.cells.length) (hl : rowAt c.P (fun x => sameLayout c.P c.P.depth x u) c.P.depth row.ty 1 0 1 = true) : RD c o s (.ref r 0) := fun g a w hs => by
  obtain ⟨j, hi, hi2, hi3, hi4⟩ := hii.out
  obtain ⟨n, h1, h2⟩ := shape_own hs hr hn
  have h3 := hs.ev hx
  refine ⟨.pointer (some ⟨(g r).1, 0, none⟩), .ref _ _, fun w' hb => ?_⟩
  have h4 : a.eval x = .pointer (some ⟨(g r).1, 0, none⟩) := by generalize a.eval x = u at h3; cases h3; rfl
  have h := Lib.run_from_unsafe w' (P := c.P) ⟨(g r).1, 0, none⟩ hu hu' hi (h1 w' hb) (liesAt_count (Nat.div_pos (by omega) hz) hl)
  simp only [execOp, ho, h4, Sem.run_bind, h, Result.andThen_ok]
  rfl
/-- internal/abi.NoEscape: the pointer as it is. -/
theorem rp_noescape {x fx : Operand} {ts : Array TypeId} {f : FuncId} {fn : Func} {r k : Nat} (hf : c.P.funcs[f]? = some fn) (hname : (fn.name == "runtime.NumGoroutine") = false) (hb : fn.body.isNone = true) (hn : Extern.findNext fn = none) (he : Extern.find fn = some Extern.AbiNoEscape.same) (ho : o.op = .call { callee := .value fx, args := #[x], argTypes := ts }) (hfx : s.ev fx = some (.fn f [])) (hx : s.ev x = some (.ref r k)) : RP c o s (.ref r k) := fun g a w hs => by
  have hfx' : a.eval fx = .func (.func f) #[] ([] : List Value).toArray := by
    have h := hs.ev hfx
    generalize a.eval fx = u at h
    cases h with
    | fn _ _ cs hl _ =>
      obtain rfl : cs = [] := by cases cs with | nil => rfl | cons => simp at hl
      rfl
  have h3 := hs.ev hx
  refine ⟨.pointer (some ⟨(g r).1, k, none⟩), .ref _ _, fun w' => ?_⟩
  have h4 : a.eval x = .pointer (some ⟨(g r).1, k, none⟩) := by generalize a.eval x = u at h3; cases h3; rfl
  have h := run_callFunc_extern (P := c.P) hf hname hb hn he #[.pointer (some ⟨(g r).1, k, none⟩)] w'
  have h5 : (Extern.AbiNoEscape.same #[.pointer (some ⟨(g r).1, k, none⟩)]).run c.P w' = .ok (.pointer (some ⟨(g r).1, k, none⟩)) w' := Lib.run_noEscape w' _
  rw [h5] at h
  simp only [execOp, ho, resolve, Deferred.ofValue, hfx', invoke, Sem.run_bind, Sem.run_pure, Result.andThen_ok, List.map_toArray, List.map_cons, List.map_nil, h4]
  simpa using h
end
end Go.Proofs.YtkikceoccmoanaaGreatDoor
namespace Go.Proofs.YtkikceoccmoanaaGreatDoor
open Go.RowKit
set_option linter.unusedSimpArgs false
set_option linter.unusedVariables false

theorem append_str_at {P : Program} (w : World) (t u ty e : TypeId) (i : TypeInfo) (ht : P.underlying t = some (.slice e)) (hu : P.underlying u = some .string) (hi : P.info? e = some i) (hz : i.zero = some (.int .u8 0)) (hsize : i.size = 1) (hby : i.bytes = 1)
    (v : Value) (n : Nat) (xs : List Value) (hown : w.ownsRow 0 e 1 v n xs) (s : ByteArray) (hm : 0 < s.size) (hb : n + s.size ≤ 140737488355328) :
    ∃ v' w', (Builtin.append_ #[t, u] ty #[v, .string s]).run P w = .ok v' w' ∧ w'.ownsRow 0 e 1 v' (n + s.size) (xs ++ Lib.strCells s) ∧ w.grownBy w' v.ownBlock ∧ (v'.ownBlock = v.ownBlock ∨ v'.ownBlock = some w.heap.size) := by
  obtain ⟨v', w', hr, h1, h2, _⟩ := Lib.run_append_own_string (P := P) w 0 t u ty e i ht hu hi hz hsize hby v n xs hown s (by simp only [maxLen]; omega) hb (Nat.zero_le _)
  refine ⟨v', w', hr, h1, h2, ?_⟩
  have hxl : xs.length = n := by simpa using hown.1
  have key : ∀ {v1 : Value} {w1 : World}, (Builtin.append_ #[t, u] ty #[v, .string s]).run P w = .ok v1 w1 → v' = v1 := fun h => by
    rw [hr] at h
    cases h
    rfl
  have hown2 := hown
  rcases hown2.2 with ⟨rfl, hn0⟩ | ⟨g, cap, cur, rfl, hbg, hg, hnc, hcm, hcs, htake⟩
  · right
    have := key (run_append_nil_string (P := P) w t u ty e i (.int .u8 0) ht hu hi hz s hm (by omega) (by rw [hby]; omega))
    subst this
    rfl
  · by_cases hroom : n + s.size ≤ cap
    · left
      have hcs' : cur.size = cap := by simpa using hcs
      have := key (Lib.run_append_room_string (P := P) w t u ty e i ht hu hi hsize g n cap cur hg s hroom (by omega))
      subst this
      rfl
    · right
      have holds : ∀ j u, xs[j]? = some u → w.cell? ((⟨g, 0, none⟩ : Addr).add j) = some u := hown.cells (g := g) rfl
      have := key (Lib.run_append_grow_string (P := P) w t u ty e i (.int .u8 0) ht hu hi hz ⟨g, 0, none⟩ n cap xs (by rw [hsize]; simpa using hxl) holds s (by omega) (by omega) (by rw [hby]; exact growslice_fits (by omega) (by omega)))
      subst this
      rfl
section
variable {c : Cx} {s : S} {o : Oper}
def strV (b : ByteArray) : List V := b.data.toList.map fun x => V.d (.p (.int .u8 (x.toNat : Int)))
theorem strV_len (b : ByteArray) : (strV b).length = b.size := by rw [strV, List.length_map, Array.length_toList]; rfl
theorem strV_app (a b : ByteArray) : strV (a ++ b) = strV a ++ strV b := by
  simp [strV, ByteArray.data_append]
theorem strV_has (r : Nat) (b : ByteArray) : V.hasL r (strV b) = false := by
  rw [V.hasL_false]
  intro v hv
  simp only [strV, List.mem_map] at hv
  obtain ⟨_, _, rfl⟩ := hv
  rfl
/-- append(b, s...), s no empty string, b a slice of bytes of the call's own (nil or not). -/
theorem st_append_str {t u e : TypeId} {x y : Operand} {r n : Nat} {z : Value} {f : Bool} {row : Row} {l1 : List V} {b : ByteArray} (hu : c.P.underlying t = some (.slice e)) (hus : c.P.underlying u = some .string) (hi : Inf c.P e 1 1 (.int .u8 0))
    (ho : o.op = .call { callee := .builtin .append, args := #[x, y], argTypes := #[t, u] }) (hx : s.ev x = some (.own r 1 n f)) (hr : fnd s.H r = some row) (hf : row.nil = f) (hrz : row.sz = 1) (hty : row.ty = e)
    (hl : row.cells.take n = l1) (hl1 : l1.length = n) (hc1 : V.hasL r l1 = false) (hy : s.ev y = some (.s b)) (hm : 0 < b.size) (hb : n + b.size ≤ 140737488355328) (hd : dok s o = true) :
    Step c o s (fun s' => s' = S.put ⟨s.n, (s.forget r).T, (r, ⟨e, l1 ++ strV b, false, 1⟩) :: (s.forget r).H, (s.forget r).K⟩ o.dst (.own r 1 (n + b.size) false)) := by
  intro g a w hs K Q hK
  obtain ⟨i, hi1, hi2, hi3, hi4⟩ := hi.out
  have hyv := VRep.p_eq (hs.ev hy)
  have hown : ∃ xs : List Value, w.ownsRow 0 e 1 (a.eval x) n xs ∧ (∀ (j : Nat) (u : V), l1[j]? = some u → ∃ y, xs[j]? = some y ∧ VRep w (qt c s.H g) g u y) ∧ ∀ b, (a.eval x).ownBlock = some b → row.nil = false ∧ b = (g r).1 := by
    have h := hs.ev hx
    generalize a.eval x = u at h
    cases h with
    | own _ _ _ hn hcap =>
      obtain ⟨arr, h1, h2, h3⟩ := hs.obj r row hr hf
      have hsz' : arr.size = (g r).2 * 1 := by rw [h2 (by omega), hrz]
      refine ⟨arr.toList.take (n * 1), ⟨by simp; omega, .inr ⟨(g r).1, (g r).2, arr, rfl, Nat.zero_le _, by rw [← hty]; exact h1, hn, hcap, hsz', rfl⟩⟩, fun j u hu => ?_, fun b hb => ⟨hf, by simpa [Value.ownBlock] using hb.symm⟩⟩
      have hjl : j < n := by rw [← hl1]; exact (List.getElem?_eq_some_iff.1 hu).1
      rw [← hl, List.getElem?_take_of_lt hjl] at hu
      obtain ⟨y, h4, h5⟩ := h3 j u hu
      exact ⟨y, by rw [List.getElem?_take_of_lt (by omega)]; simpa using h4, h5⟩
    | ownNil =>
      refine ⟨[], ⟨by simp, .inl ⟨rfl, rfl⟩⟩, fun j u hu => ?_, fun b hb => by simp [Value.ownBlock] at hb⟩
      have : l1 = [] := List.eq_nil_of_length_eq_zero hl1
      simp [this] at hu
  obtain ⟨xs, o1, o2, o3⟩ := hown
  obtain ⟨v', w', hrun, r1, r2, r4⟩ := append_str_at (P := c.P) w t u o.type e i hu hus hi1 hi4 hi2 hi3 _ n xs o1 b hm hb
  obtain ⟨q1, q2⟩ := r1
  rcases q2 with ⟨_, h0⟩ | ⟨G, cap, cur, rfl, _, q3, q4, q5, q6, q7⟩
  · omega
  · have hG : row.nil = false ∧ G = (g r).1 ∨ G = w.heap.size := by
      rcases r4 with r4 | r4
      · exact .inl (o3 G (by rw [← r4]; rfl))
      · right; simpa [Value.ownBlock] using r4
    have hxl : xs.length = n := by simpa using o1.1
    have hgrown := Sim.grown hs (row' := ⟨e, l1 ++ strV b, false, 1⟩) (cap := cap) hr hG rfl q3 (fun b hb hne => r2.block b hb (fun e' => (hne (o3 b e'.symm).1) (o3 b e'.symm).2)) r2.size r2.os r2.tape r2.output (by
        rw [hasL_append, hc1, strV_has]; rfl) (fun _ => q6) (by
      intro j v hv
      simp only at hv
      have hcur : ∀ k, k < n + b.size → cur[k]? = (xs ++ Lib.strCells b)[k]? := by
        intro k hk
        rw [← q7, List.getElem?_take_of_lt (by omega)]
        simp
      have hjl : j < n + b.size := by
        have := (List.getElem?_eq_some_iff.1 hv).1
        simp only [List.length_append, strV_len, hl1] at this
        exact this
      rw [hcur j hjl]
      by_cases hj : j < n
      · rw [List.getElem?_append_left (by omega)] at hv ⊢
        exact o2 j v hv
      · rw [List.getElem?_append_right (by omega)] at hv ⊢
        rw [hl1] at hv
        rw [hxl]
        simp only [strV, Lib.strCells, List.getElem?_map] at hv ⊢
        cases hc : b.data.toList[j - n]? with
        | none => rw [hc] at hv; cases hv
        | some q =>
          rw [hc] at hv
          simp only [Option.map_some, Option.some.injEq] at hv
          subst hv
          exact ⟨_, rfl, .d _ _ (.p _)⟩)
    unfold Oper.wp
    have hexec : (execOp a.eval o).run c.P w = .ok (.value (.slice (some ⟨G, 0, none⟩) (n + b.size) cap)) w' := by
      simp only [execOp, ho, resolve, invoke, builtin, Sem.run_bind, Sem.run_pure, Result.andThen_ok, List.map_toArray, List.map_cons, List.map_nil, hyv, hrun]
    rw [hexec]
    refine hK _ _ _ _ rfl (hgrown.put o.dst ?_ ?_)
    · exact dok_spec (s := s) hd
    · have := VRep.own (w := w') (q := qt c ((r, (⟨e, l1 ++ strV b, false, 1⟩ : Row)) :: (s.forget r).H) (fun k => if k = r then (G, cap) else g k)) (g := fun k => if k = r then (G, cap) else g k) r 1 (n + b.size) (by simpa using q4) (by simpa using q5)
      simpa using this
theorem st_append_strF {t u e : TypeId} {x y : Operand} {r n : Nat} {f : Bool} {row : Row} {l1 : List V} {b : ByteArray} (hu : c.P.underlying t = some (.slice e)) (hus : c.P.underlying u = some .string) (hi : Inf c.P e 1 1 (.int .u8 0))
    (ho : o.op = .call { callee := .builtin .append, args := #[x, y], argTypes := #[t, u] }) (hx : s.ev x = some (.own r 1 n f)) (hr : fnd s.H r = some row) (hf : row.nil = f) (hrz : row.sz = 1) (hty : row.ty = e)
    (hl : row.cells = l1) (hl1 : l1.length = n) (hc1 : V.hasL r l1 = false) (hy : s.ev y = some (.s b)) (hm : 0 < b.size) (hb : n + b.size ≤ 140737488355328) (hd : dok s o = true) :
    Step c o s (fun s' => s' = S.put ⟨s.n, (s.forget r).T, (r, ⟨e, l1 ++ strV b, false, 1⟩) :: (s.forget r).H, (s.forget r).K⟩ o.dst (.own r 1 (n + b.size) false)) :=
  st_append_str (z := .int .u8 0) hu hus hi ho hx hr hf hrz hty (by rw [hl, List.take_of_length_le (by omega)]) hl1 hc1 hy hm hb hd
end
end Go.Proofs.YtkikceoccmoanaaGreatDoor
namespace Go.Proofs.YtkikceoccmoanaaGreatDoor
open Go.RowKit
set_option linter.unusedSimpArgs false
set_option linter.unusedVariables false

section
variable {c : Cx} {s : S} {o : Oper} {g : Nat → Nat × Nat} {a : Act} {w : World}
theorem rp_sliceData {x : Operand} {t : TypeId} {r sz n : Nat} (ho : o.op = .call { callee := .builtin .unsafeSliceData, args := #[x], argTypes := #[t] }) (hx : s.ev x = some (.own r sz n false)) (hn : 0 < n) : RP c o s (.ref r 0) := fun g a w hs => by
  have hx' : ∃ cap, a.eval x = .slice (some ⟨(g r).1, 0, none⟩) n cap ∧ cap ≠ 0 := by
    have h := hs.ev hx
    generalize a.eval x = u at h
    cases h with
    | own _ _ _ h1 h2 => exact ⟨_, rfl, by omega⟩
  obtain ⟨cap, hxe, hc⟩ := hx'
  refine ⟨.pointer (some ⟨(g r).1, 0, none⟩), .ref r 0, fun w' => ?_⟩
  simp only [execOp, ho, resolve, invoke, builtin, Sem.run_bind, Sem.run_pure, Result.andThen_ok, List.map_toArray, List.map_cons, List.map_nil, hxe, Lib.run_unsafeSliceData_row _ _ _ _ _ _ hc]
theorem rp_sliceData0 {x : Operand} {t : TypeId} {r sz n : Nat} (ho : o.op = .call { callee := .builtin .unsafeSliceData, args := #[x], argTypes := #[t] }) (hx : s.ev x = some (.own r sz n true)) : RP c o s (.d (.p (.pointer none))) := fun g a w hs => by
  have hx' : a.eval x = .slice none 0 0 := by
    have h := hs.ev hx
    generalize a.eval x = u at h
    cases h with
    | ownNil => rfl
  refine ⟨.pointer none, .d _ _ (.p _), fun w' => ?_⟩
  simp only [execOp, ho, resolve, invoke, builtin, Sem.run_bind, Sem.run_pure, Result.andThen_ok, List.map_toArray, List.map_cons, List.map_nil, hx', Lib.run_unsafeSliceData_nil]
theorem rp_ustr0 {x y : Operand} {t u : TypeId} {n' : Int} (ho : o.op = .call { callee := .builtin .unsafeString, args := #[x, y], argTypes := #[t, u] }) (hx : s.ev x = some (.d (.p (.pointer none)))) (hy : s.ev y = some (.i n')) (hn : n' = 0) : RP c o s (.s ⟨#[]⟩) := fun g a w hs => by
  subst hn
  refine ⟨.string ⟨#[]⟩, .d _ _ (.p _), fun w' => ?_⟩
  simp only [execOp, ho, resolve, invoke, builtin, Sem.run_bind, Sem.run_pure, Result.andThen_ok, List.map_toArray, List.map_cons, List.map_nil, VRep.p_eq (hs.ev hx), VRep.p_eq (hs.ev hy), Lib.run_unsafeString_none]
  rfl
theorem cell_freeze (w : World) (a b : Addr) (n : Nat) : (w.freeze a n).cell? b = w.cell? b := by
  unfold World.freeze
  split
  · rfl
  · simp only [World.cell?, Array.getElem?_modify]
    by_cases h : a.block = b.block
    · rw [if_pos h]
      cases hh : w.heap[b.block]? with
      | none => rfl
      | some ob => cases ob <;> rfl
    · rw [if_neg h]
theorem add0 (g j : Nat) : (⟨g, 0, none⟩ : Addr).add j = ⟨g, j, none⟩ := by
  unfold Addr.add
  split
  · rename_i h; simp [h]
  · simp
theorem heap_freeze_other (w : World) (a : Addr) (n k : Nat) (h : k ≠ a.block) : (w.freeze a n).heap[k]? = w.heap[k]? := by
  unfold World.freeze
  split
  · rfl
  · simp only [Array.getElem?_modify]
    rw [if_neg (fun e => h e.symm)]
theorem size_freeze (w : World) (a : Addr) (n : Nat) : (w.freeze a n).heap.size = w.heap.size := by
  unfold World.freeze
  split
  · rfl
  · simp
/-- An object of bytes is frozen: it is no object any more. -/
theorem Sim.frzStr (hs : Sim c g s a w) {r : Nat} {row : Row} (hr : fnd s.H r = some row) (hn : row.nil = false) (n : Nat) : Sim c g ⟨s.n, s.T, s.H.filter (fun x => x.1 != r), s.K⟩ a (w.freeze ⟨(g r).1, 0, none⟩ n) := by
  obtain ⟨arr0, h0, _, _⟩ := hs.obj r row hr hn
  have hfn : ∀ k row', fnd (s.H.filter (fun x => x.1 != r)) k = some row' → k ≠ r ∧ fnd s.H k = some row' := by
    intro k row' hk
    have e : k ≠ r := by rintro rfl; rw [fnd_filter_self] at hk; cases hk
    rw [fnd_filter r _ _ e] at hk
    exact ⟨e, hk⟩
  have hq : ∀ b, qt c s.H g b → b < w.heap.size → qt c (s.H.filter (fun x => x.1 != r)) g b := fun b hb _ => ⟨hb.1, fun k row' hk hn => hb.2 k row' (hfn k row' hk).2 hn⟩
  have hw : Cells w (w.freeze ⟨(g r).1, 0, none⟩ n) (qt c s.H g) := ⟨by rw [size_freeze]; exact Nat.le_refl _, fun b o u _ _ h => by rw [cell_freeze]; exact h, fun b es hne hm => by
    rw [heap_freeze_other]
    · exact hm
    · intro e
      simp only at e
      rw [e, h0] at hm
      cases hm
      exact hne _ _ _ rfl⟩
  have hm : ∀ {v x}, VRep w (qt c s.H g) g v x → VRep (w.freeze ⟨(g r).1, 0, none⟩ n) (qt c (s.H.filter (fun x => x.1 != r)) g) g v x := fun hv => hv.mono hw hq (fun _ _ => rfl)
  refine ⟨hs.size, hs.defers, ?_, ?_, ?_, ?_, ?_, ?_, hs.low, Lib.below_freeze hs.below (hs.base r row hr hn) n⟩
  · intro i v hv
    obtain ⟨x, h1, h2⟩ := hs.tmp i v hv
    exact ⟨x, h1, hm h2⟩
  · intro k row' hk hn
    exact hs.nul k row' (hfn k row' hk).2 hn
  · intro k row' hk hkn
    obtain ⟨k1, k2⟩ := hfn k row' hk
    obtain ⟨arr, h1, h2, h3⟩ := hs.obj k row' k2 hkn
    refine ⟨arr, ?_, h2, fun j v hv => ?_⟩
    · rw [heap_freeze_other]
      · exact h1
      · exact fun e => k1 (hs.inj k r _ _ k2 hkn hr hn e)
    · obtain ⟨x, h4, h5⟩ := h3 j v hv
      exact ⟨x, h4, hm h5⟩
  · intro j v x h1 h2
    exact hm (hs.keep j v x h1 h2)
  · intro k k' row row' h1 n1 h2 n2 h3
    exact hs.inj k k' row row' (hfn k row h1).2 n1 (hfn k' row' h2).2 n2 h3
  · intro k row h1 n1
    exact hs.base k row (hfn k row h1).2 n1
theorem st_ustr {x y : Operand} {t u e : TypeId} {r : Nat} {n' : Int} {row : Row} {b : ByteArray} (hu : c.P.underlying t = some (.pointer e)) (hce : c.P.cellsOf e = 1) (ho : o.op = .call { callee := .builtin .unsafeString, args := #[x, y], argTypes := #[t, u] }) (hx : s.ev x = some (.ref r 0)) (hy : s.ev y = some (.i n')) (hn : n' = (b.size : Int)) (hb0 : 0 < b.size) (hb : b.size ≤ 140737488355328)
    (hr : fnd s.H r = some row) (hnl : row.nil = false) (hty : row.ty = e) (hrow : row.cells = strV b) (hd : dok s o = true) :
    Step c o s (fun s' => s' = S.put ⟨s.n, s.T, s.H.filter (fun x => x.1 != r), s.K⟩ o.dst (.s b)) := by
  subst hn
  intro g a w hs K Q hK
  have hxe : a.eval x = .pointer (some ⟨(g r).1, 0, none⟩) := by
    have h := hs.ev hx
    generalize a.eval x = u at h
    cases h; rfl
  obtain ⟨arr, h1, _, h2⟩ := hs.obj r row hr hnl
  have hlen : b.data.toList.length = b.size := Array.length_toList
  have hcell : ∀ j x, b.data.toList[j]? = some x → w.cell? ((⟨(g r).1, 0, none⟩ : Addr).add j) = some (.int .u8 x.toNat) := by
    intro j x hj
    obtain ⟨y, h3, h4⟩ := h2 j (.d (.p (.int .u8 (x.toNat : Int)))) (by rw [hrow]; simp [strV, hj])
    have := cell_of_row w (g r).1 j _ _ _ h1
    rw [add0, this, h3, VRep.p_eq h4]
  have hal : b.size ≤ arr.size := by
    obtain ⟨y, h3, _⟩ := h2 (b.size - 1) ((strV b)[b.size - 1]'(by rw [strV_len]; omega)) (by rw [hrow]; exact List.getElem?_eq_getElem _)
    have := (Array.getElem?_eq_some_iff.1 h3).1
    omega
  have hsh : w.shape? (g r).1 = some (e, arr.size) := by
    simp [World.shape?, h1, hty]
  have hrun := Lib.run_unsafeString_row (P := c.P) (w := w) t u o.type e hu hce (g r).1 arr.size hsh b.data.toList (by intro h0; rw [h0] at hlen; simp at hlen; omega) (by omega) (by omega) hcell
  have hba : (⟨b.data.toList.toArray⟩ : ByteArray) = b := by cases b; simp
  rw [hlen, hba] at hrun
  unfold Oper.wp
  have hexec : (execOp a.eval o).run c.P w = .ok (.value (.string b)) (w.freeze ⟨(g r).1, 0, none⟩ b.size) := by
    simp only [execOp, ho, resolve, invoke, builtin, Sem.run_bind, Sem.run_pure, Result.andThen_ok, List.map_toArray, List.map_cons, List.map_nil, hxe, VRep.p_eq (hs.ev hy), hrun]
  rw [hexec]
  exact hK g _ _ _ rfl ((hs.frzStr hr hnl b.size).put o.dst (dok_spec (s := s) hd) (.d _ _ (.p _)))
end
end Go.Proofs.YtkikceoccmoanaaGreatDoor
namespace Go.Proofs.YtkikceoccmoanaaGreatDoor
open Go.RowKit
set_option linter.unusedSimpArgs false
set_option linter.unusedVariables false
set_option maxRecDepth 100000

/-- What is asked of a type that holds a Builder, and nothing else. -/
structure BOk (ty : TypeId) : Prop where
 c0 : 0 < Tryz.prog.cellsOf ty
 c2 : Tryz.prog.cellsOf ty ≤ 2
 row : rowAt Tryz.prog (fun x => sameLayout Tryz.prog Tryz.prog.depth x 57) Tryz.prog.depth ty 1 0 1 = true
/-- A Builder that has written s: a tells whether it knows itself, z whether its buffer is nil. -/
abbrev bT (ty : TypeId) (z : Bool) (s : ByteArray) (H0 : List (Nat × Row)) : List (Nat × Row) := (900, ⟨ty, [.ref 900 0, .own 901 1 s.size z], false, 0⟩) :: (901, ⟨5, strV s, z, 1⟩) :: H0
abbrev bF (ty : TypeId) (z : Bool) (s : ByteArray) (H0 : List (Nat × Row)) : List (Nat × Row) := (900, ⟨ty, [.d (.p (.pointer none)), .own 901 1 s.size z], false, 0⟩) :: (901, ⟨5, strV s, z, 1⟩) :: H0
def bH (ty : TypeId) (a z : Bool) (s : ByteArray) (H0 : List (Nat × Row)) : List (Nat × Row) := match a with
 | true => bT ty z s H0
 | false => bF ty z s H0
section
variable {ty : TypeId} {H0 : List (Nat × Row)} {K : List V}
theorem pc_copyF (hk : BOk ty) (z : Bool) (s : ByteArray) (hl : Lw H0 K) : PC Tryz.prog 62 [.ref 900 0] (bF ty z s H0) K (fun v H' K' => v = .tup [] ∧ H' = bT ty z s H0 ∧ K' = K) := by
 obtain ⟨k0, k1, k2⟩ := hk
 refine PC.intro (n := 20) ⟨Tryz.func62, rfl, rfl, rfl, rfl⟩ (by simp) fun w0 out kx => AW.weaken ?_
 simp only [enum]
 refine AW.seq ?_
 refine AW.region ?_
 refine AL.rp rfl rfl (rp_move rfl rfl) ?_
 (first | (refine AL.rp rfl rfl (rp_nilCheck rfl rfl) ?_) | (refine AL.rp rfl rfl (rp_nilCheck_ad rfl rfl) ?_))
 (first | (refine AL.rp rfl rfl (rp_field_ref Tryz.underlying57 rfl rfl rfl inf54 (by decide) rfl) ?_) | (refine AL.rp rfl rfl (rp_field_ad Tryz.underlying57 rfl rfl rfl inf54 (by decide) rfl) ?_))
 (first | (refine AL.rd rfl rfl (rd_load_ref Tryz.underlying54 rfl rfl rfl rfl rfl rfl) ?_) | (refine AL.rd rfl rfl (rd_load_ad Tryz.underlying54 rfl rfl rfl rfl) ?_) | (refine AL.rd rfl rfl (rd_load_map Tryz.underlying54 rfl rfl rfl rfl rfl rfl (by assumption)) ?_) | (refine AL.rd rfl rfl (rd_load_flat Tryz.underlying54 rfl rfl rfl rfl rfl rfl (fun _ => rfl) (by assumption) rfl) ?_))
 (first | (refine AL.rp rfl rfl (rp_eqlp_ad Tryz.underlying54 rfl rfl rfl) ?_) | (refine AL.rp rfl rfl (rp_eqlp_nil Tryz.underlying54 rfl rfl rfl) ?_) | (refine AL.rp rfl rfl (rp_eqlp_own Tryz.underlying54 rfl rfl rfl) ?_))
 refine AL.nil ?_
 try simp only [thenS, S.put, enum, List.nil_append, List.cons_append, List.append_nil, Nat.zero_add, Nat.reduceAdd]
 refine AW.condT rfl ?_
 refine AW.region ?_
 refine AL.rp rfl rfl (rp_move rfl rfl) ?_
 refine AL.rp rfl rfl (rp_move rfl rfl) ?_
 refine AL.rd rfl rfl (rd_to_unsafe Tryz.underlying54 Tryz.underlying112 inf57 (by decide) rfl rfl rfl rfl (by first | decide | exact Nat.succ_pos _)) ?_
 refine AL.rp rfl rfl (rp_noescape Tryz.func81 (by kernel_rfl) (by kernel_rfl) (by kernel_rfl) (by kernel_rfl) rfl rfl rfl) ?_
 refine AL.rd rfl rfl (rd_from_unsafe Tryz.underlying112 Tryz.underlying54 inf57 rfl rfl rfl rfl (by first | assumption | exact Nat.le_of_ble_eq_true (by kernel_rfl)) (by first | assumption | exact Nat.le_of_ble_eq_true (by kernel_rfl)) (by first | assumption | kernel_rfl)) ?_
 (first | (refine AL.rp rfl rfl (rp_nilCheck rfl rfl) ?_) | (refine AL.rp rfl rfl (rp_nilCheck_ad rfl rfl) ?_))
 (first | (refine AL.rp rfl rfl (rp_field_ref Tryz.underlying57 rfl rfl rfl inf54 (by decide) rfl) ?_) | (refine AL.rp rfl rfl (rp_field_ad Tryz.underlying57 rfl rfl rfl inf54 (by decide) rfl) ?_))
 (first | (refine AL.st rfl (st_store_map2 inf54 rfl rfl rfl rfl rfl rfl rfl rfl (by first | assumption | omega)) ?_) | (refine AL.st rfl (st_store inf54 rfl rfl rfl rfl rfl rfl rfl (by first | decide | (simp; done)) rfl) ?_))
 refine AL.nil ?_
 try simp only [thenS, S.put, S.newObj, setL, V.cs, List.length_cons, List.length_nil, List.take_succ_cons, List.take_zero, List.drop_succ_cons, List.drop_zero, List.drop_nil, List.nil_append, List.cons_append, List.append_nil, Nat.zero_add, Nat.reduceAdd, List.map_cons, List.map_nil, List.set_cons_zero, List.set_cons_succ]
 exact ⟨_, Less.hp (T := []) trivial rfl rfl (fun k row h => hl.low (T := [_, _, _]) (by rfl) k row h), [], trivial, rfl, rfl, rfl⟩
theorem pc_copyT (hk : BOk ty) (z : Bool) (s : ByteArray) (hl : Lw H0 K) : PC Tryz.prog 62 [.ref 900 0] (bT ty z s H0) K (fun v H' K' => v = .tup [] ∧ H' = bT ty z s H0 ∧ K' = K) := by
 obtain ⟨k0, k1, k2⟩ := hk
 refine PC.intro (n := 20) ⟨Tryz.func62, rfl, rfl, rfl, rfl⟩ (by simp) fun w0 out kx => AW.weaken ?_
 simp only [enum]
 refine AW.seq ?_
 refine AW.region ?_
 refine AL.rp rfl rfl (rp_move rfl rfl) ?_
 (first | (refine AL.rp rfl rfl (rp_nilCheck rfl rfl) ?_) | (refine AL.rp rfl rfl (rp_nilCheck_ad rfl rfl) ?_))
 (first | (refine AL.rp rfl rfl (rp_field_ref Tryz.underlying57 rfl rfl rfl inf54 (by decide) rfl) ?_) | (refine AL.rp rfl rfl (rp_field_ad Tryz.underlying57 rfl rfl rfl inf54 (by decide) rfl) ?_))
 (first | (refine AL.rd rfl rfl (rd_load_ref Tryz.underlying54 rfl rfl rfl rfl rfl rfl) ?_) | (refine AL.rd rfl rfl (rd_load_ad Tryz.underlying54 rfl rfl rfl rfl) ?_) | (refine AL.rd rfl rfl (rd_load_map Tryz.underlying54 rfl rfl rfl rfl rfl rfl (by assumption)) ?_) | (refine AL.rd rfl rfl (rd_load_flat Tryz.underlying54 rfl rfl rfl rfl rfl rfl (fun _ => rfl) (by assumption) rfl) ?_))
 (first | (refine AL.rp rfl rfl (rp_eqlp_ad Tryz.underlying54 rfl rfl rfl) ?_) | (refine AL.rp rfl rfl (rp_eqlp_nil Tryz.underlying54 rfl rfl rfl) ?_) | (refine AL.rp rfl rfl (rp_eqlp_own Tryz.underlying54 rfl rfl rfl) ?_))
 refine AL.nil ?_
 try simp only [thenS, S.put, enum, List.nil_append, List.cons_append, List.append_nil, Nat.zero_add, Nat.reduceAdd]
 refine AW.condF rfl ?_
 refine AW.seq ?_
 refine AW.region ?_
 refine AL.rp rfl rfl (rp_move rfl rfl) ?_
 (first | (refine AL.rp rfl rfl (rp_nilCheck rfl rfl) ?_) | (refine AL.rp rfl rfl (rp_nilCheck_ad rfl rfl) ?_))
 (first | (refine AL.rp rfl rfl (rp_field_ref Tryz.underlying57 rfl rfl rfl inf54 (by decide) rfl) ?_) | (refine AL.rp rfl rfl (rp_field_ad Tryz.underlying57 rfl rfl rfl inf54 (by decide) rfl) ?_))
 (first | (refine AL.rd rfl rfl (rd_load_ref Tryz.underlying54 rfl rfl rfl rfl rfl rfl) ?_) | (refine AL.rd rfl rfl (rd_load_ad Tryz.underlying54 rfl rfl rfl rfl) ?_) | (refine AL.rd rfl rfl (rd_load_map Tryz.underlying54 rfl rfl rfl rfl rfl rfl (by assumption)) ?_) | (refine AL.rd rfl rfl (rd_load_flat Tryz.underlying54 rfl rfl rfl rfl rfl rfl (fun _ => rfl) (by assumption) rfl) ?_))
 refine AL.rp rfl rfl (rp_move rfl rfl) ?_
 (first | (refine AL.rp rfl rfl (rp_neqp_ad Tryz.underlying54 rfl rfl rfl) ?_) | (refine AL.rp rfl rfl (rp_neqp_nil Tryz.underlying54 rfl rfl rfl) ?_) | (refine AL.rp rfl rfl (rp_neqp_same Tryz.underlying54 inf57 rfl rfl rfl) ?_))
 refine AL.nil ?_
 try simp only [thenS, S.put]
 refine AW.condF rfl ?_
 refine AW.skip ?_
 try simp only [thenS]
 exact ⟨_, Less.hp (T := []) trivial rfl rfl (fun k row h => hl.low (T := [_, _]) (by rfl) k row h), [], trivial, rfl, rfl, rfl⟩
theorem pc_copy (hk : BOk ty) (a z : Bool) (s : ByteArray) (hl : Lw H0 K) : PC Tryz.prog 62 [.ref 900 0] (bH ty a z s H0) K (fun v H' K' => v = .tup [] ∧ H' = bT ty z s H0 ∧ K' = K) := by
 cases a
 ·exact pc_copyF hk z s hl
 ·exact pc_copyT hk z s hl
theorem pc_WriteString (hk : BOk ty) (a z : Bool) (s t : ByteArray) (hl : Lw H0 K) (ht : 0 < t.size) (hst : s.size + t.size ≤ 140737488355328) : PC Tryz.prog 41 [.ref 900 0, .s t] (bH ty a z s H0) K (fun v H' K' => v = .tup [.i (t.size : Int), .d (.p .nilIface)] ∧ H' = bT ty false (s ++ t) H0 ∧ K' = K) := by
 have hcp := fun K (hl : Lw H0 K) => pc_copy hk a z s hl
 have hsl := strV_len s
 refine PC.intro (n := 19) ⟨Tryz.func41, rfl, rfl, rfl, rfl⟩ (by simp) fun w0 out kx => AW.weaken ?_
 simp only [enum]
 refine AW.seq ?_
 refine AW.region ?_
 refine AL.rp rfl rfl (rp_assign rfl rfl) ?_
 refine AL.rp rfl rfl (rp_assign rfl rfl) ?_
 refine AL.nil ?_
 try simp only [thenS, S.put, enum, List.nil_append, List.cons_append, List.append_nil, Nat.zero_add, Nat.reduceAdd]
 refine AW.seq ?_
 refine AW.region ?_
 refine AL.rp rfl rfl (rp_move rfl rfl) ?_
 try simp only [S.put, S.newObj, setL, V.cs, List.length_cons, List.length_nil, List.take_succ_cons, List.take_zero, List.drop_succ_cons, List.drop_zero, List.drop_nil, List.nil_append, List.cons_append, List.append_nil, Nat.zero_add, Nat.reduceAdd]
 refine AL.pc [0, 1] (ts := [_, _]) (args := [_]) (post := ?pc0) ?hc0 rfl rfl rfl rfl rfl rfl rfl rfl rfl ?_
 case hc0 => (refine hcp _ (hl.keepL _ ?_) <;> first | rfl | (simp [V.lowL, V.low]; done))
 rintro _ _ _ ⟨rfl, rfl, rfl⟩
 simp only [back, S.put, List.cons_append, List.nil_append, List.zip_cons_cons, List.zip_nil_left, List.drop_succ_cons, List.drop_zero, List.length_cons, List.length_nil, Nat.zero_add, Nat.reduceAdd]
 refine AL.nil ?_
 try simp only [thenS, S.put]
 refine AW.seq ?_
 refine AW.region ?_
 refine AL.rp rfl rfl (rp_move rfl rfl) ?_
 refine AL.rp rfl rfl (rp_move rfl rfl) ?_
 (first | (refine AL.rp rfl rfl (rp_nilCheck rfl rfl) ?_) | (refine AL.rp rfl rfl (rp_nilCheck_ad rfl rfl) ?_))
 (first | (refine AL.rp rfl rfl (rp_field_ref Tryz.underlying57 rfl rfl rfl inf55 (by decide) rfl) ?_) | (refine AL.rp rfl rfl (rp_field_ad Tryz.underlying57 rfl rfl rfl inf55 (by decide) rfl) ?_))
 (first | (refine AL.rd rfl rfl (rd_load_ref Tryz.underlying55 rfl rfl rfl rfl rfl rfl) ?_) | (refine AL.rd rfl rfl (rd_load_ad Tryz.underlying55 rfl rfl rfl rfl) ?_) | (refine AL.rd rfl rfl (rd_load_map Tryz.underlying55 rfl rfl rfl rfl rfl rfl (by assumption)) ?_) | (refine AL.rd rfl rfl (rd_load_flat Tryz.underlying55 rfl rfl rfl rfl rfl rfl (fun _ => rfl) (by assumption) rfl) ?_))
 refine AL.rp rfl rfl (rp_move rfl rfl) ?_
 refine AL.st rfl (st_append_strF Tryz.underlying55 Tryz.underlying9 inf5 rfl rfl rfl rfl rfl rfl rfl (by first | assumption | rfl | (simp; done)) (by first | rfl | exact strV_has _ _ | (refine S.clean_hp (L := []) hl (by decide) ?_ ?_ <;> simp [S.put, S.newObj, S.forget, enum, V.has, V.hasL, junkIf, setL, V.cs, hasL_i, hasL_b, hasL_s, hasL_n, hasL_rep, hasL_flat, hasL_append, strV_has, -List.map_set]) | (refine S.clean_hp (L := [_]) hl (by decide) ?_ ?_ <;> simp [S.put, S.newObj, S.forget, enum, V.has, V.hasL, junkIf, setL, V.cs, hasL_i, hasL_b, hasL_s, hasL_n, hasL_rep, hasL_flat, hasL_append, strV_has, -List.map_set]) | (refine S.clean_hp (L := [_, _]) hl (by decide) ?_ ?_ <;> simp [S.put, S.newObj, S.forget, enum, V.has, V.hasL, junkIf, setL, V.cs, hasL_i, hasL_b, hasL_s, hasL_n, hasL_rep, hasL_flat, hasL_append, strV_has, -List.map_set]) | (refine S.clean_hp (L := [_, _, _]) hl (by decide) ?_ ?_ <;> simp [S.put, S.newObj, S.forget, enum, V.has, V.hasL, junkIf, setL, V.cs, hasL_i, hasL_b, hasL_s, hasL_n, hasL_rep, hasL_flat, hasL_append, strV_has, -List.map_set]) | (refine S.clean_hp (L := [_, _, _, _]) hl (by decide) ?_ ?_ <;> simp [S.put, S.newObj, S.forget, enum, V.has, V.hasL, junkIf, setL, V.cs, hasL_i, hasL_b, hasL_s, hasL_n, hasL_rep, hasL_flat, hasL_append, strV_has, -List.map_set]) | (refine S.clean_hp (L := [_, _, _, _, _]) hl (by decide) ?_ ?_ <;> simp [S.put, S.newObj, S.forget, enum, V.has, V.hasL, junkIf, setL, V.cs, hasL_i, hasL_b, hasL_s, hasL_n, hasL_rep, hasL_flat, hasL_append, strV_has, -List.map_set]) | (refine S.clean_hp (L := [_, _, _, _, _, _]) hl (by decide) ?_ ?_ <;> simp [S.put, S.newObj, S.forget, enum, V.has, V.hasL, junkIf, setL, V.cs, hasL_i, hasL_b, hasL_s, hasL_n, hasL_rep, hasL_flat, hasL_append, strV_has, -List.map_set]) | simp [S.put, S.newObj, S.forget, enum, V.has, V.hasL, junkIf, setL, V.cs, hasL_i, hasL_b, hasL_s, hasL_n, hasL_rep, hasL_flat, hasL_append, strV_has, -List.map_set]) rfl (by first | assumption | omega) (by first | assumption | omega) rfl) ?_
 simp only [S.forget, S.put, S.newObj, List.filter_cons, Nat.reduceBNe, bne_self_eq_false, if_true, if_false, Bool.false_eq_true, ↓reduceIte, List.map_cons, hl.forgetK 901 (by decide), hl.forgetH 901 (by decide)]
 simp only [S.forget, S.put, S.newObj, junkIf, V.has, V.hasL, hasL_i, hasL_b, hasL_s, hasL_d, hasL_n, hasL_rep, hasL_flat, hasL_append, List.map_cons, List.map_nil, List.filter_cons, List.filter_nil, Nat.reduceBNe, Nat.reduceBEq, eq_self, bne_self_eq_false,  Bool.not_true, Bool.not_false, Bool.or_false, Bool.or_true, Bool.false_or, Bool.true_or, if_true, if_false, Bool.false_eq_true, ite_true, ite_false, ↓reduceIte, beq_self_eq_true, Nat.reduceEqDiff]
 (first | (refine AL.rp rfl rfl (rp_nilCheck rfl rfl) ?_) | (refine AL.rp rfl rfl (rp_nilCheck_ad rfl rfl) ?_))
 (first | (refine AL.rp rfl rfl (rp_field_ref Tryz.underlying57 rfl rfl rfl inf55 (by decide) rfl) ?_) | (refine AL.rp rfl rfl (rp_field_ad Tryz.underlying57 rfl rfl rfl inf55 (by decide) rfl) ?_))
 (first | (refine AL.st rfl (st_store_map2 inf55 rfl rfl rfl rfl rfl rfl rfl rfl (by first | assumption | omega)) ?_) | (refine AL.st rfl (st_store inf55 rfl rfl rfl rfl rfl rfl rfl (by first | decide | (simp; done)) rfl) ?_))
 refine AL.nil ?_
 try simp only [thenS, S.put, S.newObj, setL, V.cs, List.length_cons, List.length_nil, List.take_succ_cons, List.take_zero, List.drop_succ_cons, List.drop_zero, List.drop_nil, List.nil_append, List.cons_append, List.append_nil, Nat.zero_add, Nat.reduceAdd, List.map_cons, List.map_nil, List.set_cons_zero, List.set_cons_succ]
 refine AW.seq ?_
 refine AW.region ?_
 refine AL.rp rfl rfl (rp_move rfl rfl) ?_
 (first | (refine AL.rp rfl rfl (rp_len_map Tryz.underlying9 rfl rfl (by assumption)) ?_) | (refine AL.rp rfl rfl (rp_len_own Tryz.underlying9 rfl rfl) ?_) | (refine AL.rp rfl rfl (rp_len_sl Tryz.underlying9 rfl rfl) ?_) | (refine AL.rp rfl rfl (rp_len_nil Tryz.underlying9 rfl rfl) ?_) | (refine AL.rp rfl rfl (rp_len_str Tryz.underlying9 rfl rfl) ?_))
 refine AL.rp rfl rfl (rp_assign rfl rfl) ?_
 refine AL.rp rfl rfl (rp_assign rfl rfl) ?_
 refine AL.nil ?_
 try simp only [thenS, S.put]
 refine AW.ret ?_
 refine ⟨_, Less.hp (T := [(4, _), (5, _)]) ⟨⟨_, rfl, Wk.refl _⟩, ⟨_, rfl, Wk.refl _⟩, trivial⟩ rfl rfl (fun k row h => hl.low (T := [_, _, _]) (by rfl) k row h), [_, _], ⟨rfl, rfl, trivial⟩, rfl, ?_, rfl⟩
 show (900, (⟨ty, [.ref 900 0, .own 901 1 (s.size + t.size) false], false, 0⟩ : Row)) :: (901, ⟨5, strV s ++ strV t, false, 1⟩) :: H0 = _
 rw [← strV_app, ← ByteArray.size_append]
theorem pc_WriteByte (hk : BOk ty) (a z : Bool) (s : ByteArray) (c : UInt8) (hl : Lw H0 K) (hst : s.size + 1 ≤ 140737488355328) : PC Tryz.prog 43 [.ref 900 0, .d (.p (.int .u8 (c.toNat : Int)))] (bH ty a z s H0) K (fun v H' K' => H' = bT ty false (s ++ ⟨#[c]⟩) H0 ∧ K' = K) := by
 have hcp := fun K (hl : Lw H0 K) => pc_copy hk a z s hl
 have hsl : (strV s).length = s.size * 1 := by rw [strV_len]; omega
 refine PC.intro (n := 17) ⟨Tryz.func43, rfl, rfl, rfl, rfl⟩ (by simp) fun w0 out kx => AW.weaken ?_
 simp only [enum]
 refine AW.seq ?_
 refine AW.region ?_
 refine AL.rp rfl rfl (rp_assign rfl rfl) ?_
 refine AL.nil ?_
 try simp only [thenS, S.put, enum, List.nil_append, List.cons_append, List.append_nil, Nat.zero_add, Nat.reduceAdd]
 refine AW.seq ?_
 refine AW.region ?_
 refine AL.rp rfl rfl (rp_move rfl rfl) ?_
 try simp only [S.put, S.newObj, setL, V.cs, List.length_cons, List.length_nil, List.take_succ_cons, List.take_zero, List.drop_succ_cons, List.drop_zero, List.drop_nil, List.nil_append, List.cons_append, List.append_nil, Nat.zero_add, Nat.reduceAdd]
 refine AL.pc [0, 1] (ts := [_, _]) (args := [_]) (post := ?pc1) ?hc1 rfl rfl rfl rfl rfl rfl rfl rfl rfl ?_
 case hc1 => (refine hcp _ (hl.keepL _ ?_) <;> first | rfl | (simp [V.lowL, V.low]; done))
 rintro _ _ _ ⟨rfl, rfl, rfl⟩
 simp only [back, S.put, List.cons_append, List.nil_append, List.zip_cons_cons, List.zip_nil_left, List.drop_succ_cons, List.drop_zero, List.length_cons, List.length_nil, Nat.zero_add, Nat.reduceAdd]
 refine AL.nil ?_
 try simp only [thenS, S.put]
 refine AW.seq ?_
 refine AW.region ?_
 refine AL.rp rfl rfl (rp_move rfl rfl) ?_
 refine AL.rp rfl rfl (rp_move rfl rfl) ?_
 (first | (refine AL.rp rfl rfl (rp_nilCheck rfl rfl) ?_) | (refine AL.rp rfl rfl (rp_nilCheck_ad rfl rfl) ?_))
 (first | (refine AL.rp rfl rfl (rp_field_ref Tryz.underlying57 rfl rfl rfl inf55 (by decide) rfl) ?_) | (refine AL.rp rfl rfl (rp_field_ad Tryz.underlying57 rfl rfl rfl inf55 (by decide) rfl) ?_))
 (first | (refine AL.rd rfl rfl (rd_load_ref Tryz.underlying55 rfl rfl rfl rfl rfl rfl) ?_) | (refine AL.rd rfl rfl (rd_load_ad Tryz.underlying55 rfl rfl rfl rfl) ?_) | (refine AL.rd rfl rfl (rd_load_map Tryz.underlying55 rfl rfl rfl rfl rfl rfl (by assumption)) ?_) | (refine AL.rd rfl rfl (rd_load_flat Tryz.underlying55 rfl rfl rfl rfl rfl rfl (fun _ => rfl) (by assumption) rfl) ?_))
 refine AL.rp rfl rfl (rp_move rfl rfl) ?_
 refine AL.sm rfl (sm_slice (vs := [(0, _)]) (zs := [.d (.p (.int .u8 0))]) 910 Tryz.underlying55 inf5 rfl rfl (by decide) (by decide) (by decide) rfl rfl rfl rfl (by first | rfl | (refine S.clean_hp (L := []) hl (by decide) ?_ ?_ <;> simp [S.put, S.newObj, S.forget, enum, V.has, V.hasL, junkIf, setL, V.cs, hasL_i, hasL_b, hasL_s, hasL_n, hasL_rep, hasL_flat, hasL_append, strV_has, -List.map_set]) | (refine S.clean_hp (L := [_]) hl (by decide) ?_ ?_ <;> simp [S.put, S.newObj, S.forget, enum, V.has, V.hasL, junkIf, setL, V.cs, hasL_i, hasL_b, hasL_s, hasL_n, hasL_rep, hasL_flat, hasL_append, strV_has, -List.map_set]) | (refine S.clean_hp (L := [_, _]) hl (by decide) ?_ ?_ <;> simp [S.put, S.newObj, S.forget, enum, V.has, V.hasL, junkIf, setL, V.cs, hasL_i, hasL_b, hasL_s, hasL_n, hasL_rep, hasL_flat, hasL_append, strV_has, -List.map_set]) | (refine S.clean_hp (L := [_, _, _]) hl (by decide) ?_ ?_ <;> simp [S.put, S.newObj, S.forget, enum, V.has, V.hasL, junkIf, setL, V.cs, hasL_i, hasL_b, hasL_s, hasL_n, hasL_rep, hasL_flat, hasL_append, strV_has, -List.map_set]) | (refine S.clean_hp (L := [_, _, _, _]) hl (by decide) ?_ ?_ <;> simp [S.put, S.newObj, S.forget, enum, V.has, V.hasL, junkIf, setL, V.cs, hasL_i, hasL_b, hasL_s, hasL_n, hasL_rep, hasL_flat, hasL_append, strV_has, -List.map_set]) | (refine S.clean_hp (L := [_, _, _, _, _]) hl (by decide) ?_ ?_ <;> simp [S.put, S.newObj, S.forget, enum, V.has, V.hasL, junkIf, setL, V.cs, hasL_i, hasL_b, hasL_s, hasL_n, hasL_rep, hasL_flat, hasL_append, strV_has, -List.map_set]) | (refine S.clean_hp (L := [_, _, _, _, _, _]) hl (by decide) ?_ ?_ <;> simp [S.put, S.newObj, S.forget, enum, V.has, V.hasL, junkIf, setL, V.cs, hasL_i, hasL_b, hasL_s, hasL_n, hasL_rep, hasL_flat, hasL_append, strV_has, -List.map_set]) | simp [S.put, S.newObj, S.forget, enum, V.has, V.hasL, junkIf, setL, V.cs, hasL_i, hasL_b, hasL_s, hasL_n, hasL_rep, hasL_flat, hasL_append, strV_has, -List.map_set]) (by first | rfl | (refine S.clean_hp (L := []) hl (by decide) ?_ ?_ <;> simp [S.put, S.newObj, S.forget, enum, V.has, V.hasL, junkIf, setL, V.cs, hasL_i, hasL_b, hasL_s, hasL_n, hasL_rep, hasL_flat, hasL_append, strV_has, -List.map_set]) | (refine S.clean_hp (L := [_]) hl (by decide) ?_ ?_ <;> simp [S.put, S.newObj, S.forget, enum, V.has, V.hasL, junkIf, setL, V.cs, hasL_i, hasL_b, hasL_s, hasL_n, hasL_rep, hasL_flat, hasL_append, strV_has, -List.map_set]) | (refine S.clean_hp (L := [_, _]) hl (by decide) ?_ ?_ <;> simp [S.put, S.newObj, S.forget, enum, V.has, V.hasL, junkIf, setL, V.cs, hasL_i, hasL_b, hasL_s, hasL_n, hasL_rep, hasL_flat, hasL_append, strV_has, -List.map_set]) | (refine S.clean_hp (L := [_, _, _]) hl (by decide) ?_ ?_ <;> simp [S.put, S.newObj, S.forget, enum, V.has, V.hasL, junkIf, setL, V.cs, hasL_i, hasL_b, hasL_s, hasL_n, hasL_rep, hasL_flat, hasL_append, strV_has, -List.map_set]) | (refine S.clean_hp (L := [_, _, _, _]) hl (by decide) ?_ ?_ <;> simp [S.put, S.newObj, S.forget, enum, V.has, V.hasL, junkIf, setL, V.cs, hasL_i, hasL_b, hasL_s, hasL_n, hasL_rep, hasL_flat, hasL_append, strV_has, -List.map_set]) | (refine S.clean_hp (L := [_, _, _, _, _]) hl (by decide) ?_ ?_ <;> simp [S.put, S.newObj, S.forget, enum, V.has, V.hasL, junkIf, setL, V.cs, hasL_i, hasL_b, hasL_s, hasL_n, hasL_rep, hasL_flat, hasL_append, strV_has, -List.map_set]) | (refine S.clean_hp (L := [_, _, _, _, _, _]) hl (by decide) ?_ ?_ <;> simp [S.put, S.newObj, S.forget, enum, V.has, V.hasL, junkIf, setL, V.cs, hasL_i, hasL_b, hasL_s, hasL_n, hasL_rep, hasL_flat, hasL_append, strV_has, -List.map_set]) | simp [S.put, S.newObj, S.forget, enum, V.has, V.hasL, junkIf, setL, V.cs, hasL_i, hasL_b, hasL_s, hasL_n, hasL_rep, hasL_flat, hasL_append, strV_has, -List.map_set]) rfl) ?_
 refine AL.st rfl (st_appendF Tryz.underlying55 inf5 rfl (by decide) rfl rfl rfl rfl rfl rfl (by first | assumption | rfl | (simp; done)) (by first | rfl | (refine S.clean_hp (L := []) hl (by decide) ?_ ?_ <;> simp [S.put, S.newObj, S.forget, enum, V.has, V.hasL, junkIf, setL, V.cs, hasL_i, hasL_b, hasL_s, hasL_n, hasL_rep, hasL_flat, hasL_append, strV_has, -List.map_set]) | (refine S.clean_hp (L := [_]) hl (by decide) ?_ ?_ <;> simp [S.put, S.newObj, S.forget, enum, V.has, V.hasL, junkIf, setL, V.cs, hasL_i, hasL_b, hasL_s, hasL_n, hasL_rep, hasL_flat, hasL_append, strV_has, -List.map_set]) | (refine S.clean_hp (L := [_, _]) hl (by decide) ?_ ?_ <;> simp [S.put, S.newObj, S.forget, enum, V.has, V.hasL, junkIf, setL, V.cs, hasL_i, hasL_b, hasL_s, hasL_n, hasL_rep, hasL_flat, hasL_append, strV_has, -List.map_set]) | (refine S.clean_hp (L := [_, _, _]) hl (by decide) ?_ ?_ <;> simp [S.put, S.newObj, S.forget, enum, V.has, V.hasL, junkIf, setL, V.cs, hasL_i, hasL_b, hasL_s, hasL_n, hasL_rep, hasL_flat, hasL_append, strV_has, -List.map_set]) | (refine S.clean_hp (L := [_, _, _, _]) hl (by decide) ?_ ?_ <;> simp [S.put, S.newObj, S.forget, enum, V.has, V.hasL, junkIf, setL, V.cs, hasL_i, hasL_b, hasL_s, hasL_n, hasL_rep, hasL_flat, hasL_append, strV_has, -List.map_set]) | (refine S.clean_hp (L := [_, _, _, _, _]) hl (by decide) ?_ ?_ <;> simp [S.put, S.newObj, S.forget, enum, V.has, V.hasL, junkIf, setL, V.cs, hasL_i, hasL_b, hasL_s, hasL_n, hasL_rep, hasL_flat, hasL_append, strV_has, -List.map_set]) | (refine S.clean_hp (L := [_, _, _, _, _, _]) hl (by decide) ?_ ?_ <;> simp [S.put, S.newObj, S.forget, enum, V.has, V.hasL, junkIf, setL, V.cs, hasL_i, hasL_b, hasL_s, hasL_n, hasL_rep, hasL_flat, hasL_append, strV_has, -List.map_set]) | simp [S.put, S.newObj, S.forget, enum, V.has, V.hasL, junkIf, setL, V.cs, hasL_i, hasL_b, hasL_s, hasL_n, hasL_rep, hasL_flat, hasL_append, strV_has, -List.map_set]) rfl rfl rfl rfl rfl (by first | rfl | (refine S.clean_hp (L := []) hl (by decide) ?_ ?_ <;> simp [S.put, S.newObj, S.forget, enum, V.has, V.hasL, junkIf, setL, V.cs, hasL_i, hasL_b, hasL_s, hasL_n, hasL_rep, hasL_flat, hasL_append, strV_has, -List.map_set]) | (refine S.clean_hp (L := [_]) hl (by decide) ?_ ?_ <;> simp [S.put, S.newObj, S.forget, enum, V.has, V.hasL, junkIf, setL, V.cs, hasL_i, hasL_b, hasL_s, hasL_n, hasL_rep, hasL_flat, hasL_append, strV_has, -List.map_set]) | (refine S.clean_hp (L := [_, _]) hl (by decide) ?_ ?_ <;> simp [S.put, S.newObj, S.forget, enum, V.has, V.hasL, junkIf, setL, V.cs, hasL_i, hasL_b, hasL_s, hasL_n, hasL_rep, hasL_flat, hasL_append, strV_has, -List.map_set]) | (refine S.clean_hp (L := [_, _, _]) hl (by decide) ?_ ?_ <;> simp [S.put, S.newObj, S.forget, enum, V.has, V.hasL, junkIf, setL, V.cs, hasL_i, hasL_b, hasL_s, hasL_n, hasL_rep, hasL_flat, hasL_append, strV_has, -List.map_set]) | (refine S.clean_hp (L := [_, _, _, _]) hl (by decide) ?_ ?_ <;> simp [S.put, S.newObj, S.forget, enum, V.has, V.hasL, junkIf, setL, V.cs, hasL_i, hasL_b, hasL_s, hasL_n, hasL_rep, hasL_flat, hasL_append, strV_has, -List.map_set]) | (refine S.clean_hp (L := [_, _, _, _, _]) hl (by decide) ?_ ?_ <;> simp [S.put, S.newObj, S.forget, enum, V.has, V.hasL, junkIf, setL, V.cs, hasL_i, hasL_b, hasL_s, hasL_n, hasL_rep, hasL_flat, hasL_append, strV_has, -List.map_set]) | (refine S.clean_hp (L := [_, _, _, _, _, _]) hl (by decide) ?_ ?_ <;> simp [S.put, S.newObj, S.forget, enum, V.has, V.hasL, junkIf, setL, V.cs, hasL_i, hasL_b, hasL_s, hasL_n, hasL_rep, hasL_flat, hasL_append, strV_has, -List.map_set]) | simp [S.put, S.newObj, S.forget, enum, V.has, V.hasL, junkIf, setL, V.cs, hasL_i, hasL_b, hasL_s, hasL_n, hasL_rep, hasL_flat, hasL_append, strV_has, -List.map_set]) rfl (by decide) (by omega) (by omega) rfl) ?_
 simp only [S.forget, S.put, S.newObj, List.filter_cons, Nat.reduceBNe, bne_self_eq_false, if_true, if_false, Bool.false_eq_true, ↓reduceIte, List.map_cons, hl.forgetK 901 (by decide), hl.forgetH 901 (by decide)]
 simp only [S.forget, S.put, S.newObj, junkIf, V.has, V.hasL, hasL_i, hasL_b, hasL_s, hasL_d, hasL_n, hasL_rep, hasL_flat, hasL_append, List.map_cons, List.map_nil, List.filter_cons, List.filter_nil, Nat.reduceBNe, Nat.reduceBEq, eq_self, bne_self_eq_false,  Bool.not_true, Bool.not_false, Bool.or_false, Bool.or_true, Bool.false_or, Bool.true_or, if_true, if_false, Bool.false_eq_true, ite_true, ite_false, ↓reduceIte, beq_self_eq_true, Nat.reduceEqDiff]
 (first | (refine AL.rp rfl rfl (rp_nilCheck rfl rfl) ?_) | (refine AL.rp rfl rfl (rp_nilCheck_ad rfl rfl) ?_))
 (first | (refine AL.rp rfl rfl (rp_field_ref Tryz.underlying57 rfl rfl rfl inf55 (by decide) rfl) ?_) | (refine AL.rp rfl rfl (rp_field_ad Tryz.underlying57 rfl rfl rfl inf55 (by decide) rfl) ?_))
 (first | (refine AL.st rfl (st_store_map2 inf55 rfl rfl rfl rfl rfl rfl rfl rfl (by first | assumption | omega)) ?_) | (refine AL.st rfl (st_store inf55 rfl rfl rfl rfl rfl rfl rfl (by first | decide | (simp; done)) rfl) ?_))
 refine AL.nil ?_
 try simp only [thenS, S.put, S.newObj, setL, V.cs, List.length_cons, List.length_nil, List.take_succ_cons, List.take_zero, List.drop_succ_cons, List.drop_zero, List.drop_nil, List.nil_append, List.cons_append, List.append_nil, Nat.zero_add, Nat.reduceAdd, List.map_cons, List.map_nil, List.set_cons_zero, List.set_cons_succ]
 refine AW.seq ?_
 refine AW.region ?_
 refine AL.rp rfl rfl (rp_assign rfl rfl) ?_
 refine AL.nil ?_
 try simp only [thenS, S.put]
 refine AW.ret ?_
 refine ⟨_, Less.hp (T := [(4, _)]) ⟨⟨_, rfl, Wk.refl _⟩, trivial⟩ rfl rfl (fun k row h => hl.low (T := [_, _, _, _]) (by rfl) k row h), [_], ⟨rfl, trivial⟩, ?_, rfl⟩
 show (900, (⟨ty, [.ref 900 0, .own 901 1 (s.size + (⟨#[c]⟩ : ByteArray).size) false], false, 0⟩ : Row)) :: (901, ⟨5, strV s ++ strV ⟨#[c]⟩, false, 1⟩) :: H0 = _
 rw [← strV_app, ← ByteArray.size_append]
theorem Less.same (s : S) : Less s s := ⟨rfl, fun i v h => ⟨v, h, .refl _⟩, fun k row h => ⟨row, h, rfl, rfl, rfl, fun j v hv => ⟨v, hv, .refl _⟩⟩, fun j v h => ⟨v, h, .refl _⟩⟩
theorem Less.h0 {s : S} {T : List (Nat × V)} {H1 : List (Nat × Row)} (hT : LT s T) (h3 : ∀ k row, fnd H1 k = some row → fnd s.H k = some row) : Less ⟨s.n, T, H1, s.K⟩ s :=
 ⟨rfl, fun i v h => hT.get i v h, fun k row h => ⟨row, h3 k row h, rfl, rfl, rfl, fun j v hv => ⟨v, hv, .refl _⟩⟩, fun j v h => ⟨v, h, .refl _⟩⟩
theorem pc_String (z : Bool) (s : ByteArray) (a : Bool) (hl : Lw H0 K) (hz : z = true ↔ s.size = 0) (hst : s.size ≤ 140737488355328) : PC Tryz.prog 24 [.ref 900 0] (bH ty a z s H0) K (fun v H' K' => v = .s s ∧ H' = H0 ∧ K' = K) := by
 cases z with
 | true =>
  have h0 : s.size = 0 := hz.1 rfl
  have hs : s = ⟨#[]⟩ := by
   cases s with | mk x =>
   congr 1
   exact Array.eq_empty_of_size_eq_zero h0
  cases a
  all_goals
   refine PC.intro (n := 14) ⟨Tryz.func24, rfl, rfl, rfl, rfl⟩ (by simp) fun w0 out kx => AW.weaken ?_
   simp only [enum, bH]
   refine AW.seq ?_
   refine AW.region ?_
   refine AL.rp rfl rfl (rp_assign rfl rfl) ?_
   refine AL.nil ?_
   try simp only [thenS, S.put, enum, List.nil_append, List.cons_append, List.append_nil, Nat.zero_add, Nat.reduceAdd]
   refine AW.seq ?_
   refine AW.draw [(0, true), (1, true), (2, true), (3, true), (4, true), (5, true), (6, true), (7, true), (8, true), (9, true), (10, false), (11, false)] (fun i => !([10, 11] : List Nat).contains i) 12 (by kernel_rfl) (by kernel_rfl) rfl (by kernel_rfl) ?_
   refine AD1.rp rfl rfl rfl (fun _ _ h => h) (rp_move rfl rfl) ?_
   (first | (refine AD1.rp rfl rfl rfl (fun _ _ h => h) (rp_nilCheck rfl rfl) ?_) | (refine AD1.rp rfl rfl rfl (fun _ _ h => h) (rp_nilCheck_ad rfl rfl) ?_))
   (first | (refine AD1.rp rfl rfl rfl (fun _ _ h => h) (rp_field_ref Tryz.underlying57 rfl rfl rfl inf55 (by decide) rfl) ?_) | (refine AD1.rp rfl rfl rfl (fun _ _ h => h) (rp_field_ad Tryz.underlying57 rfl rfl rfl inf55 (by decide) rfl) ?_))
   (first | (refine AD1.rd rfl rfl rfl (fun _ _ h => h) (rd_load_ref Tryz.underlying55 rfl rfl rfl rfl rfl rfl) ?_) | (refine AD1.rd rfl rfl rfl (fun _ _ h => h) (rd_load_ad Tryz.underlying55 rfl rfl rfl rfl) ?_) | (refine AD1.rd rfl rfl rfl (fun _ _ h => h) (rd_load_map Tryz.underlying55 rfl rfl rfl rfl rfl rfl (by assumption)) ?_) | (refine AD1.rd rfl rfl rfl (fun _ _ h => h) (rd_load_flat Tryz.underlying55 rfl rfl rfl rfl rfl rfl (fun _ => rfl) (by assumption) rfl) ?_))
   (first | (refine AD1.rp rfl rfl rfl (fun _ _ h => h) (rp_sliceData rfl rfl (by first | assumption | omega)) ?_) | (refine AD1.rp rfl rfl rfl (fun _ _ h => h) (rp_sliceData0 rfl rfl) ?_))
   refine AD1.rp rfl rfl rfl (fun _ _ h => h) (rp_move rfl rfl) ?_
   (first | (refine AD1.rp rfl rfl rfl (fun _ _ h => h) (rp_nilCheck rfl rfl) ?_) | (refine AD1.rp rfl rfl rfl (fun _ _ h => h) (rp_nilCheck_ad rfl rfl) ?_))
   (first | (refine AD1.rp rfl rfl rfl (fun _ _ h => h) (rp_field_ref Tryz.underlying57 rfl rfl rfl inf55 (by decide) rfl) ?_) | (refine AD1.rp rfl rfl rfl (fun _ _ h => h) (rp_field_ad Tryz.underlying57 rfl rfl rfl inf55 (by decide) rfl) ?_))
   (first | (refine AD1.rd rfl rfl rfl (fun _ _ h => h) (rd_load_ref Tryz.underlying55 rfl rfl rfl rfl rfl rfl) ?_) | (refine AD1.rd rfl rfl rfl (fun _ _ h => h) (rd_load_ad Tryz.underlying55 rfl rfl rfl rfl) ?_) | (refine AD1.rd rfl rfl rfl (fun _ _ h => h) (rd_load_map Tryz.underlying55 rfl rfl rfl rfl rfl rfl (by assumption)) ?_) | (refine AD1.rd rfl rfl rfl (fun _ _ h => h) (rd_load_flat Tryz.underlying55 rfl rfl rfl rfl rfl rfl (fun _ => rfl) (by assumption) rfl) ?_))
   (first | (refine AD1.rp rfl rfl rfl (fun _ _ h => h) (rp_len_map Tryz.underlying55 rfl rfl (by assumption)) ?_) | (refine AD1.rp rfl rfl rfl (fun _ _ h => h) (rp_len_own Tryz.underlying55 rfl rfl) ?_) | (refine AD1.rp rfl rfl rfl (fun _ _ h => h) (rp_len_sl Tryz.underlying55 rfl rfl) ?_) | (refine AD1.rp rfl rfl rfl (fun _ _ h => h) (rp_len_nil Tryz.underlying55 rfl rfl) ?_) | (refine AD1.rp rfl rfl rfl (fun _ _ h => h) (rp_len_str Tryz.underlying55 rfl rfl) ?_))
   refine AD1.go ?_
   refine AD2.go ?_
   (first | (refine AD3.rp1 rfl rfl rfl rfl (rp_ustr0 rfl rfl rfl (by first | rfl | assumption | omega)) ?_) | (refine AD3.st rfl rfl rfl (st_ustr Tryz.underlying81 (by kernel_rfl) rfl rfl rfl (by first | rfl | omega) (by first | assumption | omega) (by first | assumption | omega) rfl rfl rfl (by first | rfl | assumption) rfl) ?_))
   refine AD3.rp1 rfl rfl rfl rfl (rp_assign rfl rfl) ?_
   refine AD3.nil ?_
   try simp only [thenS, S.put, S.newObj, setL, V.cs, List.length_cons, List.length_nil, List.take_succ_cons, List.take_zero, List.drop_succ_cons, List.drop_zero, List.drop_nil, List.nil_append, List.cons_append, List.append_nil, Nat.zero_add, Nat.reduceAdd, List.map_cons, List.map_nil, List.set_cons_zero, List.set_cons_succ]
   refine AW.ret ?_
   exact ⟨_, Less.h0 (T := [(2, _)]) ⟨⟨_, rfl, Wk.refl _⟩, trivial⟩ (fun k row h => hl.low (T := [_, _]) (by rfl) k row h), [_], ⟨rfl, trivial⟩, by rw [hs]; rfl, rfl, rfl⟩
 | false =>
  have h0 : 0 < s.size := by
   rcases Nat.eq_zero_or_pos s.size with h | h
   ·have := hz.2 h
    cases this
   ·exact h
  cases a
  all_goals
   refine PC.intro (n := 14) ⟨Tryz.func24, rfl, rfl, rfl, rfl⟩ (by simp) fun w0 out kx => AW.weaken ?_
   simp only [enum, bH]
   refine AW.seq ?_
   refine AW.region ?_
   refine AL.rp rfl rfl (rp_assign rfl rfl) ?_
   refine AL.nil ?_
   try simp only [thenS, S.put, enum, List.nil_append, List.cons_append, List.append_nil, Nat.zero_add, Nat.reduceAdd]
   refine AW.seq ?_
   refine AW.draw [(0, true), (1, true), (2, true), (3, true), (4, true), (5, true), (6, true), (7, true), (8, true), (9, true), (10, false), (11, false)] (fun i => !([10, 11] : List Nat).contains i) 12 (by kernel_rfl) (by kernel_rfl) rfl (by kernel_rfl) ?_
   refine AD1.rp rfl rfl rfl (fun _ _ h => h) (rp_move rfl rfl) ?_
   (first | (refine AD1.rp rfl rfl rfl (fun _ _ h => h) (rp_nilCheck rfl rfl) ?_) | (refine AD1.rp rfl rfl rfl (fun _ _ h => h) (rp_nilCheck_ad rfl rfl) ?_))
   (first | (refine AD1.rp rfl rfl rfl (fun _ _ h => h) (rp_field_ref Tryz.underlying57 rfl rfl rfl inf55 (by decide) rfl) ?_) | (refine AD1.rp rfl rfl rfl (fun _ _ h => h) (rp_field_ad Tryz.underlying57 rfl rfl rfl inf55 (by decide) rfl) ?_))
   (first | (refine AD1.rd rfl rfl rfl (fun _ _ h => h) (rd_load_ref Tryz.underlying55 rfl rfl rfl rfl rfl rfl) ?_) | (refine AD1.rd rfl rfl rfl (fun _ _ h => h) (rd_load_ad Tryz.underlying55 rfl rfl rfl rfl) ?_) | (refine AD1.rd rfl rfl rfl (fun _ _ h => h) (rd_load_map Tryz.underlying55 rfl rfl rfl rfl rfl rfl (by assumption)) ?_) | (refine AD1.rd rfl rfl rfl (fun _ _ h => h) (rd_load_flat Tryz.underlying55 rfl rfl rfl rfl rfl rfl (fun _ => rfl) (by assumption) rfl) ?_))
   (first | (refine AD1.rp rfl rfl rfl (fun _ _ h => h) (rp_sliceData rfl rfl (by first | assumption | omega)) ?_) | (refine AD1.rp rfl rfl rfl (fun _ _ h => h) (rp_sliceData0 rfl rfl) ?_))
   refine AD1.rp rfl rfl rfl (fun _ _ h => h) (rp_move rfl rfl) ?_
   (first | (refine AD1.rp rfl rfl rfl (fun _ _ h => h) (rp_nilCheck rfl rfl) ?_) | (refine AD1.rp rfl rfl rfl (fun _ _ h => h) (rp_nilCheck_ad rfl rfl) ?_))
   (first | (refine AD1.rp rfl rfl rfl (fun _ _ h => h) (rp_field_ref Tryz.underlying57 rfl rfl rfl inf55 (by decide) rfl) ?_) | (refine AD1.rp rfl rfl rfl (fun _ _ h => h) (rp_field_ad Tryz.underlying57 rfl rfl rfl inf55 (by decide) rfl) ?_))
   (first | (refine AD1.rd rfl rfl rfl (fun _ _ h => h) (rd_load_ref Tryz.underlying55 rfl rfl rfl rfl rfl rfl) ?_) | (refine AD1.rd rfl rfl rfl (fun _ _ h => h) (rd_load_ad Tryz.underlying55 rfl rfl rfl rfl) ?_) | (refine AD1.rd rfl rfl rfl (fun _ _ h => h) (rd_load_map Tryz.underlying55 rfl rfl rfl rfl rfl rfl (by assumption)) ?_) | (refine AD1.rd rfl rfl rfl (fun _ _ h => h) (rd_load_flat Tryz.underlying55 rfl rfl rfl rfl rfl rfl (fun _ => rfl) (by assumption) rfl) ?_))
   (first | (refine AD1.rp rfl rfl rfl (fun _ _ h => h) (rp_len_map Tryz.underlying55 rfl rfl (by assumption)) ?_) | (refine AD1.rp rfl rfl rfl (fun _ _ h => h) (rp_len_own Tryz.underlying55 rfl rfl) ?_) | (refine AD1.rp rfl rfl rfl (fun _ _ h => h) (rp_len_sl Tryz.underlying55 rfl rfl) ?_) | (refine AD1.rp rfl rfl rfl (fun _ _ h => h) (rp_len_nil Tryz.underlying55 rfl rfl) ?_) | (refine AD1.rp rfl rfl rfl (fun _ _ h => h) (rp_len_str Tryz.underlying55 rfl rfl) ?_))
   refine AD1.go ?_
   refine AD2.go ?_
   (first | (refine AD3.rp1 rfl rfl rfl rfl (rp_ustr0 rfl rfl rfl (by first | rfl | assumption | omega)) ?_) | (refine AD3.st rfl rfl rfl (st_ustr Tryz.underlying81 (by kernel_rfl) rfl rfl rfl (by first | rfl | omega) (by first | assumption | omega) (by first | assumption | omega) rfl rfl rfl (by first | rfl | assumption) rfl) ?_))
   refine AD3.rp1 rfl rfl rfl rfl (rp_assign rfl rfl) ?_
   refine AD3.nil ?_
   try simp only [thenS, S.put, S.newObj, setL, V.cs, List.length_cons, List.length_nil, List.take_succ_cons, List.take_zero, List.drop_succ_cons, List.drop_zero, List.drop_nil, List.nil_append, List.cons_append, List.append_nil, Nat.zero_add, Nat.reduceAdd, List.map_cons, List.map_nil, List.set_cons_zero, List.set_cons_succ]
   refine AW.ret ?_
   exact ⟨_, Less.h0 (T := [(2, _)]) ⟨⟨_, rfl, Wk.refl _⟩, trivial⟩ (fun k row h => by
    have hk : k ≠ 901 := by
     rintro rfl
     rw [hl.fnd 901 (by decide)] at h
     cases h
    refine (fnd_filter 901 _ _ hk).trans ?_
    exact hl.low (T := [_, _]) (by rfl) k row h), [_], ⟨rfl, trivial⟩, rfl, rfl, rfl⟩
end
end Go.Proofs.YtkikceoccmoanaaGreatDoor
namespace Go.Proofs.YtkikceoccmoanaaGreatDoor
set_option linter.unusedSimpArgs false
set_option linter.unusedVariables false

theorem ba_app (x y : List UInt8) : (⟨x.toArray⟩ : ByteArray) ++ ⟨y.toArray⟩ = ⟨(x ++ y).toArray⟩ := ByteArray.mk_append_mk x y
theorem ba_self (a : ByteArray) : (⟨a.data.toList.toArray⟩ : ByteArray) = a := by cases a; simp
theorem join2 (a b sep : ByteArray) : joinB [a, b] sep = a ++ sep ++ b := by
  have h : a ++ sep ++ b = ⟨(a.data.toList ++ sep.data.toList ++ b.data.toList).toArray⟩ := by
    rw [← ba_app, ← ba_app, ba_self, ba_self, ba_self]
  rw [h]
  simp [joinB, Lib.join, Lib.joinTail]
theorem join5 (a b c d e sep : ByteArray) : joinB [a, b, c, d, e] sep = a ++ sep ++ b ++ sep ++ c ++ sep ++ d ++ sep ++ e := by
  have h : a ++ sep ++ b ++ sep ++ c ++ sep ++ d ++ sep ++ e = ⟨(a.data.toList ++ sep.data.toList ++ b.data.toList ++ sep.data.toList ++ c.data.toList ++ sep.data.toList ++ d.data.toList ++ sep.data.toList ++ e.data.toList).toArray⟩ := by
    rw [← ba_app, ← ba_app, ← ba_app, ← ba_app, ← ba_app, ← ba_app, ← ba_app, ← ba_app, ba_self, ba_self, ba_self, ba_self, ba_self, ba_self]
  rw [h]
  simp [joinB, Lib.join, Lib.joinTail]
/-- What paper.Show writes. -/
theorem papS_line (s : ByteArray) (w : ByteArray) : s ++ (joinB [⟨#[115, 116, 97, 116, 101]⟩, w] ⟨#[32]⟩ ++ ⟨#[10]⟩) = s ++ ⟨#[115, 116, 97, 116, 101, 32]⟩ ++ w ++ sLF := by
  rw [join2]
  have h : (⟨#[115, 116, 97, 116, 101]⟩ : ByteArray) ++ ⟨#[32]⟩ = ⟨#[115, 116, 97, 116, 101, 32]⟩ := rfl
  rw [h]
  unfold sLF
  simp only [ByteArray.append_assoc]
theorem papA_line (s : ByteArray) (a : Ar) : s ++ (joinB [⟨#[97, 114, 99]⟩, decS a.t.toNat, decS a.i.toNat, decS a.o.toNat, decS a.w.toNat] ⟨#[32]⟩ ++ ⟨#[10]⟩) = papA s a := by
  rw [join5]
  have h : (⟨#[97, 114, 99]⟩ : ByteArray) ++ ⟨#[32]⟩ = ⟨#[97, 114, 99, 32]⟩ := rfl
  rw [h]
  unfold papA sSP sLF
  simp only [ByteArray.append_assoc]
theorem papH_line (st : Int) : joinB [⟨#[115, 116, 97, 114, 116]⟩, if 0 ≤ st then decS st.toNat else ⟨#[45]⟩] ⟨#[32]⟩ ++ ⟨#[10]⟩ = papH st := by
  rw [join2]
  have h : (⟨#[115, 116, 97, 114, 116]⟩ : ByteArray) ++ ⟨#[32]⟩ = ⟨#[115, 116, 97, 114, 116, 32]⟩ := rfl
  rw [h]
  unfold papH sLF
  split
  · rfl
  · rfl
end Go.Proofs.YtkikceoccmoanaaGreatDoor
namespace Go.Proofs.YtkikceoccmoanaaGreatDoor
open Go.RowKit
set_option linter.unusedSimpArgs false
set_option linter.unusedVariables false
set_option maxRecDepth 100000

section
variable {ty : TypeId} {H1 : List (Nat × Row)} {K : List V}
theorem bH_front {a z : Bool} {s : ByteArray} {row : Row} {n : Nat} {T : List (Nat × V)} : Less ⟨n, T, bH ty a z s ((890, row) :: H1), K⟩ ⟨n, T, (890, row) :: bH ty a z s H1, K⟩ :=
 ⟨rfl, fun i v h => ⟨v, h, .refl _⟩, fun k row' h => ⟨row', (by
  refine Eq.trans ?_ h
  cases a <;> simp only [bH, bT, bF, fnd, beq_iff_eq] <;> by_cases e1 : 890 = k <;> by_cases e2 : 900 = k <;> by_cases e3 : 901 = k <;> first | (exfalso; omega) | simp [e1, e2, e3]), rfl, rfl, rfl, fun j v hv => ⟨v, hv, .refl _⟩⟩, fun j v h => ⟨v, h, .refl _⟩⟩
theorem pc_line2 (hk : BOk ty) (a z : Bool) (s x0 x1 : ByteArray) (hl : Lw H1 K) (h890 : fnd H1 890 = none) (hj0 : 0 < (joinB [x0, x1] ⟨#[32]⟩).size) (hj1 : s.size + (joinB [x0, x1] ⟨#[32]⟩).size + 1 ≤ 140737488355328) : PC Tryz.prog 22 [.ref 900 0, .own 890 1 2 false] ((890, ⟨9, [.s x0, .s x1], false, 1⟩) :: bH ty a z s H1) K (fun v H' K' => v = .tup [] ∧ H' = bT ty false (s ++ (joinB [x0, x1] ⟨#[32]⟩ ++ ⟨#[10]⟩)) H1 ∧ K' = K) := by
 have hjl : (Lib.join ((([x0, x1] : List ByteArray)).map (·.data.toList)) (⟨#[32]⟩ : ByteArray).data.toList).length ≤ 140737488355328 := by
  have : (joinB [x0, x1] ⟨#[32]⟩).size = (Lib.join ((([x0, x1] : List ByteArray)).map (·.data.toList)) (⟨#[32]⟩ : ByteArray).data.toList).length := by simp [joinB, ByteArray.size]
  omega
 have hl2 : ∀ K, Lw H1 K → Lw ((890, ⟨9, [.s x0, .s x1], false, 1⟩) :: H1) K := fun K h => ⟨fun x hx => by
  rcases List.mem_cons.1 hx with rfl | hx
  ·exact ⟨by show 890 < 900; decide, rfl⟩
  ·exact h.obj x hx, h.keep⟩
 have hlow : ∀ (b r : Row) k row, fnd H1 k = some row → fnd ((900, b) :: (901, r) :: (890, ⟨9, [.s x0, .s x1], false, 1⟩) :: H1) k = some row := fun b r k row h => by
  have h1 : k ≠ 890 := by
   rintro rfl
   rw [h890] at h
   cases h
  have h2 : k < 900 := (hl.obj _ (fnd_mem h)).1
  simp only [fnd, beq_iff_eq]
  rw [if_neg (by omega), if_neg (by omega), if_neg (fun e => h1 e.symm)]
  exact h
 refine PC.intro (n := 14) ⟨Tryz.func22, rfl, rfl, rfl, rfl⟩ (by simp) fun w0 out kx => AW.weaken (AW.less bH_front ?_)
 simp only [enum]
 cases a
 ·skip
  refine AW.seq ?_
  refine AW.drawT (N := ?N13) (l := #[false, false, false, false, false, false]) 6 (by kernel_rfl) rfl rfl ?_ ?_
  rotate_left
  refine AN.rp (i := 0) (l' := #[true, false, false, false, false, false]) rfl rfl rfl (fun _ _ h => h) (by kernel_rfl) rfl (rp_move rfl rfl) ?_
  refine AN.rp (i := 3) (l' := #[true, false, false, true, false, false]) rfl rfl rfl (fun _ _ h => h) (by kernel_rfl) rfl (rp_move rfl rfl) ?_
  refine AN.br2 (i := 1) (j := 4) (by kernel_rfl) ?_ ?_
  ·refine BR.mk (l' := #[true, true, false, true, false, false]) rfl rfl rfl ?_
   (first | (refine ST.rp rfl (rp_nilCheck rfl rfl) ?_) | (refine ST.rp rfl (rp_nilCheck_ad rfl rfl) ?_))
   (first | (refine AN.rp (i := 2) (l' := #[true, true, true, true, false, false]) rfl rfl rfl (fun _ _ h => h) (by kernel_rfl) rfl (rp_field_ref Tryz.underlying59 rfl rfl rfl inf57 (by decide) rfl) ?_) | (refine AN.rp (i := 2) (l' := #[true, true, true, true, false, false]) rfl rfl rfl (fun _ _ h => h) (by kernel_rfl) rfl (rp_field_ad Tryz.underlying59 rfl rfl rfl inf57 (by decide) rfl) ?_))
   refine AN.br1 (i := 4) (by kernel_rfl) ?_
   refine BR.mk (l' := #[true, true, true, true, true, false]) rfl rfl rfl ?_
   refine ST.sm (sm_join ([x0, x1]) (join_fits _ _ (by simp) (by assumption)) ⟨Tryz.func42, rfl, rfl, rfl, rfl⟩ rfl rfl rfl rfl rfl rfl rfl rfl rfl) ?_
   try simp only [S.put]
   refine AN.br1 (i := 5) (by kernel_rfl) ?_
   refine BR.mk (l' := #[true, true, true, true, true, true]) rfl rfl rfl ?_
   try simp only [S.put, S.newObj, setL, V.cs, List.length_cons, List.length_nil, List.take_succ_cons, List.take_zero, List.drop_succ_cons, List.drop_zero, List.drop_nil, List.nil_append, List.cons_append, List.append_nil, Nat.zero_add, Nat.reduceAdd]
   refine ST.pc [0] (ts := [_]) (args := [_, _]) (post := ?pc13) ?hc13 rfl rfl rfl rfl rfl rfl rfl rfl rfl ?_
   case hc13 => (refine pc_WriteString hk false z s (joinB [x0, x1] ⟨#[32]⟩) (hl2 _ (hl.keepL _ ?_)) hj0 (by omega) <;> first | rfl | (simp [V.lowL, V.low]; done))
   rintro _ _ _ ⟨rfl, rfl, rfl⟩
   simp only [back, S.put, List.cons_append, List.nil_append, List.zip_cons_cons, List.zip_nil_left, List.drop_succ_cons, List.drop_zero, List.length_cons, List.length_nil, Nat.zero_add, Nat.reduceAdd]
   refine AN.nil (by kernel_rfl) ?_
   show Less _ _
   exact Less.same _
  ·refine BR.mk (l' := #[true, false, false, true, true, false]) rfl rfl rfl ?_
   refine ST.sm (sm_join ([x0, x1]) (join_fits _ _ (by simp) (by assumption)) ⟨Tryz.func42, rfl, rfl, rfl, rfl⟩ rfl rfl rfl rfl rfl rfl rfl rfl rfl) ?_
   try simp only [S.put]
   refine AN.br1 (i := 1) (by kernel_rfl) ?_
   refine BR.mk (l' := #[true, true, false, true, true, false]) rfl rfl rfl ?_
   (first | (refine ST.rp rfl (rp_nilCheck rfl rfl) ?_) | (refine ST.rp rfl (rp_nilCheck_ad rfl rfl) ?_))
   (first | (refine AN.rp (i := 2) (l' := #[true, true, true, true, true, false]) rfl rfl rfl (fun _ _ h => h) (by kernel_rfl) rfl (rp_field_ref Tryz.underlying59 rfl rfl rfl inf57 (by decide) rfl) ?_) | (refine AN.rp (i := 2) (l' := #[true, true, true, true, true, false]) rfl rfl rfl (fun _ _ h => h) (by kernel_rfl) rfl (rp_field_ad Tryz.underlying59 rfl rfl rfl inf57 (by decide) rfl) ?_))
   refine AN.br1 (i := 5) (by kernel_rfl) ?_
   refine BR.mk (l' := #[true, true, true, true, true, true]) rfl rfl rfl ?_
   try simp only [S.put, S.newObj, setL, V.cs, List.length_cons, List.length_nil, List.take_succ_cons, List.take_zero, List.drop_succ_cons, List.drop_zero, List.drop_nil, List.nil_append, List.cons_append, List.append_nil, Nat.zero_add, Nat.reduceAdd]
   refine ST.pc [0] (ts := [_]) (args := [_, _]) (post := ?pc14) ?hc14 rfl rfl rfl rfl rfl rfl rfl rfl rfl ?_
   case hc14 => (refine pc_WriteString hk false z s (joinB [x0, x1] ⟨#[32]⟩) (hl2 _ (hl.keepL _ ?_)) hj0 (by omega) <;> first | rfl | (simp [V.lowL, V.low]; done))
   rintro _ _ _ ⟨rfl, rfl, rfl⟩
   simp only [back, S.put, List.cons_append, List.nil_append, List.zip_cons_cons, List.zip_nil_left, List.drop_succ_cons, List.drop_zero, List.length_cons, List.length_nil, Nat.zero_add, Nat.reduceAdd]
   refine AN.nil (by kernel_rfl) ?_
   show Less _ _
   exact Less.same _
  (try simp only [S.put, S.newObj, setL, V.cs, List.length_cons, List.length_nil, List.take_succ_cons, List.take_zero, List.drop_succ_cons, List.drop_zero, List.drop_nil, List.nil_append, List.cons_append, List.append_nil, Nat.zero_add, Nat.reduceAdd, List.map_cons, List.map_nil, List.set_cons_zero, List.set_cons_succ])
  try simp only [S.dd, ddL, List.contains_cons, List.contains_nil, Nat.reduceBEq, beq_self_eq_true, Bool.or_false, Bool.or_true, Bool.false_or, Bool.true_or, Bool.or_self, if_true, if_false, Bool.false_eq_true, ↓reduceIte]
  try simp only [thenS, S.put, S.newObj, setL, V.cs, List.length_cons, List.length_nil, List.take_succ_cons, List.take_zero, List.drop_succ_cons, List.drop_zero, List.drop_nil, List.nil_append, List.cons_append, List.append_nil, Nat.zero_add, Nat.reduceAdd, List.map_cons, List.map_nil, List.set_cons_zero, List.set_cons_succ, enum]
  refine AW.region ?_
  refine AL.rp rfl rfl (rp_move rfl rfl) ?_
  (first | (refine AL.rp rfl rfl (rp_nilCheck rfl rfl) ?_) | (refine AL.rp rfl rfl (rp_nilCheck_ad rfl rfl) ?_))
  (first | (refine AL.rp rfl rfl (rp_field_ref Tryz.underlying59 rfl rfl rfl inf57 (by decide) rfl) ?_) | (refine AL.rp rfl rfl (rp_field_ad Tryz.underlying59 rfl rfl rfl inf57 (by decide) rfl) ?_))
  try simp only [S.put, S.newObj, setL, V.cs, List.length_cons, List.length_nil, List.take_succ_cons, List.take_zero, List.drop_succ_cons, List.drop_zero, List.drop_nil, List.nil_append, List.cons_append, List.append_nil, Nat.zero_add, Nat.reduceAdd]
  refine AL.pc [0] (ts := [_]) (args := [_, _]) (post := ?pc15) ?hc15 rfl rfl rfl rfl rfl rfl rfl rfl rfl ?_
  case hc15 => (refine pc_WriteByte hk true false (s ++ joinB [x0, x1] ⟨#[32]⟩) 10 (hl2 _ (hl.keepL _ ?_)) (by rw [ByteArray.size_append]; omega) <;> first | rfl | (simp [V.lowL, V.low]; done))
  rintro _ _ _ ⟨rfl, rfl⟩
  simp only [back, S.put, List.cons_append, List.nil_append, List.zip_cons_cons, List.zip_nil_left, List.drop_succ_cons, List.drop_zero, List.length_cons, List.length_nil, Nat.zero_add, Nat.reduceAdd]
  refine AL.nil ?_
  try simp only [thenS, S.put]
  refine ⟨_, Less.hp (T := []) trivial rfl rfl (hlow _ _), [], trivial, rfl, ?_, rfl⟩
  show bT ty false ((s ++ joinB [x0, x1] ⟨#[32]⟩) ++ ⟨#[10]⟩) H1 = _
  rw [ByteArray.append_assoc]
 ·skip
  refine AW.seq ?_
  refine AW.drawT (N := ?N17) (l := #[false, false, false, false, false, false]) 6 (by kernel_rfl) rfl rfl ?_ ?_
  rotate_left
  refine AN.rp (i := 0) (l' := #[true, false, false, false, false, false]) rfl rfl rfl (fun _ _ h => h) (by kernel_rfl) rfl (rp_move rfl rfl) ?_
  refine AN.rp (i := 3) (l' := #[true, false, false, true, false, false]) rfl rfl rfl (fun _ _ h => h) (by kernel_rfl) rfl (rp_move rfl rfl) ?_
  refine AN.br2 (i := 1) (j := 4) (by kernel_rfl) ?_ ?_
  ·refine BR.mk (l' := #[true, true, false, true, false, false]) rfl rfl rfl ?_
   (first | (refine ST.rp rfl (rp_nilCheck rfl rfl) ?_) | (refine ST.rp rfl (rp_nilCheck_ad rfl rfl) ?_))
   (first | (refine AN.rp (i := 2) (l' := #[true, true, true, true, false, false]) rfl rfl rfl (fun _ _ h => h) (by kernel_rfl) rfl (rp_field_ref Tryz.underlying59 rfl rfl rfl inf57 (by decide) rfl) ?_) | (refine AN.rp (i := 2) (l' := #[true, true, true, true, false, false]) rfl rfl rfl (fun _ _ h => h) (by kernel_rfl) rfl (rp_field_ad Tryz.underlying59 rfl rfl rfl inf57 (by decide) rfl) ?_))
   refine AN.br1 (i := 4) (by kernel_rfl) ?_
   refine BR.mk (l' := #[true, true, true, true, true, false]) rfl rfl rfl ?_
   refine ST.sm (sm_join ([x0, x1]) (join_fits _ _ (by simp) (by assumption)) ⟨Tryz.func42, rfl, rfl, rfl, rfl⟩ rfl rfl rfl rfl rfl rfl rfl rfl rfl) ?_
   try simp only [S.put]
   refine AN.br1 (i := 5) (by kernel_rfl) ?_
   refine BR.mk (l' := #[true, true, true, true, true, true]) rfl rfl rfl ?_
   try simp only [S.put, S.newObj, setL, V.cs, List.length_cons, List.length_nil, List.take_succ_cons, List.take_zero, List.drop_succ_cons, List.drop_zero, List.drop_nil, List.nil_append, List.cons_append, List.append_nil, Nat.zero_add, Nat.reduceAdd]
   refine ST.pc [0] (ts := [_]) (args := [_, _]) (post := ?pc17) ?hc17 rfl rfl rfl rfl rfl rfl rfl rfl rfl ?_
   case hc17 => (refine pc_WriteString hk true z s (joinB [x0, x1] ⟨#[32]⟩) (hl2 _ (hl.keepL _ ?_)) hj0 (by omega) <;> first | rfl | (simp [V.lowL, V.low]; done))
   rintro _ _ _ ⟨rfl, rfl, rfl⟩
   simp only [back, S.put, List.cons_append, List.nil_append, List.zip_cons_cons, List.zip_nil_left, List.drop_succ_cons, List.drop_zero, List.length_cons, List.length_nil, Nat.zero_add, Nat.reduceAdd]
   refine AN.nil (by kernel_rfl) ?_
   show Less _ _
   exact Less.same _
  ·refine BR.mk (l' := #[true, false, false, true, true, false]) rfl rfl rfl ?_
   refine ST.sm (sm_join ([x0, x1]) (join_fits _ _ (by simp) (by assumption)) ⟨Tryz.func42, rfl, rfl, rfl, rfl⟩ rfl rfl rfl rfl rfl rfl rfl rfl rfl) ?_
   try simp only [S.put]
   refine AN.br1 (i := 1) (by kernel_rfl) ?_
   refine BR.mk (l' := #[true, true, false, true, true, false]) rfl rfl rfl ?_
   (first | (refine ST.rp rfl (rp_nilCheck rfl rfl) ?_) | (refine ST.rp rfl (rp_nilCheck_ad rfl rfl) ?_))
   (first | (refine AN.rp (i := 2) (l' := #[true, true, true, true, true, false]) rfl rfl rfl (fun _ _ h => h) (by kernel_rfl) rfl (rp_field_ref Tryz.underlying59 rfl rfl rfl inf57 (by decide) rfl) ?_) | (refine AN.rp (i := 2) (l' := #[true, true, true, true, true, false]) rfl rfl rfl (fun _ _ h => h) (by kernel_rfl) rfl (rp_field_ad Tryz.underlying59 rfl rfl rfl inf57 (by decide) rfl) ?_))
   refine AN.br1 (i := 5) (by kernel_rfl) ?_
   refine BR.mk (l' := #[true, true, true, true, true, true]) rfl rfl rfl ?_
   try simp only [S.put, S.newObj, setL, V.cs, List.length_cons, List.length_nil, List.take_succ_cons, List.take_zero, List.drop_succ_cons, List.drop_zero, List.drop_nil, List.nil_append, List.cons_append, List.append_nil, Nat.zero_add, Nat.reduceAdd]
   refine ST.pc [0] (ts := [_]) (args := [_, _]) (post := ?pc18) ?hc18 rfl rfl rfl rfl rfl rfl rfl rfl rfl ?_
   case hc18 => (refine pc_WriteString hk true z s (joinB [x0, x1] ⟨#[32]⟩) (hl2 _ (hl.keepL _ ?_)) hj0 (by omega) <;> first | rfl | (simp [V.lowL, V.low]; done))
   rintro _ _ _ ⟨rfl, rfl, rfl⟩
   simp only [back, S.put, List.cons_append, List.nil_append, List.zip_cons_cons, List.zip_nil_left, List.drop_succ_cons, List.drop_zero, List.length_cons, List.length_nil, Nat.zero_add, Nat.reduceAdd]
   refine AN.nil (by kernel_rfl) ?_
   show Less _ _
   exact Less.same _
  (try simp only [S.put, S.newObj, setL, V.cs, List.length_cons, List.length_nil, List.take_succ_cons, List.take_zero, List.drop_succ_cons, List.drop_zero, List.drop_nil, List.nil_append, List.cons_append, List.append_nil, Nat.zero_add, Nat.reduceAdd, List.map_cons, List.map_nil, List.set_cons_zero, List.set_cons_succ])
  try simp only [S.dd, ddL, List.contains_cons, List.contains_nil, Nat.reduceBEq, beq_self_eq_true, Bool.or_false, Bool.or_true, Bool.false_or, Bool.true_or, Bool.or_self, if_true, if_false, Bool.false_eq_true, ↓reduceIte]
  try simp only [thenS, S.put, S.newObj, setL, V.cs, List.length_cons, List.length_nil, List.take_succ_cons, List.take_zero, List.drop_succ_cons, List.drop_zero, List.drop_nil, List.nil_append, List.cons_append, List.append_nil, Nat.zero_add, Nat.reduceAdd, List.map_cons, List.map_nil, List.set_cons_zero, List.set_cons_succ, enum]
  refine AW.region ?_
  refine AL.rp rfl rfl (rp_move rfl rfl) ?_
  (first | (refine AL.rp rfl rfl (rp_nilCheck rfl rfl) ?_) | (refine AL.rp rfl rfl (rp_nilCheck_ad rfl rfl) ?_))
  (first | (refine AL.rp rfl rfl (rp_field_ref Tryz.underlying59 rfl rfl rfl inf57 (by decide) rfl) ?_) | (refine AL.rp rfl rfl (rp_field_ad Tryz.underlying59 rfl rfl rfl inf57 (by decide) rfl) ?_))
  try simp only [S.put, S.newObj, setL, V.cs, List.length_cons, List.length_nil, List.take_succ_cons, List.take_zero, List.drop_succ_cons, List.drop_zero, List.drop_nil, List.nil_append, List.cons_append, List.append_nil, Nat.zero_add, Nat.reduceAdd]
  refine AL.pc [0] (ts := [_]) (args := [_, _]) (post := ?pc19) ?hc19 rfl rfl rfl rfl rfl rfl rfl rfl rfl ?_
  case hc19 => (refine pc_WriteByte hk true false (s ++ joinB [x0, x1] ⟨#[32]⟩) 10 (hl2 _ (hl.keepL _ ?_)) (by rw [ByteArray.size_append]; omega) <;> first | rfl | (simp [V.lowL, V.low]; done))
  rintro _ _ _ ⟨rfl, rfl⟩
  simp only [back, S.put, List.cons_append, List.nil_append, List.zip_cons_cons, List.zip_nil_left, List.drop_succ_cons, List.drop_zero, List.length_cons, List.length_nil, Nat.zero_add, Nat.reduceAdd]
  refine AL.nil ?_
  try simp only [thenS, S.put]
  refine ⟨_, Less.hp (T := []) trivial rfl rfl (hlow _ _), [], trivial, rfl, ?_, rfl⟩
  show bT ty false ((s ++ joinB [x0, x1] ⟨#[32]⟩) ++ ⟨#[10]⟩) H1 = _
  rw [ByteArray.append_assoc]
theorem pc_line5 (hk : BOk ty) (a z : Bool) (s x0 x1 x2 x3 x4 : ByteArray) (hl : Lw H1 K) (h890 : fnd H1 890 = none) (hj0 : 0 < (joinB [x0, x1, x2, x3, x4] ⟨#[32]⟩).size) (hj1 : s.size + (joinB [x0, x1, x2, x3, x4] ⟨#[32]⟩).size + 1 ≤ 140737488355328) : PC Tryz.prog 22 [.ref 900 0, .own 890 1 5 false] ((890, ⟨9, [.s x0, .s x1, .s x2, .s x3, .s x4], false, 1⟩) :: bH ty a z s H1) K (fun v H' K' => v = .tup [] ∧ H' = bT ty false (s ++ (joinB [x0, x1, x2, x3, x4] ⟨#[32]⟩ ++ ⟨#[10]⟩)) H1 ∧ K' = K) := by
 have hjl : (Lib.join ((([x0, x1, x2, x3, x4] : List ByteArray)).map (·.data.toList)) (⟨#[32]⟩ : ByteArray).data.toList).length ≤ 140737488355328 := by
  have : (joinB [x0, x1, x2, x3, x4] ⟨#[32]⟩).size = (Lib.join ((([x0, x1, x2, x3, x4] : List ByteArray)).map (·.data.toList)) (⟨#[32]⟩ : ByteArray).data.toList).length := by simp [joinB, ByteArray.size]
  omega
 have hl2 : ∀ K, Lw H1 K → Lw ((890, ⟨9, [.s x0, .s x1, .s x2, .s x3, .s x4], false, 1⟩) :: H1) K := fun K h => ⟨fun x hx => by
  rcases List.mem_cons.1 hx with rfl | hx
  ·exact ⟨by show 890 < 900; decide, rfl⟩
  ·exact h.obj x hx, h.keep⟩
 have hlow : ∀ (b r : Row) k row, fnd H1 k = some row → fnd ((900, b) :: (901, r) :: (890, ⟨9, [.s x0, .s x1, .s x2, .s x3, .s x4], false, 1⟩) :: H1) k = some row := fun b r k row h => by
  have h1 : k ≠ 890 := by
   rintro rfl
   rw [h890] at h
   cases h
  have h2 : k < 900 := (hl.obj _ (fnd_mem h)).1
  simp only [fnd, beq_iff_eq]
  rw [if_neg (by omega), if_neg (by omega), if_neg (fun e => h1 e.symm)]
  exact h
 refine PC.intro (n := 14) ⟨Tryz.func22, rfl, rfl, rfl, rfl⟩ (by simp) fun w0 out kx => AW.weaken (AW.less bH_front ?_)
 simp only [enum]
 cases a
 ·skip
  refine AW.seq ?_
  refine AW.drawT (N := ?N21) (l := #[false, false, false, false, false, false]) 6 (by kernel_rfl) rfl rfl ?_ ?_
  rotate_left
  refine AN.rp (i := 0) (l' := #[true, false, false, false, false, false]) rfl rfl rfl (fun _ _ h => h) (by kernel_rfl) rfl (rp_move rfl rfl) ?_
  refine AN.rp (i := 3) (l' := #[true, false, false, true, false, false]) rfl rfl rfl (fun _ _ h => h) (by kernel_rfl) rfl (rp_move rfl rfl) ?_
  refine AN.br2 (i := 1) (j := 4) (by kernel_rfl) ?_ ?_
  ·refine BR.mk (l' := #[true, true, false, true, false, false]) rfl rfl rfl ?_
   (first | (refine ST.rp rfl (rp_nilCheck rfl rfl) ?_) | (refine ST.rp rfl (rp_nilCheck_ad rfl rfl) ?_))
   (first | (refine AN.rp (i := 2) (l' := #[true, true, true, true, false, false]) rfl rfl rfl (fun _ _ h => h) (by kernel_rfl) rfl (rp_field_ref Tryz.underlying59 rfl rfl rfl inf57 (by decide) rfl) ?_) | (refine AN.rp (i := 2) (l' := #[true, true, true, true, false, false]) rfl rfl rfl (fun _ _ h => h) (by kernel_rfl) rfl (rp_field_ad Tryz.underlying59 rfl rfl rfl inf57 (by decide) rfl) ?_))
   refine AN.br1 (i := 4) (by kernel_rfl) ?_
   refine BR.mk (l' := #[true, true, true, true, true, false]) rfl rfl rfl ?_
   refine ST.sm (sm_join ([x0, x1, x2, x3, x4]) (join_fits _ _ (by simp) (by assumption)) ⟨Tryz.func42, rfl, rfl, rfl, rfl⟩ rfl rfl rfl rfl rfl rfl rfl rfl rfl) ?_
   try simp only [S.put]
   refine AN.br1 (i := 5) (by kernel_rfl) ?_
   refine BR.mk (l' := #[true, true, true, true, true, true]) rfl rfl rfl ?_
   try simp only [S.put, S.newObj, setL, V.cs, List.length_cons, List.length_nil, List.take_succ_cons, List.take_zero, List.drop_succ_cons, List.drop_zero, List.drop_nil, List.nil_append, List.cons_append, List.append_nil, Nat.zero_add, Nat.reduceAdd]
   refine ST.pc [0] (ts := [_]) (args := [_, _]) (post := ?pc21) ?hc21 rfl rfl rfl rfl rfl rfl rfl rfl rfl ?_
   case hc21 => (refine pc_WriteString hk false z s (joinB [x0, x1, x2, x3, x4] ⟨#[32]⟩) (hl2 _ (hl.keepL _ ?_)) hj0 (by omega) <;> first | rfl | (simp [V.lowL, V.low]; done))
   rintro _ _ _ ⟨rfl, rfl, rfl⟩
   simp only [back, S.put, List.cons_append, List.nil_append, List.zip_cons_cons, List.zip_nil_left, List.drop_succ_cons, List.drop_zero, List.length_cons, List.length_nil, Nat.zero_add, Nat.reduceAdd]
   refine AN.nil (by kernel_rfl) ?_
   show Less _ _
   exact Less.same _
  ·refine BR.mk (l' := #[true, false, false, true, true, false]) rfl rfl rfl ?_
   refine ST.sm (sm_join ([x0, x1, x2, x3, x4]) (join_fits _ _ (by simp) (by assumption)) ⟨Tryz.func42, rfl, rfl, rfl, rfl⟩ rfl rfl rfl rfl rfl rfl rfl rfl rfl) ?_
   try simp only [S.put]
   refine AN.br1 (i := 1) (by kernel_rfl) ?_
   refine BR.mk (l' := #[true, true, false, true, true, false]) rfl rfl rfl ?_
   (first | (refine ST.rp rfl (rp_nilCheck rfl rfl) ?_) | (refine ST.rp rfl (rp_nilCheck_ad rfl rfl) ?_))
   (first | (refine AN.rp (i := 2) (l' := #[true, true, true, true, true, false]) rfl rfl rfl (fun _ _ h => h) (by kernel_rfl) rfl (rp_field_ref Tryz.underlying59 rfl rfl rfl inf57 (by decide) rfl) ?_) | (refine AN.rp (i := 2) (l' := #[true, true, true, true, true, false]) rfl rfl rfl (fun _ _ h => h) (by kernel_rfl) rfl (rp_field_ad Tryz.underlying59 rfl rfl rfl inf57 (by decide) rfl) ?_))
   refine AN.br1 (i := 5) (by kernel_rfl) ?_
   refine BR.mk (l' := #[true, true, true, true, true, true]) rfl rfl rfl ?_
   try simp only [S.put, S.newObj, setL, V.cs, List.length_cons, List.length_nil, List.take_succ_cons, List.take_zero, List.drop_succ_cons, List.drop_zero, List.drop_nil, List.nil_append, List.cons_append, List.append_nil, Nat.zero_add, Nat.reduceAdd]
   refine ST.pc [0] (ts := [_]) (args := [_, _]) (post := ?pc22) ?hc22 rfl rfl rfl rfl rfl rfl rfl rfl rfl ?_
   case hc22 => (refine pc_WriteString hk false z s (joinB [x0, x1, x2, x3, x4] ⟨#[32]⟩) (hl2 _ (hl.keepL _ ?_)) hj0 (by omega) <;> first | rfl | (simp [V.lowL, V.low]; done))
   rintro _ _ _ ⟨rfl, rfl, rfl⟩
   simp only [back, S.put, List.cons_append, List.nil_append, List.zip_cons_cons, List.zip_nil_left, List.drop_succ_cons, List.drop_zero, List.length_cons, List.length_nil, Nat.zero_add, Nat.reduceAdd]
   refine AN.nil (by kernel_rfl) ?_
   show Less _ _
   exact Less.same _
  (try simp only [S.put, S.newObj, setL, V.cs, List.length_cons, List.length_nil, List.take_succ_cons, List.take_zero, List.drop_succ_cons, List.drop_zero, List.drop_nil, List.nil_append, List.cons_append, List.append_nil, Nat.zero_add, Nat.reduceAdd, List.map_cons, List.map_nil, List.set_cons_zero, List.set_cons_succ])
  try simp only [S.dd, ddL, List.contains_cons, List.contains_nil, Nat.reduceBEq, beq_self_eq_true, Bool.or_false, Bool.or_true, Bool.false_or, Bool.true_or, Bool.or_self, if_true, if_false, Bool.false_eq_true, ↓reduceIte]
  try simp only [thenS, S.put, S.newObj, setL, V.cs, List.length_cons, List.length_nil, List.take_succ_cons, List.take_zero, List.drop_succ_cons, List.drop_zero, List.drop_nil, List.nil_append, List.cons_append, List.append_nil, Nat.zero_add, Nat.reduceAdd, List.map_cons, List.map_nil, List.set_cons_zero, List.set_cons_succ, enum]
  refine AW.region ?_
  refine AL.rp rfl rfl (rp_move rfl rfl) ?_
  (first | (refine AL.rp rfl rfl (rp_nilCheck rfl rfl) ?_) | (refine AL.rp rfl rfl (rp_nilCheck_ad rfl rfl) ?_))
  (first | (refine AL.rp rfl rfl (rp_field_ref Tryz.underlying59 rfl rfl rfl inf57 (by decide) rfl) ?_) | (refine AL.rp rfl rfl (rp_field_ad Tryz.underlying59 rfl rfl rfl inf57 (by decide) rfl) ?_))
  try simp only [S.put, S.newObj, setL, V.cs, List.length_cons, List.length_nil, List.take_succ_cons, List.take_zero, List.drop_succ_cons, List.drop_zero, List.drop_nil, List.nil_append, List.cons_append, List.append_nil, Nat.zero_add, Nat.reduceAdd]
  refine AL.pc [0] (ts := [_]) (args := [_, _]) (post := ?pc23) ?hc23 rfl rfl rfl rfl rfl rfl rfl rfl rfl ?_
  case hc23 => (refine pc_WriteByte hk true false (s ++ joinB [x0, x1, x2, x3, x4] ⟨#[32]⟩) 10 (hl2 _ (hl.keepL _ ?_)) (by rw [ByteArray.size_append]; omega) <;> first | rfl | (simp [V.lowL, V.low]; done))
  rintro _ _ _ ⟨rfl, rfl⟩
  simp only [back, S.put, List.cons_append, List.nil_append, List.zip_cons_cons, List.zip_nil_left, List.drop_succ_cons, List.drop_zero, List.length_cons, List.length_nil, Nat.zero_add, Nat.reduceAdd]
  refine AL.nil ?_
  try simp only [thenS, S.put]
  refine ⟨_, Less.hp (T := []) trivial rfl rfl (hlow _ _), [], trivial, rfl, ?_, rfl⟩
  show bT ty false ((s ++ joinB [x0, x1, x2, x3, x4] ⟨#[32]⟩) ++ ⟨#[10]⟩) H1 = _
  rw [ByteArray.append_assoc]
 ·skip
  refine AW.seq ?_
  refine AW.drawT (N := ?N25) (l := #[false, false, false, false, false, false]) 6 (by kernel_rfl) rfl rfl ?_ ?_
  rotate_left
  refine AN.rp (i := 0) (l' := #[true, false, false, false, false, false]) rfl rfl rfl (fun _ _ h => h) (by kernel_rfl) rfl (rp_move rfl rfl) ?_
  refine AN.rp (i := 3) (l' := #[true, false, false, true, false, false]) rfl rfl rfl (fun _ _ h => h) (by kernel_rfl) rfl (rp_move rfl rfl) ?_
  refine AN.br2 (i := 1) (j := 4) (by kernel_rfl) ?_ ?_
  ·refine BR.mk (l' := #[true, true, false, true, false, false]) rfl rfl rfl ?_
   (first | (refine ST.rp rfl (rp_nilCheck rfl rfl) ?_) | (refine ST.rp rfl (rp_nilCheck_ad rfl rfl) ?_))
   (first | (refine AN.rp (i := 2) (l' := #[true, true, true, true, false, false]) rfl rfl rfl (fun _ _ h => h) (by kernel_rfl) rfl (rp_field_ref Tryz.underlying59 rfl rfl rfl inf57 (by decide) rfl) ?_) | (refine AN.rp (i := 2) (l' := #[true, true, true, true, false, false]) rfl rfl rfl (fun _ _ h => h) (by kernel_rfl) rfl (rp_field_ad Tryz.underlying59 rfl rfl rfl inf57 (by decide) rfl) ?_))
   refine AN.br1 (i := 4) (by kernel_rfl) ?_
   refine BR.mk (l' := #[true, true, true, true, true, false]) rfl rfl rfl ?_
   refine ST.sm (sm_join ([x0, x1, x2, x3, x4]) (join_fits _ _ (by simp) (by assumption)) ⟨Tryz.func42, rfl, rfl, rfl, rfl⟩ rfl rfl rfl rfl rfl rfl rfl rfl rfl) ?_
   try simp only [S.put]
   refine AN.br1 (i := 5) (by kernel_rfl) ?_
   refine BR.mk (l' := #[true, true, true, true, true, true]) rfl rfl rfl ?_
   try simp only [S.put, S.newObj, setL, V.cs, List.length_cons, List.length_nil, List.take_succ_cons, List.take_zero, List.drop_succ_cons, List.drop_zero, List.drop_nil, List.nil_append, List.cons_append, List.append_nil, Nat.zero_add, Nat.reduceAdd]
   refine ST.pc [0] (ts := [_]) (args := [_, _]) (post := ?pc25) ?hc25 rfl rfl rfl rfl rfl rfl rfl rfl rfl ?_
   case hc25 => (refine pc_WriteString hk true z s (joinB [x0, x1, x2, x3, x4] ⟨#[32]⟩) (hl2 _ (hl.keepL _ ?_)) hj0 (by omega) <;> first | rfl | (simp [V.lowL, V.low]; done))
   rintro _ _ _ ⟨rfl, rfl, rfl⟩
   simp only [back, S.put, List.cons_append, List.nil_append, List.zip_cons_cons, List.zip_nil_left, List.drop_succ_cons, List.drop_zero, List.length_cons, List.length_nil, Nat.zero_add, Nat.reduceAdd]
   refine AN.nil (by kernel_rfl) ?_
   show Less _ _
   exact Less.same _
  ·refine BR.mk (l' := #[true, false, false, true, true, false]) rfl rfl rfl ?_
   refine ST.sm (sm_join ([x0, x1, x2, x3, x4]) (join_fits _ _ (by simp) (by assumption)) ⟨Tryz.func42, rfl, rfl, rfl, rfl⟩ rfl rfl rfl rfl rfl rfl rfl rfl rfl) ?_
   try simp only [S.put]
   refine AN.br1 (i := 1) (by kernel_rfl) ?_
   refine BR.mk (l' := #[true, true, false, true, true, false]) rfl rfl rfl ?_
   (first | (refine ST.rp rfl (rp_nilCheck rfl rfl) ?_) | (refine ST.rp rfl (rp_nilCheck_ad rfl rfl) ?_))
   (first | (refine AN.rp (i := 2) (l' := #[true, true, true, true, true, false]) rfl rfl rfl (fun _ _ h => h) (by kernel_rfl) rfl (rp_field_ref Tryz.underlying59 rfl rfl rfl inf57 (by decide) rfl) ?_) | (refine AN.rp (i := 2) (l' := #[true, true, true, true, true, false]) rfl rfl rfl (fun _ _ h => h) (by kernel_rfl) rfl (rp_field_ad Tryz.underlying59 rfl rfl rfl inf57 (by decide) rfl) ?_))
   refine AN.br1 (i := 5) (by kernel_rfl) ?_
   refine BR.mk (l' := #[true, true, true, true, true, true]) rfl rfl rfl ?_
   try simp only [S.put, S.newObj, setL, V.cs, List.length_cons, List.length_nil, List.take_succ_cons, List.take_zero, List.drop_succ_cons, List.drop_zero, List.drop_nil, List.nil_append, List.cons_append, List.append_nil, Nat.zero_add, Nat.reduceAdd]
   refine ST.pc [0] (ts := [_]) (args := [_, _]) (post := ?pc26) ?hc26 rfl rfl rfl rfl rfl rfl rfl rfl rfl ?_
   case hc26 => (refine pc_WriteString hk true z s (joinB [x0, x1, x2, x3, x4] ⟨#[32]⟩) (hl2 _ (hl.keepL _ ?_)) hj0 (by omega) <;> first | rfl | (simp [V.lowL, V.low]; done))
   rintro _ _ _ ⟨rfl, rfl, rfl⟩
   simp only [back, S.put, List.cons_append, List.nil_append, List.zip_cons_cons, List.zip_nil_left, List.drop_succ_cons, List.drop_zero, List.length_cons, List.length_nil, Nat.zero_add, Nat.reduceAdd]
   refine AN.nil (by kernel_rfl) ?_
   show Less _ _
   exact Less.same _
  (try simp only [S.put, S.newObj, setL, V.cs, List.length_cons, List.length_nil, List.take_succ_cons, List.take_zero, List.drop_succ_cons, List.drop_zero, List.drop_nil, List.nil_append, List.cons_append, List.append_nil, Nat.zero_add, Nat.reduceAdd, List.map_cons, List.map_nil, List.set_cons_zero, List.set_cons_succ])
  try simp only [S.dd, ddL, List.contains_cons, List.contains_nil, Nat.reduceBEq, beq_self_eq_true, Bool.or_false, Bool.or_true, Bool.false_or, Bool.true_or, Bool.or_self, if_true, if_false, Bool.false_eq_true, ↓reduceIte]
  try simp only [thenS, S.put, S.newObj, setL, V.cs, List.length_cons, List.length_nil, List.take_succ_cons, List.take_zero, List.drop_succ_cons, List.drop_zero, List.drop_nil, List.nil_append, List.cons_append, List.append_nil, Nat.zero_add, Nat.reduceAdd, List.map_cons, List.map_nil, List.set_cons_zero, List.set_cons_succ, enum]
  refine AW.region ?_
  refine AL.rp rfl rfl (rp_move rfl rfl) ?_
  (first | (refine AL.rp rfl rfl (rp_nilCheck rfl rfl) ?_) | (refine AL.rp rfl rfl (rp_nilCheck_ad rfl rfl) ?_))
  (first | (refine AL.rp rfl rfl (rp_field_ref Tryz.underlying59 rfl rfl rfl inf57 (by decide) rfl) ?_) | (refine AL.rp rfl rfl (rp_field_ad Tryz.underlying59 rfl rfl rfl inf57 (by decide) rfl) ?_))
  try simp only [S.put, S.newObj, setL, V.cs, List.length_cons, List.length_nil, List.take_succ_cons, List.take_zero, List.drop_succ_cons, List.drop_zero, List.drop_nil, List.nil_append, List.cons_append, List.append_nil, Nat.zero_add, Nat.reduceAdd]
  refine AL.pc [0] (ts := [_]) (args := [_, _]) (post := ?pc27) ?hc27 rfl rfl rfl rfl rfl rfl rfl rfl rfl ?_
  case hc27 => (refine pc_WriteByte hk true false (s ++ joinB [x0, x1, x2, x3, x4] ⟨#[32]⟩) 10 (hl2 _ (hl.keepL _ ?_)) (by rw [ByteArray.size_append]; omega) <;> first | rfl | (simp [V.lowL, V.low]; done))
  rintro _ _ _ ⟨rfl, rfl⟩
  simp only [back, S.put, List.cons_append, List.nil_append, List.zip_cons_cons, List.zip_nil_left, List.drop_succ_cons, List.drop_zero, List.length_cons, List.length_nil, Nat.zero_add, Nat.reduceAdd]
  refine AL.nil ?_
  try simp only [thenS, S.put]
  refine ⟨_, Less.hp (T := []) trivial rfl rfl (hlow _ _), [], trivial, rfl, ?_, rfl⟩
  show bT ty false ((s ++ joinB [x0, x1, x2, x3, x4] ⟨#[32]⟩) ++ ⟨#[10]⟩) H1 = _
  rw [ByteArray.append_assoc]
end
end Go.Proofs.YtkikceoccmoanaaGreatDoor
