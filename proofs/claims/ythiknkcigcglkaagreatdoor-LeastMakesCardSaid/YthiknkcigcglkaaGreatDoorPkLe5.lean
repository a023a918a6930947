/- Part 5 of what the law LeastMakes rests on. -/
import Derived.Laws.Externs
import Derived.Laws.BytesArg
import Derived.Laws.BitsAllLaws
import Derived.Lib.AppendStr
import Derived.Lib.UnsafeStr
import Derived.Lib.ItoaNum
import Derived.Shelf.Strconv.Itoa3
import Derived.Test.YthiknkcigcglkaaGreatDoorProg
import Derived.Lib.AtoiTie
import Derived.Lib.Atoi
import Derived.Test.YthiknkcigcglkaaGreatDoorPkLe1
import Derived.Test.YthiknkcigcglkaaGreatDoorPkLe2
import Derived.Test.YthiknkcigcglkaaGreatDoorPkLe3
import Derived.Test.YthiknkcigcglkaaGreatDoorPkLe4
namespace Go.Proofs.YthiknkcigcglkaaGreatDoor
open Go.RowKit
set_option linter.unusedSimpArgs false
set_option linter.unusedVariables false
set_option maxRecDepth 100000
set_option maxHeartbeats 8000000
open Go.Shelf Go.RowKit Go.Sort Go.Lib
open Go.Sort (grow)
theorem rowAt_count {p : Program} {fits : TypeId → Bool} {e : TypeId} {n : Nat} (h : 1 ≤ n) : ∀ d, rowAt p fits d e n 0 1 = rowAt p fits d e 1 0 1
  | 0 => rfl
  | d + 1 => by
    have h1 : 0 < n := h
    simp only [rowAt, Nat.zero_div, Nat.zero_mod, Nat.zero_add]
    simp [h, h1]
theorem liesAt_count {p : Program} {e u : TypeId} {n : Nat} (h : 1 ≤ n) (hl : rowAt p (fun x => sameLayout p p.depth x u) p.depth e 1 0 1 = true) : liesAt p p.depth e n 0 u 1 = true := by
  cases hd : p.depth with
  | zero => rw [hd] at hl; cases hl
  | succ d =>
    rw [liesAt]
    have h2 := rowAt_count (p := p) (fits := fun x => sameLayout p p.depth x u) (e := e) h p.depth
    rw [h2, hl]
    rfl
section
variable {c : Cx} {s : S} {o : Oper}
theorem shape_own {g : Nat → Nat × Nat} {a : Act} {w : World} {r : Nat} {row : Row} (hs : Sim c g s a w) (hr : fnd s.H r = some row) (hn : row.nil = false) : ∃ n, (∀ w', Below w.heap.size w w' → w'.shape? (g r).1 = some (row.ty, n)) ∧ row.cells.length ≤ n := by
  obtain ⟨arr, h1, _, h2⟩ := hs.obj r row hr hn
  refine ⟨arr.size, fun w' hb => ?_, ?_⟩
  · have h3 := (hb.block _ (Array.getElem?_eq_some_iff.1 h1).1).trans h1
    simp [World.shape?, h3]
  by_cases h0 : row.cells.length = 0
  · omega
  obtain ⟨y, h4, _⟩ := h2 (row.cells.length - 1) _ (List.getElem?_eq_getElem zT15)
  have := (Array.getElem?_eq_some_iff.1 h4).1
  omega
theorem rd_to_unsafe {t t' e : TypeId} {sz bt : Nat} {z : Value} {x : Operand} {r : Nat} {row : Row} (hu : c.P.underlying t = some (.pointer e)) (hu' : c.P.underlying t' = some .unsafePointer) (hii : Inf c.P e sz bt z) (hj : sz ≠ 0) (ho : o.op = .convert t t' x) (hx : s.ev x = some (.ref r 0)) (hr : fnd s.H r = some row) (hn : row.nil = false) (hc : 0 < row.cells.length) : RD c o s (.ref r 0) := fun g a w hs => by
  obtain ⟨j, hi, hi2, hi3, hi4⟩ := hii.out
  obtain ⟨n, h1, h2⟩ := shape_own hs hr hn
  have h3 := hs.ev hx
  refine ⟨.pointer (some ⟨(g r).1, 0, none⟩), .ref _ _, fun w' hb => ?_⟩
  have h4 : a.eval x = .pointer (some ⟨(g r).1, 0, none⟩) := by generalize a.eval x = u at h3; cases h3; rfl
  have h := Lib.run_to_unsafe w' (P := c.P) ⟨(g r).1, 0, none⟩ hu hu' hi zT15 (h1 w' hb) (by show 0 < n; omega)
  simp only [execOp, ho, h4, Sem.run_bind, h, Result.andThen_ok]
  rfl
theorem rd_from_unsafe {t t' u : TypeId} {sz bt : Nat} {z : Value} {x : Operand} {r : Nat} {row : Row} (hu : c.P.underlying t = some .unsafePointer) (hu' : c.P.underlying t' = some (.pointer u)) (hii : Inf c.P u sz bt z) (ho : o.op = .convert t t' x) (hx : s.ev x = some (.ref r 0)) (hr : fnd s.H r = some row) (hn : row.nil = false) (hz : 0 < c.P.cellsOf row.ty) (hc : c.P.cellsOf row.ty ≤ row.cells.length) (hl : rowAt c.P (fun x => sameLayout c.P c.P.depth x u) c.P.depth row.ty 1 0 1 = true) : RD c o s (.ref r 0) := fun g a w hs => by
  obtain ⟨j, hi, hi2, hi3, hi4⟩ := hii.out
  obtain ⟨n, h1, h2⟩ := shape_own hs hr hn
  have h3 := hs.ev hx
  refine ⟨.pointer (some ⟨(g r).1, 0, none⟩), .ref _ _, fun w' hb => ?_⟩
  have h4 : a.eval x = .pointer (some ⟨(g r).1, 0, none⟩) := by generalize a.eval x = u at h3; cases h3; rfl
  have h := Lib.run_from_unsafe w' (P := c.P) ⟨(g r).1, 0, none⟩ hu hu' hi (h1 w' hb) (liesAt_count (Nat.div_pos zT15 hz) hl)
  simp only [execOp, ho, h4, Sem.run_bind, h, Result.andThen_ok]
  rfl
/-- internal/abi.NoEscape: the pointer as it is. -/
theorem rp_noescape {x fx : Operand} {ts : Array TypeId} {f : FuncId} {fn : Func} {r k : Nat} (hf : c.P.funcs[f]? = some fn) (hname : (fn.name == "runtime.NumGoroutine") = false) (hb : fn.body.isNone = true) (hn : Extern.findNext fn = none) (he : Extern.find fn = some Extern.AbiNoEscape.same) (ho : o.op = .call { callee := .value fx, args := #[x], argTypes := ts }) (hfx : s.ev fx = some (.fn f [])) (hx : s.ev x = some (.ref r k)) : RP c o s (.ref r k) := fun g a w hs => by
  have hfx' : a.eval fx = .func (.func f) #[] ([] : List Value).toArray := by
    have h := hs.ev hfx
    generalize a.eval fx = u at h
    cases h with
    | fn _ _ cs hl _ =>
      obtain rfl : cs = [] := by cases cs with | nil => rfl | cons => simp at hl
      rfl
  have h3 := hs.ev hx
  refine ⟨.pointer (some ⟨(g r).1, k, none⟩), .ref _ _, fun w' => ?_⟩
  have h4 : a.eval x = .pointer (some ⟨(g r).1, k, none⟩) := by generalize a.eval x = u at h3; cases h3; rfl
  have h := run_callFunc_extern (P := c.P) hf hname hb hn he #[.pointer (some ⟨(g r).1, k, none⟩)] w'
  have h5 : (Extern.AbiNoEscape.same #[.pointer (some ⟨(g r).1, k, none⟩)]).run c.P w' = .ok (.pointer (some ⟨(g r).1, k, none⟩)) w' := Lib.run_noEscape w' _
  rw [h5] at h
  simp only [execOp, ho, resolve, Deferred.ofValue, hfx', invoke, Sem.run_bind, Sem.run_pure, Result.andThen_ok, List.map_toArray, List.map_cons, List.map_nil, h4]
  simpa using h
end
abbrev V.k (k : IntKind) (n : Int) : V := .d (.p (.int k n))
section
variable {c : Cx} {s : S} {o : Oper}
/-- A number as one of another kind. -/
theorem rp_conv {t t' : TypeId} {x : Operand} {k k' : IntKind} {d : TypeDesc} {m r : Int} (hu : c.P.underlying t = some d) (hd : ∀ e, d ≠ .slice e) (hd' : d ≠ .unsafePointer) (hu' : c.P.underlying t' = some (.int k)) (ho : o.op = .convert t t' x) (hx : s.ev x = some (.k k' m)) (hr : k.wrap m = r) : RP c o s (.k k r) := fun g a w hs =>
  ⟨.int k r, .d _ _ (.p _), fun w' => by
    subst hr
    simp only [execOp, ho, VRep.p_eq (hs.ev hx)]
    simp [convert, run_underlying hu, run_underlying hu', Conv.intToInt]⟩
theorem wrap8 {m : Int} : IntKind.u8.wrap m = m % 256 := IntKind.wrap_u8 m
theorem wrap16 {m : Int} : IntKind.u16.wrap m = m % 65536 := IntKind.wrap_u16 m
theorem wrap64 {m : Int} (h : 0 ≤ m ∧ m ≤ 9223372036854775807) : IntKind.i64.wrap m = m := wrap_in (by omega) (by omega)
theorem wrapU64 {m : Int} (h : 0 ≤ m ∧ m ≤ 9223372036854775807) : IntKind.u64.wrap m = m := by rw [IntKind.wrap_u64]; omega
end
theorem append_str_at {P : Program} (w : World) (t u ty e : TypeId) (i : TypeInfo) (ht : P.underlying t = some (.slice e)) (hu : P.underlying u = some .string) (hi : P.info? e = some i) (hz : i.zero = some (.int .u8 0)) (hsize : i.size = 1) (hby : i.bytes = 1)
    (v : Value) (n : Nat) (xs : List Value) (hown : w.ownsRow 0 e 1 v n xs) (s : ByteArray) (hm : 0 < s.size) (hb : n + s.size ≤ 140737488355328) :
    ∃ v' w', (Builtin.append_ #[t, u] ty #[v, .string s]).run P w = .ok v' w' ∧ w'.ownsRow 0 e 1 v' (n + s.size) (xs ++ Lib.strCells s) ∧ w.grownBy w' v.ownBlock ∧ (v'.ownBlock = v.ownBlock ∨ v'.ownBlock = some w.heap.size) := by
  obtain ⟨v', w', hr, h1, h2, _⟩ := Lib.run_append_own_string (P := P) w 0 t u ty e i ht hu hi hz hsize hby v n xs hown s (by simp only [maxLen]; omega) hb (Nat.zero_le _)
  refine ⟨v', w', hr, h1, h2, ?_⟩
  have hxl : xs.length = n := by simpa using hown.1
  have key : ∀ {v1 : Value} {w1 : World}, (Builtin.append_ #[t, u] ty #[v, .string s]).run P w = .ok v1 w1 → v' = v1 := fun h => by
    rw [hr] at h
    cases h
    rfl
  have hown2 := hown
  rcases hown2.2 with ⟨rfl, hn0⟩ | ⟨g, cap, cur, rfl, hbg, hg, hnc, hcm, hcs, htake⟩
  · right
    have := key (run_append_nil_string (P := P) w t u ty e i (.int .u8 0) ht hu hi hz s hm (by omega) (by rw [hby]; omega))
    subst this
    rfl
  · by_cases hroom : n + s.size ≤ cap
    · left
      have hcs' : cur.size = cap := by simpa using hcs
      have := key (Lib.run_append_room_string (P := P) w t u ty e i ht hu hi hsize g n cap cur hg s hroom (by omega))
      subst this
      rfl
    · right
      have holds : ∀ j u, xs[j]? = some u → w.cell? ((⟨g, 0, none⟩ : Addr).add j) = some u := hown.cells (g := g) rfl
      have := key (Lib.run_append_grow_string (P := P) w t u ty e i (.int .u8 0) ht hu hi hz ⟨g, 0, none⟩ n cap xs (by rw [hsize]; simpa using hxl) holds s (by omega) (by omega) (by rw [hby]; exact growslice_fits (by omega) (by omega)))
      subst this
      rfl
section
variable {c : Cx} {s : S} {o : Oper}
def strV (b : ByteArray) : List V := b.data.toList.map fun x => V.d (.p (.int .u8 (x.toNat : Int)))
theorem strV_len (b : ByteArray) : (strV b).length = b.size := by rw [strV, List.length_map, Array.length_toList]; rfl
theorem strV_app (a b : ByteArray) : strV (a ++ b) = strV a ++ strV b := by
  simp [strV, ByteArray.data_append]
theorem strV_has (r : Nat) (b : ByteArray) : V.hasL r (strV b) = false := by
  rw [V.hasL_false]
  intro v hv
  simp only [strV, List.mem_map] at hv
  obtain ⟨_, _, rfl⟩ := hv
  rfl
/-- append(b, s...), s no empty string, b a slice of bytes of the call's own (nil or not). -/
theorem st_append_str {t u e : TypeId} {x y : Operand} {r n : Nat} {z : Value} {f : Bool} {row : Row} {l1 : List V} {b : ByteArray} (hu : c.P.underlying t = some (.slice e)) (hus : c.P.underlying u = some .string) (hi : Inf c.P e 1 1 (.int .u8 0))
    (ho : o.op = .call { callee := .builtin .append, args := #[x, y], argTypes := #[t, u] }) (hx : s.ev x = some (.own r 1 n f)) (hr : fnd s.H r = some row) (hf : row.nil = f) (hrz : row.sz = 1) (hty : row.ty = e)
    (hl : row.cells.take n = l1) (hl1 : l1.length = n) (hc1 : V.hasL r l1 = false) (hy : s.ev y = some (.s b)) (hm : 0 < b.size) (hb : n + b.size ≤ 140737488355328) (hd : dok s o = true) :
    Step c o s (fun s' => s' = S.put ⟨s.n, (s.forget r).T, (r, ⟨e, l1 ++ strV b, false, 1⟩) :: (s.forget r).H, (s.forget r).K⟩ o.dst (.own r 1 (n + b.size) false)) := by
  intro g a w hs K Q hK
  obtain ⟨i, hi1, hi2, hi3, hi4⟩ := hi.out
  have hyv := VRep.p_eq (hs.ev hy)
  have hown : ∃ xs : List Value, w.ownsRow 0 e 1 (a.eval x) n xs ∧ (∀ (j : Nat) (u : V), l1[j]? = some u → ∃ y, xs[j]? = some y ∧ VRep w (qt c s.H g) g u y) ∧ ∀ b, (a.eval x).ownBlock = some b → row.nil = false ∧ b = (g r).1 := by
    have h := hs.ev hx
    generalize a.eval x = u at h
    cases h with
    | own _ _ _ hn hcap =>
      obtain ⟨arr, h1, h2, h3⟩ := hs.obj r row hr hf
      have hsz' : arr.size = (g r).2 * 1 := by rw [h2 (by omega), hrz]
      refine ⟨arr.toList.take (n * 1), ⟨by simp; omega, .inr ⟨(g r).1, (g r).2, arr, rfl, Nat.zero_le _, by rw [← hty]; exact h1, hn, hcap, hsz', rfl⟩⟩, fun j u hu => ?_, fun b hb => ⟨hf, by simpa [Value.ownBlock] using hb.symm⟩⟩
      have hjl : j < n := by rw [← hl1]; exact (List.getElem?_eq_some_iff.1 hu).1
      rw [← hl, List.getElem?_take_of_lt hjl] at hu
      obtain ⟨y, h4, h5⟩ := h3 j u hu
      exact ⟨y, by rw [List.getElem?_take_of_lt (by omega)]; simpa using h4, h5⟩
    | ownNil =>
      refine ⟨[], ⟨by simp, .inl ⟨rfl, rfl⟩⟩, fun j u hu => ?_, fun b hb => by simp [Value.ownBlock] at hb⟩
      have : l1 = [] := List.eq_nil_of_length_eq_zero hl1
      simp [this] at hu
  obtain ⟨xs, o1, o2, o3⟩ := hown
  obtain ⟨v', w', hrun, r1, r2, r4⟩ := append_str_at (P := c.P) w t u o.type e i hu hus hi1 hi4 hi2 hi3 _ n xs o1 b hm hb
  obtain ⟨q1, q2⟩ := r1
  rcases q2 with ⟨_, h0⟩ | ⟨G, cap, cur, rfl, _, q3, q4, q5, q6, q7⟩
  · omega
  · have hG : row.nil = false ∧ G = (g r).1 ∨ G = w.heap.size := by
      rcases r4 with r4 | r4
      · exact .inl (o3 G (by rw [← r4]; rfl))
      · right; simpa [Value.ownBlock] using r4
    have hxl : xs.length = n := by simpa using o1.1
    have hgrown := Sim.grown hs (row' := ⟨e, l1 ++ strV b, false, 1⟩) (cap := cap) hr hG rfl q3 (fun b hb hne => r2.block b hb (fun e' => (hne (o3 b e'.symm).1) (o3 b e'.symm).2)) r2.size r2.os r2.tape r2.output (by
        rw [hasL_append, hc1, strV_has]; rfl) (fun _ => q6) (by
      intro j v hv
      simp only at hv
      have hcur : ∀ k, k < n + b.size → cur[k]? = (xs ++ Lib.strCells b)[k]? := by
        intro k hk
        rw [← q7, List.getElem?_take_of_lt (by omega)]
        simp
      have hjl : j < n + b.size := by
        have := (List.getElem?_eq_some_iff.1 hv).1
        simp only [List.length_append, strV_len, hl1] at this
        exact this
      rw [hcur j hjl]
      by_cases hj : j < n
      · rw [List.getElem?_append_left (by omega)] at hv ⊢
        exact o2 j v hv
      · rw [List.getElem?_append_right (by omega)] at hv ⊢
        rw [hl1] at hv
        rw [hxl]
        simp only [strV, Lib.strCells, List.getElem?_map] at hv ⊢
        cases hc : b.data.toList[j - n]? with
        | none => rw [hc] at hv; cases hv
        | some q =>
          rw [hc] at hv
          simp only [Option.map_some, Option.some.injEq] at hv
          subst hv
          exact ⟨_, rfl, .d _ _ (.p _)⟩)
    unfold Oper.wp
    have hexec : (execOp a.eval o).run c.P w = .ok (.value (.slice (some ⟨G, 0, none⟩) (n + b.size) cap)) w' := by
      simp only [execOp, ho, resolve, invoke, builtin, Sem.run_bind, Sem.run_pure, Result.andThen_ok, List.map_toArray, List.map_cons, List.map_nil, hyv, hrun]
    rw [hexec]
    refine hK _ _ _ _ rfl (hgrown.put o.dst ?_ ?_)
    · exact dok_spec (s := s) hd
    · have := VRep.own (w := w') (q := qt c ((r, (⟨e, l1 ++ strV b, false, 1⟩ : Row)) :: (s.forget r).H) (fun k => if k = r then (G, cap) else g k)) (g := fun k => if k = r then (G, cap) else g k) r 1 (n + b.size) (by simpa using q4) (by simpa using q5)
      simpa using this
theorem st_append_strF {t u e : TypeId} {x y : Operand} {r n : Nat} {f : Bool} {row : Row} {l1 : List V} {b : ByteArray} (hu : c.P.underlying t = some (.slice e)) (hus : c.P.underlying u = some .string) (hi : Inf c.P e 1 1 (.int .u8 0))
    (ho : o.op = .call { callee := .builtin .append, args := #[x, y], argTypes := #[t, u] }) (hx : s.ev x = some (.own r 1 n f)) (hr : fnd s.H r = some row) (hf : row.nil = f) (hrz : row.sz = 1) (hty : row.ty = e)
    (hl : row.cells = l1) (hl1 : l1.length = n) (hc1 : V.hasL r l1 = false) (hy : s.ev y = some (.s b)) (hm : 0 < b.size) (hb : n + b.size ≤ 140737488355328) (hd : dok s o = true) :
    Step c o s (fun s' => s' = S.put ⟨s.n, (s.forget r).T, (r, ⟨e, l1 ++ strV b, false, 1⟩) :: (s.forget r).H, (s.forget r).K⟩ o.dst (.own r 1 (n + b.size) false)) :=
  st_append_str (z := .int .u8 0) hu hus hi ho hx hr hf hrz hty (by rw [hl, List.take_of_length_le (by omega)]) hl1 hc1 hy hm hb hd
end
section
variable {c : Cx} {s : S} {o : Oper} {g : Nat → Nat × Nat} {a : Act} {w : World}
theorem rp_sliceData {x : Operand} {t : TypeId} {r sz n : Nat} (ho : o.op = .call { callee := .builtin .unsafeSliceData, args := #[x], argTypes := #[t] }) (hx : s.ev x = some (.own r sz n false)) (hn : 0 < n) : RP c o s (.ref r 0) := fun g a w hs => by
  have hx' : ∃ cap, a.eval x = .slice (some ⟨(g r).1, 0, none⟩) n cap ∧ cap ≠ 0 := by
    have h := hs.ev hx
    generalize a.eval x = u at h
    cases h with
    | own _ _ _ h1 h2 => exact ⟨_, rfl, by omega⟩
  obtain ⟨cap, hxe, hc⟩ := hx'
  refine ⟨.pointer (some ⟨(g r).1, 0, none⟩), .ref r 0, fun w' => ?_⟩
  simp only [execOp, ho, resolve, invoke, builtin, Sem.run_bind, Sem.run_pure, Result.andThen_ok, List.map_toArray, List.map_cons, List.map_nil, hxe, Lib.run_unsafeSliceData_row _ _ _ _ _ _ hc]
theorem rp_sliceData0 {x : Operand} {t : TypeId} {r sz n : Nat} (ho : o.op = .call { callee := .builtin .unsafeSliceData, args := #[x], argTypes := #[t] }) (hx : s.ev x = some (.own r sz n true)) : RP c o s (.d (.p (.pointer none))) := fun g a w hs => by
  have hx' : a.eval x = .slice none 0 0 := by
    have h := hs.ev hx
    generalize a.eval x = u at h
    cases h with
    | ownNil => rfl
  refine ⟨.pointer none, .d _ _ (.p _), fun w' => ?_⟩
  simp only [execOp, ho, resolve, invoke, builtin, Sem.run_bind, Sem.run_pure, Result.andThen_ok, List.map_toArray, List.map_cons, List.map_nil, hx', Lib.run_unsafeSliceData_nil]
theorem rp_ustr0 {x y : Operand} {t u : TypeId} {n' : Int} (ho : o.op = .call { callee := .builtin .unsafeString, args := #[x, y], argTypes := #[t, u] }) (hx : s.ev x = some (.d (.p (.pointer none)))) (hy : s.ev y = some (.i n')) (hn : n' = 0) : RP c o s (.s ⟨#[]⟩) := fun g a w hs => by
  subst hn
  refine ⟨.string ⟨#[]⟩, .d _ _ (.p _), fun w' => ?_⟩
  simp only [execOp, ho, resolve, invoke, builtin, Sem.run_bind, Sem.run_pure, Result.andThen_ok, List.map_toArray, List.map_cons, List.map_nil, VRep.p_eq (hs.ev hx), VRep.p_eq (hs.ev hy), Lib.run_unsafeString_none]
  rfl
theorem cell_freeze (w : World) (a b : Addr) (n : Nat) : (w.freeze a n).cell? b = w.cell? b := by
  unfold World.freeze
  split
  · rfl
  simp only [World.cell?, Array.getElem?_modify]
  by_cases h : a.block = b.block
  · rw [if_pos h]
    cases hh : w.heap[b.block]? with
    | none => rfl
    | some ob => cases ob <;> rfl
  rw [if_neg h]
theorem add0 (g j : Nat) : (⟨g, 0, none⟩ : Addr).add j = ⟨g, j, none⟩ := by
  unfold Addr.add
  split
  · rename_i h; simp [h]
  simp
theorem heap_freeze_other (w : World) (a : Addr) (n k : Nat) (h : k ≠ a.block) : (w.freeze a n).heap[k]? = w.heap[k]? := by
  unfold World.freeze
  split
  · rfl
  simp only [Array.getElem?_modify]
  rw [if_neg (fun e => h e.symm)]
theorem size_freeze (w : World) (a : Addr) (n : Nat) : (w.freeze a n).heap.size = w.heap.size := by
  unfold World.freeze
  split
  · rfl
  simp
/-- An object of bytes is frozen: it is no object any more. -/
theorem Sim.frzStr (hs : Sim c g s a w) {r : Nat} {row : Row} (hr : fnd s.H r = some row) (hn : row.nil = false) (n : Nat) : Sim c g ⟨s.n, s.T, s.H.filter (fun x => x.1 != r), s.K⟩ a (w.freeze ⟨(g r).1, 0, none⟩ n) := by
  obtain ⟨arr0, h0, _, _⟩ := hs.obj r row hr hn
  have hfn : ∀ k row', fnd (s.H.filter (fun x => x.1 != r)) k = some row' → k ≠ r ∧ fnd s.H k = some row' := by
    intro k row' hk
    have e : k ≠ r := by rintro rfl; rw [fnd_filter_self] at hk; cases hk
    rw [fnd_filter r _ _ e] at hk
    exact ⟨e, hk⟩
  have hq : ∀ b, qt c s.H g b → b < w.heap.size → qt c (s.H.filter (fun x => x.1 != r)) g b := fun b hb _ => ⟨hb.1, fun k row' hk hn => hb.2 k row' (hfn k row' hk).2 hn⟩
  have hw : Cells w (w.freeze ⟨(g r).1, 0, none⟩ n) (qt c s.H g) := ⟨by rw [size_freeze]; exact Nat.le_refl _, fun b o u _ _ h => by rw [cell_freeze]; exact h, fun b es hne hm => by
    rw [heap_freeze_other]
    · exact hm
    intro e
    simp only at e
    rw [e, h0] at hm
    cases hm
    exact hne _ _ _ rfl⟩
  have hm : ∀ {v x}, VRep w (qt c s.H g) g v x → VRep (w.freeze ⟨(g r).1, 0, none⟩ n) (qt c (s.H.filter (fun x => x.1 != r)) g) g v x := fun hv => hv.mono hw hq (fun _ _ => rfl)
  refine ⟨hs.size, hs.defers, ?_, ?_, ?_, ?_, ?_, ?_, hs.low, Lib.below_freeze hs.below (hs.base r row hr hn) n⟩
  · intro i v hv
    obtain ⟨x, h1, h2⟩ := hs.tmp i v hv
    exact ⟨x, h1, hm h2⟩
  · intro k row' hk hn
    exact hs.nul k row' (hfn k row' hk).2 hn
  · intro k row' hk hkn
    obtain ⟨k1, k2⟩ := hfn k row' hk
    obtain ⟨arr, h1, h2, h3⟩ := hs.obj k row' k2 hkn
    refine ⟨arr, ?_, h2, fun j v hv => ?_⟩
    · rw [heap_freeze_other]
      · exact h1
      exact fun e => k1 (hs.inj k r _ _ k2 hkn hr hn e)
    obtain ⟨x, h4, h5⟩ := h3 j v hv
    exact ⟨x, h4, hm h5⟩
  · intro j v x h1 h2
    exact hm (hs.keep j v x h1 h2)
  · intro k k' row row' h1 n1 h2 n2 h3
    exact hs.inj k k' row row' (hfn k row h1).2 n1 (hfn k' row' h2).2 n2 h3
  intro k row h1 n1
  exact hs.base k row (hfn k row h1).2 n1
theorem st_ustr {x y : Operand} {t u e : TypeId} {r : Nat} {n' : Int} {row : Row} {b : ByteArray} (hu : c.P.underlying t = some (.pointer e)) (hce : c.P.cellsOf e = 1) (ho : o.op = .call { callee := .builtin .unsafeString, args := #[x, y], argTypes := #[t, u] }) (hx : s.ev x = some (.ref r 0)) (hy : s.ev y = some (.i n')) (hn : n' = (b.size : Int)) (hb0 : 0 < b.size) (hb : b.size ≤ 140737488355328)
    (hr : fnd s.H r = some row) (hnl : row.nil = false) (hty : row.ty = e) (hrow : row.cells = strV b) (hd : dok s o = true) :
    Step c o s (fun s' => s' = S.put ⟨s.n, s.T, s.H.filter (fun x => x.1 != r), s.K⟩ o.dst (.s b)) := by
  subst hn
  intro g a w hs K Q hK
  have hxe : a.eval x = .pointer (some ⟨(g r).1, 0, none⟩) := by
    have h := hs.ev hx
    generalize a.eval x = u at h
    cases h; rfl
  obtain ⟨arr, h1, _, h2⟩ := hs.obj r row hr hnl
  have hlen : b.data.toList.length = b.size := Array.length_toList
  have hcell : ∀ j x, b.data.toList[j]? = some x → w.cell? ((⟨(g r).1, 0, none⟩ : Addr).add j) = some (.int .u8 x.toNat) := by
    intro j x hj
    obtain ⟨y, h3, h4⟩ := h2 j (.d (.p (.int .u8 (x.toNat : Int)))) (by rw [hrow]; simp [strV, hj])
    have := cell_of_row w (g r).1 j _ _ _ h1
    rw [add0, this, h3, VRep.p_eq h4]
  have hal : b.size ≤ arr.size := by
    obtain ⟨y, h3, _⟩ := h2 (b.size - 1) ((strV b)[b.size - 1]'(by rw [strV_len]; omega)) (by rw [hrow]; exact List.getElem?_eq_getElem _)
    have := (Array.getElem?_eq_some_iff.1 h3).1
    omega
  have hsh : w.shape? (g r).1 = some (e, arr.size) := by
    simp [World.shape?, h1, hty]
  have hrun := Lib.run_unsafeString_row (P := c.P) (w := w) t u o.type e hu hce (g r).1 arr.size hsh b.data.toList (by intro h0; rw [h0] at hlen; simp at hlen; omega) zT15 zT15 hcell
  have hba : (⟨b.data.toList.toArray⟩ : ByteArray) = b := by cases b; simp
  rw [hlen, hba] at hrun
  unfold Oper.wp
  have hexec : (execOp a.eval o).run c.P w = .ok (.value (.string b)) (w.freeze ⟨(g r).1, 0, none⟩ b.size) := by
    simp only [execOp, ho, resolve, invoke, builtin, Sem.run_bind, Sem.run_pure, Result.andThen_ok, List.map_toArray, List.map_cons, List.map_nil, hxe, VRep.p_eq (hs.ev hy), hrun]
  rw [hexec]
  exact hK g _ _ _ rfl ((hs.frzStr hr hnl b.size).put o.dst (dok_spec (s := s) hd) (.d _ _ (.p _)))
end
/-- What is asked of a type that holds a Builder, and nothing else. -/
structure BOk (ty : TypeId) : Prop where
 c0 : 0 < Tryz.prog.cellsOf ty
 c2 : Tryz.prog.cellsOf ty ≤ 2
 row : rowAt Tryz.prog (fun x => sameLayout Tryz.prog Tryz.prog.depth x 114) Tryz.prog.depth ty 1 0 1 = true
/-- A Builder that has written s: a tells whether it knows itself, z whether its buffer is nil. -/
abbrev bT (ty : TypeId) (z : Bool) (s : ByteArray) (H0 : List (Nat × Row)) : List (Nat × Row) := (900, ⟨ty, [.ref 900 0, .own 901 1 s.size z], false, 0⟩) :: (901, ⟨5, strV s, z, 1⟩) :: H0
abbrev bF (ty : TypeId) (z : Bool) (s : ByteArray) (H0 : List (Nat × Row)) : List (Nat × Row) := (900, ⟨ty, [.d (.p (.pointer none)), .own 901 1 s.size z], false, 0⟩) :: (901, ⟨5, strV s, z, 1⟩) :: H0
def bH (ty : TypeId) (a z : Bool) (s : ByteArray) (H0 : List (Nat × Row)) : List (Nat × Row) := match a with
 | true => bT ty z s H0
 | false => bF ty z s H0
section
variable {ty : TypeId} {H0 : List (Nat × Row)} {K : List V}
theorem pc_copyF (hk : BOk ty) (z : Bool) (s : ByteArray) (hl : Lw H0 K) : PC Tryz.prog 118 [.ref 900 0] (bF ty z s H0) K (fun v H' K' => v = .tup [] ∧ H' = bT ty z s H0 ∧ K' = K) := by
 obtain ⟨k0, k1, k2⟩ := hk
 refine PC.intro (n := 20) ⟨Tryz.func118, rfl, rfl, rfl, rfl⟩ zT16 fun w0 out kx => AW.weaken ?_
 simp only [enum]
 apply AW.sr
 refine AL.z ?_
 refine AL.rp rfl rfl (rp_nilCheck rfl rfl) ?_
 iterate 2 refine AL.z ?_
 refine AL.rp rfl rfl (rp_eqlp_nil Tryz.underlying111 rfl rfl rfl) ?_
 apply AL.nil
 try simp only [thenS, S.put, enum, List.nil_append, List.cons_append, List.append_nil, Nat.zero_add, Nat.reduceAdd]
 refine AW.condT rfl ?_
 apply AW.region
 iterate 2 refine AL.z ?_
 refine AL.rd rfl rfl (rd_to_unsafe Tryz.underlying111 Tryz.underlying181 inf114 zT14 rfl rfl rfl rfl (by first | decide | exact Nat.succ_pos _)) ?_
 refine AL.rp rfl rfl (rp_noescape Tryz.func132 zT12 zT12 zT12 zT12 rfl rfl rfl) ?_
 refine AL.rd rfl rfl (rd_from_unsafe Tryz.underlying181 Tryz.underlying111 inf114 rfl rfl rfl rfl (by first | assumption | exact Nat.le_of_ble_eq_true zT12) (by first | assumption | exact Nat.le_of_ble_eq_true zT12) (by first | assumption | kernel_rfl)) ?_
 refine AL.rp rfl rfl (rp_nilCheck rfl rfl) ?_
 refine AL.z ?_
 (refine AL.st rfl (st_store inf111 rfl rfl rfl rfl rfl rfl rfl zT7 rfl) ?_)
 apply AL.nil
 try simp only [nd, setL, V.cs, nz, Nat.reduceAdd, nm, ns]
 exact ⟨_, Less.hp (T := []) trivial rfl rfl (fun k row h => hl.low (T := [_, _, _]) (by rfl) k row h), [], trivial, rfl, rfl, rfl⟩
theorem pc_copyT (hk : BOk ty) (z : Bool) (s : ByteArray) (hl : Lw H0 K) : PC Tryz.prog 118 [.ref 900 0] (bT ty z s H0) K (fun v H' K' => v = .tup [] ∧ H' = bT ty z s H0 ∧ K' = K) := by
 obtain ⟨k0, k1, k2⟩ := hk
 refine PC.intro (n := 20) ⟨Tryz.func118, rfl, rfl, rfl, rfl⟩ zT16 fun w0 out kx => AW.weaken ?_
 simp only [enum]
 apply AW.sr
 refine AL.z ?_
 refine AL.rp rfl rfl (rp_nilCheck rfl rfl) ?_
 iterate 2 refine AL.z ?_
 refine AL.rp rfl rfl (rp_eqlp_own Tryz.underlying111 rfl rfl rfl) ?_
 apply AL.nil
 try simp only [thenS, S.put, enum, List.nil_append, List.cons_append, List.append_nil, Nat.zero_add, Nat.reduceAdd]
 refine AW.condF rfl ?_
 apply AW.sr
 refine AL.z ?_
 refine AL.rp rfl rfl (rp_nilCheck rfl rfl) ?_
 iterate 3 refine AL.z ?_
 refine AL.rp rfl rfl (rp_neqp_same Tryz.underlying111 inf114 rfl rfl rfl) ?_
 apply AL.nil
 try simp only [nd]
 refine AW.condF rfl ?_
 apply AW.skip
 try simp only [thenS]
 exact ⟨_, Less.hp (T := []) trivial rfl rfl (fun k row h => hl.low (T := [_, _]) (by rfl) k row h), [], trivial, rfl, rfl, rfl⟩
theorem pc_copy (hk : BOk ty) (a z : Bool) (s : ByteArray) (hl : Lw H0 K) : PC Tryz.prog 118 [.ref 900 0] (bH ty a z s H0) K (fun v H' K' => v = .tup [] ∧ H' = bT ty z s H0 ∧ K' = K) := by
 cases a
 ·exact pc_copyF hk z s hl
 exact pc_copyT hk z s hl
theorem pc_WriteString (hk : BOk ty) (a z : Bool) (s t : ByteArray) (hl : Lw H0 K) (ht : 0 < t.size) (hst : s.size + t.size ≤ 140737488355328) : PC Tryz.prog 81 [.ref 900 0, .s t] (bH ty a z s H0) K (fun v H' K' => v = .tup [.i (t.size : Int), .d (.p .nilIface)] ∧ H' = bT ty false (s ++ t) H0 ∧ K' = K) := by
 have hcp := fun K (hl : Lw H0 K) => pc_copy hk a z s hl
 have hsl := strV_len s
 refine PC.intro (n := 19) ⟨Tryz.func81, rfl, rfl, rfl, rfl⟩ zT16 fun w0 out kx => AW.weaken ?_
 simp only [enum]
 apply AW.sr
 iterate 2 refine AL.z ?_
 apply AL.nil
 try simp only [thenS, S.put, enum, List.nil_append, List.cons_append, List.append_nil, Nat.zero_add, Nat.reduceAdd]
 apply AW.sr
 refine AL.z ?_
 try simp only [S.put, S.newObj, setL, V.cs, nz, Nat.zero_add, Nat.reduceAdd]
 refine AL.pc [0, 1] (ts := [_, _]) (args := [_]) (post := ?pc0) ?hc0 rfl rfl rfl rfl rfl rfl rfl rfl rfl ?_
 case hc0 => (refine hcp _ (hl.keepL _ ?_) <;> first | rfl | (simp [V.lowL, V.low]; done))
 rintro _ _ _ ⟨rfl, rfl, rfl⟩
 simp only [back, S.put, List.cons_append, List.nil_append, List.zip_cons_cons, List.zip_nil_left, List.drop_succ_cons, List.drop_zero, List.length_cons, List.length_nil, Nat.zero_add, Nat.reduceAdd]
 apply AL.nil
 try simp only [nd]
 apply AW.sr
 iterate 2 refine AL.z ?_
 refine AL.rp rfl rfl (rp_nilCheck rfl rfl) ?_
 iterate 3 refine AL.z ?_
 refine AL.st rfl (st_append_strF Tryz.underlying112 Tryz.underlying9 inf5 rfl rfl rfl rfl rfl rfl rfl zT5 (by exact strV_has _ _) rfl zT9 zT9 rfl) ?_
 simp only [S.forget, S.put, S.newObj, List.filter_cons, Nat.reduceBNe, bne_self_eq_false, if_true, if_false, Bool.false_eq_true, ↓reduceIte, List.map_cons, hl.forgetK 901 zT14, hl.forgetH 901 zT14]
 simp only [S.forget, S.put, S.newObj, junkIf, V.has, V.hasL, nh, hasL_flat, hasL_append, List.map_cons, List.map_nil, List.filter_cons, List.filter_nil, Nat.reduceBNe, Nat.reduceBEq, eq_self, bne_self_eq_false,  Bool.not_true, Bool.not_false, Bool.or_false, Bool.or_true, Bool.false_or, Bool.true_or, if_true, if_false, Bool.false_eq_true, ite_true, ite_false, ↓reduceIte, beq_self_eq_true, Nat.reduceEqDiff]
 refine AL.rp rfl rfl (rp_nilCheck rfl rfl) ?_
 refine AL.z ?_
 (refine AL.st rfl (st_store inf112 rfl rfl rfl rfl rfl rfl rfl zT7 rfl) ?_)
 apply AL.nil
 try simp only [nd, setL, V.cs, nz, Nat.reduceAdd, nm, ns]
 apply AW.sr
 refine AL.z ?_
 refine AL.rp rfl rfl (rp_len_str Tryz.underlying9 rfl rfl) ?_
 iterate 2 refine AL.z ?_
 apply AL.nil
 try simp only [nd]
 apply AW.ret
 refine ⟨_, Less.hp (T := [(4, _), (5, _)]) ⟨⟨_, rfl, Wk.refl _⟩, ⟨_, rfl, Wk.refl _⟩, trivial⟩ rfl rfl (fun k row h => hl.low (T := [_, _, _]) (by rfl) k row h), [_, _], ⟨rfl, rfl, trivial⟩, rfl, ?_, rfl⟩
 show (900, (⟨ty, [.ref 900 0, .own 901 1 (s.size + t.size) false], false, 0⟩ : Row)) :: (901, ⟨5, strV s ++ strV t, false, 1⟩) :: H0 = _
 rw [← strV_app, ← ByteArray.size_append]
theorem pc_WriteByte (hk : BOk ty) (a z : Bool) (s : ByteArray) (c : UInt8) (hl : Lw H0 K) (hst : s.size + 1 ≤ 140737488355328) : PC Tryz.prog 82 [.ref 900 0, .d (.p (.int .u8 (c.toNat : Int)))] (bH ty a z s H0) K (fun v H' K' => H' = bT ty false (s ++ ⟨#[c]⟩) H0 ∧ K' = K) := by
 have hcp := fun K (hl : Lw H0 K) => pc_copy hk a z s hl
 have hsl : (strV s).length = s.size * 1 := by rw [strV_len]; omega
 refine PC.intro (n := 17) ⟨Tryz.func82, rfl, rfl, rfl, rfl⟩ zT16 fun w0 out kx => AW.weaken ?_
 simp only [enum]
 apply AW.sr
 refine AL.z ?_
 apply AL.nil
 try simp only [thenS, S.put, enum, List.nil_append, List.cons_append, List.append_nil, Nat.zero_add, Nat.reduceAdd]
 apply AW.sr
 refine AL.z ?_
 try simp only [S.put, S.newObj, setL, V.cs, nz, Nat.zero_add, Nat.reduceAdd]
 refine AL.pc [0, 1] (ts := [_, _]) (args := [_]) (post := ?pc1) ?hc1 rfl rfl rfl rfl rfl rfl rfl rfl rfl ?_
 case hc1 => (refine hcp _ (hl.keepL _ ?_) <;> first | rfl | (simp [V.lowL, V.low]; done))
 rintro _ _ _ ⟨rfl, rfl, rfl⟩
 simp only [back, S.put, List.cons_append, List.nil_append, List.zip_cons_cons, List.zip_nil_left, List.drop_succ_cons, List.drop_zero, List.length_cons, List.length_nil, Nat.zero_add, Nat.reduceAdd]
 apply AL.nil
 try simp only [nd]
 apply AW.sr
 iterate 2 refine AL.z ?_
 refine AL.rp rfl rfl (rp_nilCheck rfl rfl) ?_
 iterate 3 refine AL.z ?_
 refine AL.sm rfl (sm_slice (vs := [(0, _)]) (zs := [.d (.p (.int .u8 0))]) 910 Tryz.underlying112 inf5 rfl rfl zT14 zT14 zT14 rfl rfl rfl rfl (by (refine S.clean_hp (L := [_, _]) hl zT14 ?_ ?_ <;> simp [S.put, S.newObj, S.forget, enum, V.has, V.hasL, junkIf, setL, V.cs, hasL_i, hasL_b, hasL_s, hasL_n, hasL_rep, hasL_flat, hasL_append, strV_has, -List.map_set])) rfl rfl) ?_
 refine AL.st rfl (st_appendF Tryz.underlying112 inf5 rfl zT14 rfl rfl rfl rfl rfl rfl zT5 (by simp [S.put, S.newObj, S.forget, enum, V.has, V.hasL, junkIf, setL, V.cs, hasL_i, hasL_b, hasL_s, hasL_n, hasL_rep, hasL_flat, hasL_append, strV_has, -List.map_set]) rfl rfl rfl rfl rfl rfl rfl zT14 zT15 zT15 rfl) ?_
 simp only [S.forget, S.put, S.newObj, List.filter_cons, Nat.reduceBNe, bne_self_eq_false, if_true, if_false, Bool.false_eq_true, ↓reduceIte, List.map_cons, hl.forgetK 901 zT14, hl.forgetH 901 zT14]
 simp only [S.forget, S.put, S.newObj, junkIf, V.has, V.hasL, nh, hasL_flat, hasL_append, List.map_cons, List.map_nil, List.filter_cons, List.filter_nil, Nat.reduceBNe, Nat.reduceBEq, eq_self, bne_self_eq_false,  Bool.not_true, Bool.not_false, Bool.or_false, Bool.or_true, Bool.false_or, Bool.true_or, if_true, if_false, Bool.false_eq_true, ite_true, ite_false, ↓reduceIte, beq_self_eq_true, Nat.reduceEqDiff]
 refine AL.rp rfl rfl (rp_nilCheck rfl rfl) ?_
 refine AL.z ?_
 (refine AL.st rfl (st_store inf112 rfl rfl rfl rfl rfl rfl rfl zT7 rfl) ?_)
 apply AL.nil
 try simp only [nd, setL, V.cs, nz, Nat.reduceAdd, nm, ns]
 apply AW.sr
 refine AL.z ?_
 apply AL.nil
 try simp only [nd]
 apply AW.ret
 refine ⟨_, Less.hp (T := [(4, _)]) ⟨⟨_, rfl, Wk.refl _⟩, trivial⟩ rfl rfl (fun k row h => hl.low (T := [_, _, _, _]) (by rfl) k row h), [_], ⟨rfl, trivial⟩, ?_, rfl⟩
 show (900, (⟨ty, [.ref 900 0, .own 901 1 (s.size + (⟨#[c]⟩ : ByteArray).size) false], false, 0⟩ : Row)) :: (901, ⟨5, strV s ++ strV ⟨#[c]⟩, false, 1⟩) :: H0 = _
 rw [← strV_app, ← ByteArray.size_append]
theorem Less.same (s : S) : Less s s := ⟨rfl, fun i v h => ⟨v, h, .refl _⟩, fun k row h => ⟨row, h, rfl, rfl, rfl, fun j v hv => ⟨v, hv, .refl _⟩⟩, fun j v h => ⟨v, h, .refl _⟩⟩
theorem Less.h0 {s : S} {T : List (Nat × V)} {H1 : List (Nat × Row)} (hT : LT s T) (h3 : ∀ k row, fnd H1 k = some row → fnd s.H k = some row) : Less ⟨s.n, T, H1, s.K⟩ s :=
 ⟨rfl, fun i v h => hT.get i v h, fun k row h => ⟨row, h3 k row h, rfl, rfl, rfl, fun j v hv => ⟨v, hv, .refl _⟩⟩, fun j v h => ⟨v, h, .refl _⟩⟩
theorem pc_String (z : Bool) (s : ByteArray) (a : Bool) (hl : Lw H0 K) (hz : z = true ↔ s.size = 0) (hst : s.size ≤ 140737488355328) : PC Tryz.prog 83 [.ref 900 0] (bH ty a z s H0) K (fun v H' K' => v = .s s ∧ H' = H0 ∧ K' = K) := by
 cases z with
 | true =>
  have h0 : s.size = 0 := hz.1 rfl
  have hs : s = ⟨#[]⟩ := by
   cases s with | mk x =>
   congr 1
   exact Array.eq_empty_of_size_eq_zero h0
  cases a
  all_goals
   refine PC.intro (n := 14) ⟨Tryz.func83, rfl, rfl, rfl, rfl⟩ zT16 fun w0 out kx => AW.weaken ?_
   simp only [enum, bH]
   apply AW.sr
   refine AL.z ?_
   apply AL.nil
   try simp only [thenS, S.put, enum, List.nil_append, List.cons_append, List.append_nil, Nat.zero_add, Nat.reduceAdd]
   apply AW.seq
   refine AW.draw [(0, true), (1, true), (2, true), (3, true), (4, true), (5, true), (6, true), (7, true), (8, true), (9, true), (10, false), (11, false)] (fun i => !([10, 11] : List Nat).contains i) 12 zT12 zT12 rfl zT12 ?_
   refine AD1.z ?_
   refine AD1.rp rfl rfl rfl (fun _ _ h => h) (rp_nilCheck rfl rfl) ?_
   iterate 2 refine AD1.z ?_
   refine AD1.rp rfl rfl rfl (fun _ _ h => h) (rp_sliceData0 rfl rfl) ?_
   refine AD1.z ?_
   refine AD1.rp rfl rfl rfl (fun _ _ h => h) (rp_nilCheck rfl rfl) ?_
   iterate 3 refine AD1.z ?_
   refine AD1.go ?_
   refine AD2.go ?_
   refine AD3.rp1 rfl rfl rfl rfl (rp_ustr0 rfl rfl rfl zT15) ?_
   refine AD3.rp1 rfl rfl rfl rfl (rp_assign rfl rfl) ?_
   refine AD3.nil ?_
   try simp only [nd, setL, V.cs, nz, Nat.reduceAdd, nm, ns]
   apply AW.ret
   exact ⟨_, Less.h0 (T := [(2, _)]) ⟨⟨_, rfl, Wk.refl _⟩, trivial⟩ (fun k row h => hl.low (T := [_, _]) (by rfl) k row h), [_], ⟨rfl, trivial⟩, by rw [hs]; rfl, rfl, rfl⟩
 | false =>
  have h0 : 0 < s.size := by
   rcases Nat.eq_zero_or_pos s.size with h | h
   ·have := hz.2 h
    cases this
   exact h
  cases a
  all_goals
   refine PC.intro (n := 14) ⟨Tryz.func83, rfl, rfl, rfl, rfl⟩ zT16 fun w0 out kx => AW.weaken ?_
   simp only [enum, bH]
   apply AW.sr
   refine AL.z ?_
   apply AL.nil
   try simp only [thenS, S.put, enum, List.nil_append, List.cons_append, List.append_nil, Nat.zero_add, Nat.reduceAdd]
   apply AW.seq
   refine AW.draw [(0, true), (1, true), (2, true), (3, true), (4, true), (5, true), (6, true), (7, true), (8, true), (9, true), (10, false), (11, false)] (fun i => !([10, 11] : List Nat).contains i) 12 zT12 zT12 rfl zT12 ?_
   refine AD1.z ?_
   refine AD1.rp rfl rfl rfl (fun _ _ h => h) (rp_nilCheck rfl rfl) ?_
   iterate 2 refine AD1.z ?_
   refine AD1.rp rfl rfl rfl (fun _ _ h => h) (rp_sliceData rfl rfl zT9) ?_
   refine AD1.z ?_
   refine AD1.rp rfl rfl rfl (fun _ _ h => h) (rp_nilCheck rfl rfl) ?_
   iterate 3 refine AD1.z ?_
   refine AD1.go ?_
   refine AD2.go ?_
   refine AD3.st rfl rfl rfl (st_ustr Tryz.underlying167 zT12 rfl rfl rfl rfl zT9 zT9 rfl rfl rfl rfl rfl) ?_
   refine AD3.rp1 rfl rfl rfl rfl (rp_assign rfl rfl) ?_
   refine AD3.nil ?_
   try simp only [nd, setL, V.cs, nz, Nat.reduceAdd, nm, ns]
   apply AW.ret
   exact ⟨_, Less.h0 (T := [(2, _)]) ⟨⟨_, rfl, Wk.refl _⟩, trivial⟩ (fun k row h => by
    have hk : k ≠ 901 := by
     rintro rfl
     rw [hl.fnd 901 zT14] at h
     cases h
    refine (fnd_filter 901 _ _ hk).trans ?_
    exact hl.low (T := [_, _]) (by rfl) k row h), [_], ⟨rfl, trivial⟩, rfl, rfl, rfl⟩
end
section
variable {c : Cx} {s : S} {o : Oper} {t t' : TypeId} {x y : Operand} {m n : Int}
end
section
variable {c : Cx} {s : S} {o : Oper} {Q : Exit → S → Prop} {L : List Oper} {need : Nat → Bool} {i : Nat} {r : List (Nat × Nat)}
end
def decS (n : Nat) : ByteArray := ⟨(Lib.decDigits n).toArray⟩
def laysM171_ren : Go.Shelf.Ren := ⟨fun | 171 => 40 | 243 => 79 | 246 => 117 | 283 => 128 | 284 => 129 | 285 => 130 | 286 => 131 | 129 => 116 | 317 => 143 | 318 => 144 | 319 => 145 | 320 => 146 | 337 => 158 | 338 => 159 | n => n, fun | 3 => 3 | 9 => 9 | 2 => 2 | 4 => 4 | 171 => 177 | 0 => 0 | 53 => 125 | 37 => 112 | 5 => 5 | 173 => 179 | 212 => 194 | 51 => 122 | 20 => 20 | 213 => 195 | 46 => 77 | 232 => 206 | 233 => 207 | n => n, fun | 17 => 0 | 18 => 1 | 19 => 2 | n => n⟩
theorem laysM171 : Go.Proofs.LaysM.n171 Tryz.prog laysM171_ren := {
  mixed := by kernel_rfl
  f129 := Tryz.func116.trans (congrArg some (by kernel_rfl))
  f171 := Tryz.func40.trans (congrArg some (by kernel_rfl))
  f243 := Tryz.func79.trans (congrArg some (by kernel_rfl))
  f246 := Tryz.func117.trans (congrArg some (by kernel_rfl))
  f283 := Tryz.func128.trans (congrArg some (by kernel_rfl))
  f284 := Tryz.func129.trans (congrArg some (by kernel_rfl))
  f285 := Tryz.func130.trans (congrArg some (by kernel_rfl))
  f286 := Tryz.func131.trans (congrArg some (by kernel_rfl))
  f317 := Tryz.func143.trans (congrArg some (by kernel_rfl))
  f318 := Tryz.func144.trans (congrArg some (by kernel_rfl))
  f319 := Tryz.func145.trans (congrArg some (by kernel_rfl))
  f320 := Tryz.func146.trans (congrArg some (by kernel_rfl))
  f337 := Tryz.func158.trans (congrArg some (by kernel_rfl))
  f338 := Tryz.func159.trans (congrArg some (by kernel_rfl))
  t0 := Tryz.underlying0
  a0 := Tryz.isAgg0
  z0 := Tryz.sizeOf0
  v0 := Tryz.zeroValue0
  t2 := Tryz.underlying2
  a2 := Tryz.isAgg2
  z2 := Tryz.sizeOf2
  v2 := Tryz.zeroValue2
  t3 := Tryz.underlying3
  a3 := Tryz.isAgg3
  z3 := Tryz.sizeOf3
  v3 := Tryz.zeroValue3
  t4 := Tryz.underlying4
  a4 := Tryz.isAgg4
  z4 := Tryz.sizeOf4
  v4 := Tryz.zeroValue4
  t5 := Tryz.underlying5
  a5 := Tryz.isAgg5
  z5 := Tryz.sizeOf5
  v5 := Tryz.zeroValue5
  t9 := Tryz.underlying9
  a9 := Tryz.isAgg9
  z9 := Tryz.sizeOf9
  v9 := Tryz.zeroValue9
  t20 := Tryz.underlying20
  a20 := Tryz.isAgg20
  z20 := Tryz.sizeOf20
  v20 := Tryz.zeroValue20
  t37 := Tryz.underlying112
  a37 := Tryz.isAgg112
  z37 := Tryz.sizeOf112
  v37 := Tryz.zeroValue112
  t46 := Tryz.underlying77
  a46 := Tryz.isAgg77
  z46 := Tryz.sizeOf77
  v46 := Tryz.zeroValue77
  t51 := Tryz.underlying122
  a51 := Tryz.isAgg122
  z51 := Tryz.sizeOf122
  v51 := Tryz.zeroValue122
  t53 := Tryz.underlying125
  a53 := Tryz.isAgg125
  z53 := Tryz.sizeOf125
  v53 := Tryz.zeroValue125
  t171 := Tryz.underlying177
  a171 := Tryz.isAgg177
  z171 := Tryz.sizeOf177
  v171 := Tryz.zeroValue177
  t173 := Tryz.underlying179
  a173 := Tryz.isAgg179
  z173 := Tryz.sizeOf179
  v173 := Tryz.zeroValue179
  t212 := Tryz.underlying194
  a212 := Tryz.isAgg194
  z212 := Tryz.sizeOf194
  v212 := Tryz.zeroValue194
  t213 := Tryz.underlying195
  a213 := Tryz.isAgg195
  z213 := Tryz.sizeOf195
  t232 := Tryz.underlying206
  a232 := Tryz.isAgg206
  z232 := Tryz.sizeOf206
  v232 := Tryz.zeroValue206
  t233 := Tryz.underlying207
  a233 := Tryz.isAgg207
  z233 := Tryz.sizeOf207
  v233 := Tryz.zeroValue207
  g17 := by kernel_rfl
  g18 := by kernel_rfl
  g19 := by kernel_rfl
  i0 := by kernel_rfl
  i2 := by kernel_rfl
  i3 := by kernel_rfl
  i4 := by kernel_rfl
  i5 := by kernel_rfl
  i9 := by kernel_rfl
  i20 := by kernel_rfl
  i37 := by kernel_rfl
  i46 := by kernel_rfl
  i51 := by kernel_rfl
  i53 := by kernel_rfl
  i171 := by kernel_rfl
  i173 := by kernel_rfl
  i212 := by kernel_rfl
  i232 := by kernel_rfl
  i233 := by kernel_rfl
  m17 := by kernel_rfl
  m18 := by kernel_rfl
  m19 := by kernel_rfl }
theorem itoa_call (n : Int) (h0 : -9223372036854775808 ≤ n) (h1 : n ≤ 9223372036854775807) (w : World) (htab : Lib.TabIs Tryz.prog w "internal/strconv.uint64pow10" .u64 Lib.pow10Tab) :
    Calls Tryz.prog 40 #[.int .i64 n] w fun e w' => e = .returned (.string ⟨(Lib.itoa n).toArray⟩) ∧ ∃ k os, w' = grow (w.drewN k) os := Any.strconv_Itoa laysM171 n h0 h1 w htab
theorem grow_below (w : World) (k : Nat) (os : Array Obj) : Below w.heap.size w (grow (w.drewN k) os) :=
  ⟨rfl, rfl, rfl, by simp [grow, World.drewN], fun k hk => by simp [grow, World.drewN, Array.getElem?_append_left hk]⟩
def preT : World → Prop := fun w => Lib.TabIs Tryz.prog w "internal/strconv.uint64pow10" .u64 Lib.pow10Tab
theorem am_Itoa (n : Nat) (h : n ≤ 1000000001) : FnP preT Tryz.prog 40 [.i (n : Int)] (fun v => v = .s (decS n)) :=
  FnP.ofCalls (xs := [.int .i64 (n : Int)]) (y := .string (decS n)) (fun w hw => (itoa_call (n : Int) zT15 zT15 w hw).mono fun e w' ⟨he, k, os, hw'⟩ => ⟨by
    rw [he]
    have : (⟨(Lib.itoa (n : Int)).toArray⟩ : ByteArray) = decS n := by unfold Lib.itoa decS; rw [if_neg zT15]; simp only [Int.toNat_natCast]
    rw [this], by rw [hw']; exact grow_below _ _ _⟩) (fun _ _ _ zs h => by
    obtain ⟨h1, h2⟩ := h
    match zs, h1, h2 with
    | [z], _, h2 => rw [VRep.p_eq (h2 0 _ z rfl rfl)]) (fun _ _ _ => .d _ _ (.p _)) zT8
theorem am_In (n lo hi : Int) : Fn Tryz.prog 67 [.i n, .i lo, .i hi] (fun v => v = .b (decide (lo ≤ n ∧ n ≤ hi))) := by
 refine Fn.intro (n := 15) ⟨Tryz.func67, rfl, rfl, rfl, rfl⟩ zT8 zT16 fun w0 out => ?_
 by_cases h1 : lo ≤ n
 ·by_cases h2 : n ≤ hi
  ·skip
   apply AW.sr
   refine AL.z ?_
   apply AL.nil
   try simp only [thenS, S.put, enum, List.nil_append, List.cons_append, List.append_nil, Nat.zero_add, Nat.reduceAdd]
   apply AW.sr
   iterate 4 refine AL.z ?_
   iterate 3 refine AL.zy ?_
   iterate 2 refine AL.z ?_
   apply AL.nil
   try simp only [nd]
   apply AW.ret
   exact ⟨[_], ⟨rfl, trivial⟩, by simp [tupOf, h1, h2], by simp [tupOf, V.pure, V.has]⟩
  skip
  apply AW.sr
  refine AL.z ?_
  apply AL.nil
  try simp only [thenS, S.put, enum, List.nil_append, List.cons_append, List.append_nil, Nat.zero_add, Nat.reduceAdd]
  apply AW.sr
  iterate 4 refine AL.z ?_
  iterate 3 refine AL.zy ?_
  iterate 2 refine AL.z ?_
  apply AL.nil
  try simp only [nd]
  apply AW.ret
  exact ⟨[_], ⟨rfl, trivial⟩, by simp [tupOf, h1, h2], by simp [tupOf, V.pure, V.has]⟩
 skip
 apply AW.sr
 refine AL.z ?_
 apply AL.nil
 try simp only [thenS, S.put, enum, List.nil_append, List.cons_append, List.append_nil, Nat.zero_add, Nat.reduceAdd]
 apply AW.sr
 iterate 4 refine AL.z ?_
 refine AL.no rfl rfl rfl rfl ?_
 refine AL.no rfl rfl rfl rfl ?_
 refine AL.no rfl rfl rfl rfl ?_
 iterate 2 refine AL.z ?_
 apply AL.nil
 try simp only [nd]
 apply AW.ret
 exact ⟨[_], ⟨rfl, trivial⟩, by simp [tupOf, h1], by simp [tupOf, V.pure, V.has]⟩
theorem am_ArcCount (m : Mach) (h60 : m.states.length ≤ 60) : Fn Tryz.prog 66 [mV m] (fun v => v = .i (arcN m.states)) := by
 refine Fn.mach m 0 rfl fun _ hal => ?_
 obtain ⟨st, sts⟩ := m
 simp only at h60 hal ⊢
 obtain ⟨len, hl⟩ : ∃ n, sts.length = n := ⟨_, rfl⟩
 rw [hl] at h60
 refine Fn.intro (n := 22) ⟨Tryz.func66, rfl, rfl, rfl, rfl⟩ zT8 zT16 fun w0 out => ?_
 apply AW.sr
 refine AL.sm rfl (sm_box 1 rfl rfl rfl rfl rfl) ?_
 refine AL.z ?_
 apply AL.nil
 try simp only [nd, setL, V.cs, nz, Nat.reduceAdd, nm, ns, enum]
 apply AW.sr
 refine AL.z ?_
 apply AL.nil
 try simp only [nd]
 apply AW.seq
 apply AW.sr
 refine AL.z ?_
 apply AL.nil
 try simp only [nd]
 apply AW.block
 refine AW.loop (fun s' => ∃ k : Nat, k ≤ len ∧ arcN (sts.take k) ≤ k * 4398046511104 ∧ s' = ⟨22, [(1, .ref 1 0), (3, .i (arcN (sts.take k))), (4, .i k)], [(1, ⟨24, [.i st, .d (stsD sts)], false, 0⟩)], []⟩) (fun s' => len - s'.nat 4) ⟨_, ?_, 0, by omega, by simp [arcN], rfl⟩ ?_
 ·exact Less.a0
 rintro s' ⟨k, hk, hs, rfl⟩
 by_cases hlt : k < len
 ·obtain ⟨x, hx⟩ := get_lt hl hlt
  obtain ⟨la, hla⟩ : ∃ n, x.arcs.length = n := ⟨_, rfl⟩
  have hla' := hal x (List.mem_of_getElem? hx)
  have hsn : arcN (sts.take (k + 1)) = arcN (sts.take k) + la := by rw [take_snoc hx, arcN_snoc, hla]
  apply AW.seq
  apply AW.sr
  iterate 5 refine AL.z ?_
  apply AL.nil
  try simp only [nd]
  refine AW.condT rfl ?_
  apply AW.skip
  try simp only [thenS]
  apply AW.seq
  apply AW.block
  apply AW.region
  iterate 10 refine AL.z ?_
  apply AL.nil
  try simp only [nd]
  apply AW.region
  iterate 3 refine AL.z ?_
  apply AL.nil
  try simp only [nd]
  refine ⟨_, ?_, ⟨k + 1, by omega, by omega, rfl⟩, ?_⟩
  ·rw [hsn]; exact Less.a0
  simp [S.nat, fnd]; omega
 skip
 apply AW.seq
 apply AW.sr
 iterate 5 refine AL.z ?_
 apply AL.nil
 try simp only [nd]
 refine AW.condF rfl ?_
 refine AW.exit ?_
 try simp only [thenS, inBlockS, ↓reduceIte, Nat.reduceEqDiff]
 apply AW.sr
 iterate 2 refine AL.z ?_
 apply AL.nil
 try simp only [nd]
 apply AW.ret
 exact ⟨[_], ⟨rfl, trivial⟩, by rw [arcN_full hl hlt]; rfl, by simp [tupOf, V.pure, V.has]⟩
theorem am_IsWeight (x : Int) : Fn Tryz.prog 68 [.i x] (fun v => v = .b (decide (0 ≤ x ∧ x ≤ 1000000001))) := by
 refine Fn.intro (n := 9) ⟨Tryz.func68, rfl, rfl, rfl, rfl⟩ zT8 zT16 fun w0 out => ?_
 by_cases h1 : x = 1000000001
 ·skip
  apply AW.sr
  refine AL.z ?_
  apply AL.nil
  try simp only [thenS, S.put, enum, List.nil_append, List.cons_append, List.append_nil, Nat.zero_add, Nat.reduceAdd]
  apply AW.sr
  iterate 3 refine AL.z ?_
  refine AL.no rfl rfl rfl rfl ?_
  refine AL.no rfl rfl rfl rfl ?_
  iterate 2 refine AL.z ?_
  apply AL.nil
  try simp only [nd, setL, V.cs, nz, Nat.reduceAdd, nm, ns]
  apply AW.ret
  exact ⟨[_], ⟨rfl, trivial⟩, by simp [tupOf, h1], by simp [tupOf, V.pure, V.has]⟩
 skip
 apply AW.sr
 refine AL.z ?_
 apply AL.nil
 try simp only [thenS, S.put, enum, List.nil_append, List.cons_append, List.append_nil, Nat.zero_add, Nat.reduceAdd]
 apply AW.sr
 iterate 3 refine AL.z ?_
 refine AL.zy ?_
 (refine AL.cally (post := ?pc1) rfl rfl (sm_call (args := [_, _, _]) ?hc1 ⟨Tryz.func67, rfl, rfl, rfl, rfl⟩ rfl rfl rfl rfl) ?_; (case hc1 => (exact am_In _ _ _)); rintro _ rfl -; try dsimp only)
 iterate 2 refine AL.z ?_
 apply AL.nil
 try simp only [nd, setL, V.cs, nz, Nat.reduceAdd, nm, ns]
 apply AW.ret
 refine ⟨[_], ⟨rfl, trivial⟩, ?_, by simp [tupOf, V.pure, V.has]⟩
 simp only [tupOf, V.b, V.d.injEq, D.p.injEq, Value.bool.injEq, decide_eq_decide]
 omega
theorem am_Fault (m : Mach) : Fn Tryz.prog 30 [mV m] (fun v => v = .i (machE m)) := by
 refine Fn.mach m 0 rfl fun hsl hal => ?_
 obtain ⟨st, sts⟩ := m
 simp only at hsl hal ⊢
 obtain ⟨len, hl⟩ : ∃ n, sts.length = n := ⟨_, rfl⟩
 rw [hl] at hsl
 refine Fn.intro (n := 77) ⟨Tryz.func30, rfl, rfl, rfl, rfl⟩ zT8 zT16 fun w0 out => ?_
 by_cases h60 : 60 < len
 ·skip
  apply AW.sr
  refine AL.sm rfl (sm_box 1 rfl rfl rfl rfl rfl) ?_
  refine AL.z ?_
  apply AL.nil
  try simp only [nd, setL, V.cs, nz, Nat.reduceAdd, nm, ns, enum]
  apply AW.sr
  iterate 4 refine AL.z ?_
  apply AL.nil
  try simp only [nd]
  apply AW.seq
  apply AW.sr
  iterate 3 refine AL.z ?_
  refine AL.no rfl rfl rfl rfl ?_
  refine AL.no rfl rfl rfl rfl ?_
  refine AL.no rfl rfl rfl rfl ?_
  refine AL.z ?_
  apply AL.nil
  try simp only [nd, setL, V.cs, nz, Nat.reduceAdd, nm, ns]
  refine AW.condT rfl ?_
  apply AW.sr
  refine AL.z ?_
  apply AL.nil
  try simp only [nd]
  apply AW.ret
  exact ⟨[_], ⟨rfl, trivial⟩, by rw [machE_size (.inl (by rw [hl]; exact h60))]; rfl, by simp [tupOf, V.pure, V.has]⟩
 by_cases h400 : 400 < arcN sts
 ·skip
  apply AW.sr
  refine AL.sm rfl (sm_box 1 rfl rfl rfl rfl rfl) ?_
  refine AL.z ?_
  apply AL.nil
  try simp only [nd, setL, V.cs, nz, Nat.reduceAdd, nm, ns, enum]
  apply AW.sr
  iterate 4 refine AL.z ?_
  apply AL.nil
  try simp only [nd]
  apply AW.seq
  apply AW.sr
  iterate 3 refine AL.z ?_
  refine AL.zy ?_
  (refine AL.cally (post := ?pc3) rfl rfl (sm_call (args := [_]) ?hc3 ⟨Tryz.func66, rfl, rfl, rfl, rfl⟩ rfl rfl rfl rfl) ?_; (case hc3 => (exact am_ArcCount ⟨st, sts⟩ (by simp only; omega))); rintro _ rfl -; try dsimp only)
  refine AL.zy ?_
  refine AL.z ?_
  apply AL.nil
  try simp only [nd, setL, V.cs, nz, Nat.reduceAdd, nm, ns]
  refine AW.condT rfl ?_
  apply AW.sr
  refine AL.z ?_
  apply AL.nil
  try simp only [nd]
  apply AW.ret
  exact ⟨[_], ⟨rfl, trivial⟩, by rw [machE_size (.inr h400)]; rfl, by simp [tupOf, V.pure, V.has]⟩
 by_cases hst : -1 ≤ st ∧ st ≤ (len : Int) - 1
 ·skip
  apply AW.sr
  refine AL.sm rfl (sm_box 1 rfl rfl rfl rfl rfl) ?_
  refine AL.z ?_
  apply AL.nil
  try simp only [nd, setL, V.cs, nz, Nat.reduceAdd, nm, ns, enum]
  apply AW.sr
  iterate 4 refine AL.z ?_
  apply AL.nil
  try simp only [nd]
  apply AW.seq
  apply AW.sr
  iterate 3 refine AL.z ?_
  refine AL.zy ?_
  (refine AL.cally (post := ?pc4) rfl rfl (sm_call (args := [_]) ?hc4 ⟨Tryz.func66, rfl, rfl, rfl, rfl⟩ rfl rfl rfl rfl) ?_; (case hc4 => (exact am_ArcCount ⟨st, sts⟩ (by simp only; omega))); rintro _ rfl -; try dsimp only)
  refine AL.zy ?_
  refine AL.z ?_
  apply AL.nil
  try simp only [nd, setL, V.cs, nz, Nat.reduceAdd, nm, ns]
  refine AW.condF rfl ?_
  apply AW.skip
  try simp only [thenS]
  apply AW.seq
  apply AW.sr
  iterate 4 refine AL.z ?_
  refine AL.call (post := ?pc5) rfl (sm_call (args := [_, _, _]) ?hc5 ⟨Tryz.func67, rfl, rfl, rfl, rfl⟩ rfl rfl rfl rfl) ?_
  case hc5 => first | (refine Fn.decT (am_In _ _ _) ?_; omega) | (refine Fn.decF (am_In _ _ _) ?_; omega) | exact am_In _ _ _
  rintro _ rfl -
  try dsimp only
  refine AL.z ?_
  apply AL.nil
  try simp only [nd, setL, V.cs, nz, Nat.reduceAdd, nm, ns]
  refine AW.condF rfl ?_
  apply AW.skip
  try simp only [thenS]
  apply AW.seq
  apply AW.sr
  refine AL.z ?_
  apply AL.nil
  try simp only [nd]
  apply AW.block
  refine AW.loop (fun s' => ∃ k : Nat, k ≤ len ∧ (sts.take k).all (stOk len) = true ∧ s' = ⟨77, [(1, .ref 1 0), (3, .i len), (4, .i k)], [(1, ⟨24, [.i st, .d (stsD sts)], false, 0⟩)], []⟩) (fun s' => len - s'.nat 4) ⟨_, ?_, 0, by omega, by simp, rfl⟩ ?_
  ·exact Less.a0
  rintro s' ⟨k, hk, hall, rfl⟩
  by_cases hlt : k < len
  ·obtain ⟨x, hx⟩ := get_lt hl hlt
   obtain ⟨la, hla⟩ : ∃ n, x.arcs.length = n := ⟨_, rfl⟩
   have hla' := hal x (List.mem_of_getElem? hx)
   by_cases hf : 0 ≤ x.fin ∧ x.fin ≤ 1000000001
   ·skip
    apply AW.seq
    apply AW.sr
    iterate 3 refine AL.z ?_
    apply AL.nil
    try simp only [nd]
    refine AW.condT rfl ?_
    apply AW.skip
    try simp only [thenS]
    apply AW.seq
    apply AW.block
    apply AW.seq
    apply AW.sr
    iterate 6 refine AL.z ?_
    refine AL.call (post := ?pc6) rfl (sm_call (args := [_]) ?hc6 ⟨Tryz.func68, rfl, rfl, rfl, rfl⟩ rfl rfl rfl rfl) ?_
    case hc6 => first | (refine Fn.decT (am_IsWeight _) ?_; omega) | (refine Fn.decF (am_IsWeight _) ?_; omega) | exact am_IsWeight _
    rintro _ rfl -
    try dsimp only
    refine AL.z ?_
    apply AL.nil
    try simp only [nd, setL, V.cs, nz, Nat.reduceAdd, nm, ns]
    refine AW.condF rfl ?_
    apply AW.skip
    try simp only [thenS]
    apply AW.sr
    iterate 7 refine AL.z ?_
    apply AL.nil
    try simp only [nd]
    apply AW.sr
    refine AL.z ?_
    apply AL.nil
    try simp only [nd]
    apply AW.block
    refine AW.loop (fun s' => ∃ j : Nat, j ≤ la ∧ (x.arcs.take j).all (arOk len) = true ∧ s' = ⟨77, [(1, .ref 1 0), (3, .i len), (4, .i k), (5, .d (arsD x.arcs)), (6, .i j)], [(1, ⟨24, [.i st, .d (stsD sts)], false, 0⟩)], []⟩) (fun s' => la - s'.nat 6) ⟨_, ?_, 0, by omega, by simp, rfl⟩ ?_
    ·exact Less.a0
    rintro s' ⟨j, hj, hall2, rfl⟩
    by_cases hlj : j < la
    ·obtain ⟨y, hy⟩ := get_lt hla hlj
     by_cases hok : (0 ≤ y.i ∧ y.i ≤ 1000) ∧ (0 ≤ y.o ∧ y.o ≤ 1000) ∧ (0 ≤ y.w ∧ y.w ≤ 1000000000) ∧ 0 ≤ y.t ∧ y.t ≤ (len : Int) - 1
     ·obtain ⟨h1, h2, h3, h4⟩ := hok
      apply AW.seq
      apply AW.sr
      iterate 4 refine AL.z ?_
      apply AL.nil
      try simp only [nd]
      refine AW.condT rfl ?_
      apply AW.skip
      try simp only [thenS]
      apply AW.seq
      apply AW.block
      apply AW.sr
      iterate 4 refine AL.z ?_
      refine AL.sm rfl (sm_alloc (l := [.d (.p (.int .i64 0)), .d (.p (.int .i64 0)), .d (.p (.int .i64 0)), .d (.p (.int .i64 0))]) 7 inf47 rfl rfl rfl rfl) ?_
      refine AL.y ?_
      apply AL.nil
      try simp only [nd, setL, V.cs, nz, Nat.reduceAdd, nm, ns]
      apply AW.sr
      iterate 2 refine AL.z ?_
      refine AL.call (post := ?pc7) rfl (sm_call (args := [_, _, _]) ?hc7 ⟨Tryz.func67, rfl, rfl, rfl, rfl⟩ rfl rfl rfl rfl) ?_
      case hc7 => first | (refine Fn.decT (am_In _ _ _) ?_; omega) | (refine Fn.decF (am_In _ _ _) ?_; omega) | exact am_In _ _ _
      rintro _ rfl -
      try dsimp only
      iterate 2 refine AL.z ?_
      iterate 2 refine AL.zy ?_
      (refine AL.cally (post := ?pc8) rfl rfl (sm_call (args := [_, _, _]) ?hc8 ⟨Tryz.func67, rfl, rfl, rfl, rfl⟩ rfl rfl rfl rfl) ?_; (case hc8 => (refine Fn.decT (am_In _ _ _) ?_; omega)); rintro _ rfl -; try dsimp only)
      refine AL.zy ?_
      iterate 2 refine AL.z ?_
      iterate 2 refine AL.zy ?_
      (refine AL.cally (post := ?pc9) rfl rfl (sm_call (args := [_, _, _]) ?hc9 ⟨Tryz.func67, rfl, rfl, rfl, rfl⟩ rfl rfl rfl rfl) ?_; (case hc9 => (refine Fn.decT (am_In _ _ _) ?_; omega)); rintro _ rfl -; try dsimp only)
      refine AL.zy ?_
      iterate 2 refine AL.z ?_
      iterate 4 refine AL.zy ?_
      (refine AL.cally (post := ?pc10) rfl rfl (sm_call (args := [_, _, _]) ?hc10 ⟨Tryz.func67, rfl, rfl, rfl, rfl⟩ rfl rfl rfl rfl) ?_; (case hc10 => (refine Fn.decT (am_In _ _ _) ?_; omega)); rintro _ rfl -; try dsimp only)
      refine AL.zy ?_
      refine AL.z ?_
      apply AL.nil
      try simp only [nd, setL, V.cs, nz, Nat.reduceAdd, nm, ns]
      refine AW.condF rfl ?_
      apply AW.skip
      try simp only [thenS]
      apply AW.region
      iterate 3 refine AL.z ?_
      apply AL.nil
      try simp only [nd]
      refine ⟨_, ?_, ⟨j + 1, by omega, all_snoc' hy hall2 (arOk_yes zT15), rfl⟩, ?_⟩
      ·exact Less.a0
      simp [S.nat, fnd]; omega
     have hE : machE ⟨st, sts⟩ = 2 := machE_state hl h60 h400 hx (stOk_arc hy (arOk_no zT15))
     rw [hE]
     by_cases h1 : 0 ≤ y.i ∧ y.i ≤ 1000
     ·by_cases h2 : 0 ≤ y.o ∧ y.o ≤ 1000
      ·by_cases h3 : 0 ≤ y.w ∧ y.w ≤ 1000000000
       ·have h4 : ¬ (0 ≤ y.t ∧ y.t ≤ (len : Int) - 1) := fun h4 => hok ⟨h1, h2, h3, h4⟩
        clear hok
        apply AW.seq
        apply AW.sr
        iterate 4 refine AL.z ?_
        apply AL.nil
        try simp only [nd]
        refine AW.condT rfl ?_
        apply AW.skip
        try simp only [thenS]
        apply AW.seq
        apply AW.block
        apply AW.sr
        iterate 4 refine AL.z ?_
        refine AL.sm rfl (sm_alloc (l := [.d (.p (.int .i64 0)), .d (.p (.int .i64 0)), .d (.p (.int .i64 0)), .d (.p (.int .i64 0))]) 7 inf47 rfl rfl rfl rfl) ?_
        refine AL.y ?_
        apply AL.nil
        try simp only [nd, setL, V.cs, nz, Nat.reduceAdd, nm, ns]
        apply AW.sr
        iterate 2 refine AL.z ?_
        refine AL.call (post := ?pc11) rfl (sm_call (args := [_, _, _]) ?hc11 ⟨Tryz.func67, rfl, rfl, rfl, rfl⟩ rfl rfl rfl rfl) ?_
        case hc11 => first | (refine Fn.decT (am_In _ _ _) ?_; omega) | (refine Fn.decF (am_In _ _ _) ?_; omega) | exact am_In _ _ _
        rintro _ rfl -
        try dsimp only
        iterate 2 refine AL.z ?_
        iterate 2 refine AL.zy ?_
        (refine AL.cally (post := ?pc12) rfl rfl (sm_call (args := [_, _, _]) ?hc12 ⟨Tryz.func67, rfl, rfl, rfl, rfl⟩ rfl rfl rfl rfl) ?_; (case hc12 => (refine Fn.decT (am_In _ _ _) ?_; omega)); rintro _ rfl -; try dsimp only)
        refine AL.zy ?_
        iterate 2 refine AL.z ?_
        iterate 2 refine AL.zy ?_
        (refine AL.cally (post := ?pc13) rfl rfl (sm_call (args := [_, _, _]) ?hc13 ⟨Tryz.func67, rfl, rfl, rfl, rfl⟩ rfl rfl rfl rfl) ?_; (case hc13 => (refine Fn.decT (am_In _ _ _) ?_; omega)); rintro _ rfl -; try dsimp only)
        refine AL.zy ?_
        iterate 2 refine AL.z ?_
        iterate 4 refine AL.zy ?_
        (refine AL.cally (post := ?pc14) rfl rfl (sm_call (args := [_, _, _]) ?hc14 ⟨Tryz.func67, rfl, rfl, rfl, rfl⟩ rfl rfl rfl rfl) ?_; (case hc14 => (refine Fn.decF (am_In _ _ _) ?_; omega)); rintro _ rfl -; try dsimp only)
        refine AL.zy ?_
        refine AL.z ?_
        apply AL.nil
        try simp only [nd, setL, V.cs, nz, Nat.reduceAdd, nm, ns]
        refine AW.condT rfl ?_
        apply AW.sr
        refine AL.z ?_
        apply AL.nil
        try simp only [nd]
        apply AW.ret
        exact ⟨[_], ⟨rfl, trivial⟩, rfl, by simp [tupOf, V.pure, V.has]⟩
       clear hok
       apply AW.seq
       apply AW.sr
       iterate 4 refine AL.z ?_
       apply AL.nil
       try simp only [nd]
       refine AW.condT rfl ?_
       apply AW.skip
       try simp only [thenS]
       apply AW.seq
       apply AW.block
       apply AW.sr
       iterate 4 refine AL.z ?_
       refine AL.sm rfl (sm_alloc (l := [.d (.p (.int .i64 0)), .d (.p (.int .i64 0)), .d (.p (.int .i64 0)), .d (.p (.int .i64 0))]) 7 inf47 rfl rfl rfl rfl) ?_
       refine AL.y ?_
       apply AL.nil
       try simp only [nd, setL, V.cs, nz, Nat.reduceAdd, nm, ns]
       apply AW.sr
       iterate 2 refine AL.z ?_
       refine AL.call (post := ?pc15) rfl (sm_call (args := [_, _, _]) ?hc15 ⟨Tryz.func67, rfl, rfl, rfl, rfl⟩ rfl rfl rfl rfl) ?_
       case hc15 => first | (refine Fn.decT (am_In _ _ _) ?_; omega) | (refine Fn.decF (am_In _ _ _) ?_; omega) | exact am_In _ _ _
       rintro _ rfl -
       try dsimp only
       iterate 2 refine AL.z ?_
       iterate 2 refine AL.zy ?_
       (refine AL.cally (post := ?pc16) rfl rfl (sm_call (args := [_, _, _]) ?hc16 ⟨Tryz.func67, rfl, rfl, rfl, rfl⟩ rfl rfl rfl rfl) ?_; (case hc16 => (refine Fn.decT (am_In _ _ _) ?_; omega)); rintro _ rfl -; try dsimp only)
       refine AL.zy ?_
       iterate 2 refine AL.z ?_
       iterate 2 refine AL.zy ?_
       (refine AL.cally (post := ?pc17) rfl rfl (sm_call (args := [_, _, _]) ?hc17 ⟨Tryz.func67, rfl, rfl, rfl, rfl⟩ rfl rfl rfl rfl) ?_; (case hc17 => (refine Fn.decF (am_In _ _ _) ?_; omega)); rintro _ rfl -; try dsimp only)
       refine AL.zy ?_
       iterate 2 refine AL.z ?_
       refine AL.no rfl rfl rfl rfl ?_
       refine AL.no rfl rfl rfl rfl ?_
       refine AL.no rfl rfl rfl rfl ?_
       refine AL.no rfl rfl rfl rfl ?_
       refine AL.no rfl rfl rfl rfl ?_
       refine AL.no rfl rfl rfl rfl ?_
       refine AL.z ?_
       apply AL.nil
       try simp only [nd, setL, V.cs, nz, Nat.reduceAdd, nm, ns]
       refine AW.condT rfl ?_
       apply AW.sr
       refine AL.z ?_
       apply AL.nil
       try simp only [nd]
       apply AW.ret
       exact ⟨[_], ⟨rfl, trivial⟩, rfl, by simp [tupOf, V.pure, V.has]⟩
      clear hok
      apply AW.seq
      apply AW.sr
      iterate 4 refine AL.z ?_
      apply AL.nil
      try simp only [nd]
      refine AW.condT rfl ?_
      apply AW.skip
      try simp only [thenS]
      apply AW.seq
      apply AW.block
      apply AW.sr
      iterate 4 refine AL.z ?_
      refine AL.sm rfl (sm_alloc (l := [.d (.p (.int .i64 0)), .d (.p (.int .i64 0)), .d (.p (.int .i64 0)), .d (.p (.int .i64 0))]) 7 inf47 rfl rfl rfl rfl) ?_
      refine AL.y ?_
      apply AL.nil
      try simp only [nd, setL, V.cs, nz, Nat.reduceAdd, nm, ns]
      apply AW.sr
      iterate 2 refine AL.z ?_
      refine AL.call (post := ?pc19) rfl (sm_call (args := [_, _, _]) ?hc19 ⟨Tryz.func67, rfl, rfl, rfl, rfl⟩ rfl rfl rfl rfl) ?_
      case hc19 => first | (refine Fn.decT (am_In _ _ _) ?_; omega) | (refine Fn.decF (am_In _ _ _) ?_; omega) | exact am_In _ _ _
      rintro _ rfl -
      try dsimp only
      iterate 2 refine AL.z ?_
      iterate 2 refine AL.zy ?_
      (refine AL.cally (post := ?pc20) rfl rfl (sm_call (args := [_, _, _]) ?hc20 ⟨Tryz.func67, rfl, rfl, rfl, rfl⟩ rfl rfl rfl rfl) ?_; (case hc20 => (refine Fn.decF (am_In _ _ _) ?_; omega)); rintro _ rfl -; try dsimp only)
      refine AL.zy ?_
      iterate 2 refine AL.z ?_
      refine AL.no rfl rfl rfl rfl ?_
      refine AL.no rfl rfl rfl rfl ?_
      refine AL.no rfl rfl rfl rfl ?_
      refine AL.no rfl rfl rfl rfl ?_
      iterate 2 refine AL.z ?_
      refine AL.no rfl rfl rfl rfl ?_
      refine AL.no rfl rfl rfl rfl ?_
      refine AL.no rfl rfl rfl rfl ?_
      refine AL.no rfl rfl rfl rfl ?_
      refine AL.no rfl rfl rfl rfl ?_
      refine AL.no rfl rfl rfl rfl ?_
      refine AL.z ?_
      apply AL.nil
      try simp only [nd, setL, V.cs, nz, Nat.reduceAdd, nm, ns]
      refine AW.condT rfl ?_
      apply AW.sr
      refine AL.z ?_
      apply AL.nil
      try simp only [nd]
      apply AW.ret
      exact ⟨[_], ⟨rfl, trivial⟩, rfl, by simp [tupOf, V.pure, V.has]⟩
     clear hok
     apply AW.seq
     apply AW.sr
     iterate 4 refine AL.z ?_
     apply AL.nil
     try simp only [nd]
     refine AW.condT rfl ?_
     apply AW.skip
     try simp only [thenS]
     apply AW.seq
     apply AW.block
     apply AW.sr
     iterate 4 refine AL.z ?_
     refine AL.sm rfl (sm_alloc (l := [.d (.p (.int .i64 0)), .d (.p (.int .i64 0)), .d (.p (.int .i64 0)), .d (.p (.int .i64 0))]) 7 inf47 rfl rfl rfl rfl) ?_
     refine AL.y ?_
     apply AL.nil
     try simp only [nd, setL, V.cs, nz, Nat.reduceAdd, nm, ns]
     apply AW.sr
     iterate 2 refine AL.z ?_
     refine AL.call (post := ?pc23) rfl (sm_call (args := [_, _, _]) ?hc23 ⟨Tryz.func67, rfl, rfl, rfl, rfl⟩ rfl rfl rfl rfl) ?_
     case hc23 => first | (refine Fn.decT (am_In _ _ _) ?_; omega) | (refine Fn.decF (am_In _ _ _) ?_; omega) | exact am_In _ _ _
     rintro _ rfl -
     try dsimp only
     iterate 2 refine AL.z ?_
     refine AL.no rfl rfl rfl rfl ?_
     refine AL.no rfl rfl rfl rfl ?_
     refine AL.no rfl rfl rfl rfl ?_
     refine AL.no rfl rfl rfl rfl ?_
     iterate 2 refine AL.z ?_
     refine AL.no rfl rfl rfl rfl ?_
     refine AL.no rfl rfl rfl rfl ?_
     refine AL.no rfl rfl rfl rfl ?_
     refine AL.no rfl rfl rfl rfl ?_
     iterate 2 refine AL.z ?_
     refine AL.no rfl rfl rfl rfl ?_
     refine AL.no rfl rfl rfl rfl ?_
     refine AL.no rfl rfl rfl rfl ?_
     refine AL.no rfl rfl rfl rfl ?_
     refine AL.no rfl rfl rfl rfl ?_
     refine AL.no rfl rfl rfl rfl ?_
     refine AL.z ?_
     apply AL.nil
     try simp only [nd, setL, V.cs, nz, Nat.reduceAdd, nm, ns]
     refine AW.condT rfl ?_
     apply AW.sr
     refine AL.z ?_
     apply AL.nil
     try simp only [nd]
     apply AW.ret
     exact ⟨[_], ⟨rfl, trivial⟩, rfl, by simp [tupOf, V.pure, V.has]⟩
    skip
    apply AW.seq
    apply AW.sr
    iterate 4 refine AL.z ?_
    apply AL.nil
    try simp only [nd]
    refine AW.condF rfl ?_
    refine AW.exit ?_
    try simp only [thenS, inBlockS, ↓reduceIte, Nat.reduceEqDiff]
    apply AW.region
    iterate 3 refine AL.z ?_
    apply AL.nil
    try simp only [nd]
    have hA : x.arcs.all (arOk len) = true := by rwa [List.take_of_length_le zT15] at hall2
    refine ⟨_, ?_, ⟨k + 1, by omega, all_snoc' hx hall (stOk_yes (by simp [finOk]; omega) hA), rfl⟩, ?_⟩
    ·exact Less.a0
    simp [S.nat, fnd]; omega
   have hE : machE ⟨st, sts⟩ = 2 := machE_state hl h60 h400 hx (stOk_fin (by simp [finOk]; omega))
   rw [hE]
   apply AW.seq
   apply AW.sr
   iterate 3 refine AL.z ?_
   apply AL.nil
   try simp only [nd]
   refine AW.condT rfl ?_
   apply AW.skip
   try simp only [thenS]
   apply AW.seq
   apply AW.block
   apply AW.seq
   apply AW.sr
   iterate 6 refine AL.z ?_
   refine AL.call (post := ?pc27) rfl (sm_call (args := [_]) ?hc27 ⟨Tryz.func68, rfl, rfl, rfl, rfl⟩ rfl rfl rfl rfl) ?_
   case hc27 => first | (refine Fn.decT (am_IsWeight _) ?_; omega) | (refine Fn.decF (am_IsWeight _) ?_; omega) | exact am_IsWeight _
   rintro _ rfl -
   try dsimp only
   refine AL.z ?_
   apply AL.nil
   try simp only [nd, setL, V.cs, nz, Nat.reduceAdd, nm, ns]
   refine AW.condT rfl ?_
   apply AW.sr
   refine AL.z ?_
   apply AL.nil
   try simp only [nd]
   apply AW.ret
   exact ⟨[_], ⟨rfl, trivial⟩, rfl, by simp [tupOf, V.pure, V.has]⟩
  skip
  apply AW.seq
  apply AW.sr
  iterate 3 refine AL.z ?_
  apply AL.nil
  try simp only [nd]
  refine AW.condF rfl ?_
  refine AW.exit ?_
  try simp only [thenS, inBlockS, ↓reduceIte, Nat.reduceEqDiff]
  apply AW.sr
  refine AL.z ?_
  apply AL.nil
  try simp only [nd]
  apply AW.ret
  exact ⟨[_], ⟨rfl, trivial⟩, by rw [machE_good hl h60 h400 zT15 hlt hall]; rfl, by simp [tupOf, V.pure, V.has]⟩
 skip
 apply AW.sr
 refine AL.sm rfl (sm_box 1 rfl rfl rfl rfl rfl) ?_
 refine AL.z ?_
 apply AL.nil
 try simp only [nd, setL, V.cs, nz, Nat.reduceAdd, nm, ns, enum]
 apply AW.sr
 iterate 4 refine AL.z ?_
 apply AL.nil
 try simp only [nd]
 apply AW.seq
 apply AW.sr
 iterate 3 refine AL.z ?_
 refine AL.zy ?_
 (refine AL.cally (post := ?pc28) rfl rfl (sm_call (args := [_]) ?hc28 ⟨Tryz.func66, rfl, rfl, rfl, rfl⟩ rfl rfl rfl rfl) ?_; (case hc28 => (exact am_ArcCount ⟨st, sts⟩ (by simp only; omega))); rintro _ rfl -; try dsimp only)
 refine AL.zy ?_
 refine AL.z ?_
 apply AL.nil
 try simp only [nd, setL, V.cs, nz, Nat.reduceAdd, nm, ns]
 refine AW.condF rfl ?_
 apply AW.skip
 try simp only [thenS]
 apply AW.seq
 apply AW.sr
 iterate 4 refine AL.z ?_
 refine AL.call (post := ?pc29) rfl (sm_call (args := [_, _, _]) ?hc29 ⟨Tryz.func67, rfl, rfl, rfl, rfl⟩ rfl rfl rfl rfl) ?_
 case hc29 => first | (refine Fn.decT (am_In _ _ _) ?_; omega) | (refine Fn.decF (am_In _ _ _) ?_; omega) | exact am_In _ _ _
 rintro _ rfl -
 try dsimp only
 refine AL.z ?_
 apply AL.nil
 try simp only [nd, setL, V.cs, nz, Nat.reduceAdd, nm, ns]
 refine AW.condT rfl ?_
 apply AW.sr
 refine AL.z ?_
 apply AL.nil
 try simp only [nd]
 apply AW.ret
 exact ⟨[_], ⟨rfl, trivial⟩, by rw [machE_start hl h60 h400 zT15]; rfl, by simp [tupOf, V.pure, V.has]⟩
theorem decFrom_snoc : ∀ (r : List UInt8) (acc : Nat) (d : UInt8), Lib.decFrom acc (r ++ [d]) = (Lib.decFrom acc r).bind fun m => (Lib.digitVal d).map fun v => m * 10 + v
  | [], acc, d => by
    simp only [List.nil_append, Lib.decFrom, Option.bind_some]
    cases Lib.digitVal d <;> rfl
  | b :: r, acc, d => by
    simp only [List.cons_append, Lib.decFrom]
    cases Lib.digitVal b with
    | none => rfl
    | some v => exact decFrom_snoc r _ d
theorem digits_big {n : Nat} (h : ¬ n < 10) : Lib.decDigits n = Lib.decDigits (n / 10) ++ [UInt8.ofNat (48 + n % 10)] := by rw [Lib.decDigits, dif_neg h]
theorem ofNat_toNat {v : Nat} (h : v < 10) : (UInt8.ofNat (48 + v)).toNat = 48 + v := by
  simp only [UInt8.toNat_ofNat']
  omega
theorem digit_of {v : Nat} (h : v < 10) : Lib.digitVal (UInt8.ofNat (48 + v)) = some v := by
  unfold Lib.digitVal
  rw [ofNat_toNat h, if_pos zT15]
  congr 1
  omega
/-- The digits of a number spell it, with no nought ahead. -/
theorem digits_spell (n : Nat) : Lib.decFrom 0 (Lib.decDigits n) = some n ∧ Lib.decDigits n ≠ [] ∧ (1 ≤ n → (Lib.decDigits n)[0]? ≠ some 48) ∧ (Lib.decDigits n)[0]? ≠ some 45 ∧ (Lib.decDigits n)[0]? ≠ some 43 := by
  induction n using Nat.strongRecOn with
  | _ n ih =>
    by_cases h : n < 10
    · rw [Lib.decDigits_one h]
      refine ⟨?_, by simp, fun h1 h2 => ?_, fun h2 => ?_, fun h2 => ?_⟩
      · simp only [Lib.decFrom, digit_of h]
        simp
      all_goals
        simp only [List.getElem?_cons_zero, Option.some.injEq] at h2
        have := congrArg UInt8.toNat h2
        rw [ofNat_toNat h] at this
        simp at this
        try omega
    obtain ⟨h1, h2, h3, h4, h5⟩ := ih (n / 10) zT15
    rw [digits_big h]
    have h0 : ∀ x : UInt8, (Lib.decDigits (n / 10))[0]? ≠ some x → (Lib.decDigits (n / 10) ++ [UInt8.ofNat (48 + n % 10)])[0]? ≠ some x := fun x hx => by
      rw [List.getElem?_append_left (List.length_pos_iff.2 h2)]
      exact hx
    refine ⟨?_, by simp, fun _ => h0 _ (h3 zT15), h0 _ h4, h0 _ h5⟩
    rw [decFrom_snoc, h1, digit_of zT15]
    simp only [Option.bind_some, Option.map_some, Option.some.injEq]
    omega
theorem digitVal_inv {d : UInt8} {v : Nat} (h : Lib.digitVal d = some v) : v < 10 ∧ d = UInt8.ofNat (48 + v) := by
  unfold Lib.digitVal at h
  split at h
  · rename_i hd
    simp only [Option.some.injEq] at h
    subst h
    refine ⟨by omega, UInt8.toNat_inj.1 ?_⟩
    rw [ofNat_toNat zT15]
    omega
  cases h
theorem digits_len : ∀ (k n : Nat), n < 10 ^ (k + 1) → (Lib.decDigits n).length ≤ k + 1
  | 0, n, h => by rw [Lib.decDigits_one (by simpa using h)]; simp
  | k + 1, n, h => by
    by_cases h10 : n < 10
    · rw [Lib.decDigits_one h10]; simp
    rw [digits_big h10, List.length_append]
    have := digits_len k (n / 10) (by rw [Nat.pow_succ] at h; omega)
    simp only [List.length_cons, List.length_nil]
    omega
theorem digits_byte {n : Nat} {b : UInt8} (h : b ∈ Lib.decDigits n) : 48 ≤ b.toNat ∧ b.toNat ≤ 57 := by
  obtain ⟨k, hk⟩ := List.getElem?_of_mem h
  obtain ⟨d, hd⟩ := Lib.digit_of_decFrom _ 0 n (digits_spell n).1 k b hk
  obtain ⟨h1, rfl⟩ := digitVal_inv hd
  rw [ofNat_toNat h1]
  omega
theorem cut_uniq {c : UInt8} : ∀ {p p' r r' : List UInt8}, c ∉ p → c ∉ p' → p ++ c :: r = p' ++ c :: r' → p = p' ∧ r = r'
  | [], [], r, r', _, _, h => by
    simp only [List.nil_append, List.cons.injEq, true_and] at h
    exact ⟨rfl, h⟩
  | [], b :: p', r, r', _, h2, h => by
    simp only [List.nil_append, List.cons_append, List.cons.injEq] at h
    exact absurd (by rw [h.1]; exact List.mem_cons_self) h2
  | b :: p, [], r, r', h1, _, h => by
    simp only [List.nil_append, List.cons_append, List.cons.injEq] at h
    exact absurd (by rw [← h.1]; exact List.mem_cons_self) h1
  | b :: p, b' :: p', r, r', h1, h2, h => by
    simp only [List.cons_append, List.cons.injEq] at h
    obtain ⟨h3, h4⟩ := cut_uniq (fun hm => h1 (List.mem_cons_of_mem _ hm)) (fun hm => h2 (List.mem_cons_of_mem _ hm)) h.2
    rw [h.1, h3]
    exact ⟨rfl, h4⟩
theorem dec_inj {m n : Nat} (h : Lib.decDigits m = Lib.decDigits n) : m = n := by
  have h1 := (digits_spell m).1
  rw [h, (digits_spell n).1] at h1
  exact (Option.some.inj h1).symm
/-- Do two states agree, their arcs' ends being taken for the same by E? -/
def agr (E : Nat → Nat → Prop) (x y : St) : Prop := x.fin = y.fin ∧ x.arcs.length = y.arcs.length ∧ ∀ (i : Nat) (a b : Ar), x.arcs[i]? = some a → y.arcs[i]? = some b → a.i = b.i ∧ a.o = b.o ∧ a.w = b.w ∧ E a.t.toNat b.t.toNat
theorem agr_mono {E E' : Nat → Nat → Prop} {x y : St} (h : agr E x y) (hE : ∀ q p, E q p → E' q p) : agr E' x y :=
  ⟨h.1, h.2.1, fun i a b ha hb => let ⟨h1, h2, h3, h4⟩ := h.2.2 i a b ha hb; ⟨h1, h2, h3, hE _ _ h4⟩⟩
def bis (sts : List St) (E : Nat → Nat → Prop) : Prop := ∀ q p, E q p → ∃ x y, sts[q]? = some x ∧ sts[p]? = some y ∧ agr E x y
/-- Two states that nothing tells from each other. -/
def sim (sts : List St) (q p : Nat) : Prop := ∃ E, bis sts E ∧ E q p
theorem sim_bis (sts : List St) : bis sts (sim sts) := fun q p ⟨E, hE, h⟩ => by
  obtain ⟨x, y, h1, h2, h3⟩ := hE q p h
  exact ⟨x, y, h1, h2, agr_mono h3 fun q p h => ⟨E, hE, h⟩⟩
/-- Arcs lead to states. -/
def tin (sts : List St) : Prop := ∀ x ∈ sts, ∀ a ∈ x.arcs, a.t.toNat < sts.length
theorem sim_refl {sts : List St} (ht : tin sts) {q : Nat} (hq : q < sts.length) : sim sts q q := by
  refine ⟨fun q p => q = p ∧ q < sts.length, fun q p ⟨e, h⟩ => ?_, rfl, hq⟩
  subst e
  refine ⟨_, _, List.getElem?_eq_getElem h, List.getElem?_eq_getElem h, rfl, rfl, fun i a b ha hb => ?_⟩
  rw [ha] at hb
  cases hb
  exact ⟨rfl, rfl, rfl, rfl, ht _ (List.getElem_mem h) a (List.mem_of_getElem? ha)⟩
theorem sim_symm {sts : List St} {q p : Nat} (h : sim sts q p) : sim sts p q := by
  obtain ⟨E, hE, h⟩ := h
  refine ⟨fun q p => E p q, fun q p h => ?_, h⟩
  obtain ⟨x, y, h1, h2, h3, h4, h5⟩ := hE p q h
  exact ⟨y, x, h2, h1, h3.symm, h4.symm, fun i a b ha hb => let ⟨e1, e2, e3, e4⟩ := h5 i b a hb ha; ⟨e1.symm, e2.symm, e3.symm, e4⟩⟩
theorem sim_trans {sts : List St} {q p r : Nat} (h : sim sts q p) (h' : sim sts p r) : sim sts q r := by
  refine ⟨fun q r => ∃ p, sim sts q p ∧ sim sts p r, fun q r ⟨p, h1, h2⟩ => ?_, p, h, h'⟩
  obtain ⟨x, y, e1, e2, a1, a2, a3⟩ := sim_bis sts q p h1
  obtain ⟨y', z, e3, e4, b1, b2, b3⟩ := sim_bis sts p r h2
  rw [e2] at e3
  cases e3
  refine ⟨x, z, e1, e4, a1.trans b1, a2.trans b2, fun i a b ha hb => ?_⟩
  have hlt : i < y.arcs.length := by rw [← a2]; exact (List.getElem?_eq_some_iff.1 ha).1
  obtain ⟨c1, c2, c3, c4⟩ := a3 i a _ ha (List.getElem?_eq_getElem hlt)
  obtain ⟨d1, d2, d3, d4⟩ := b3 i _ b (List.getElem?_eq_getElem hlt) hb
  exact ⟨c1.trans d1, c2.trans d2, c3.trans d3, _, c4, d4⟩
/-- The document's table: what is told is told rightly; nothing is left to be told. -/
theorem told_sim {sts : List St} {T : Nat → Nat → Prop} (h1 : ∀ q p, T q p → ¬ sim sts q p) (h2 : ∀ q p x y, sts[q]? = some x → sts[p]? = some y → ¬ T q p → agr (fun q p => q < sts.length ∧ p < sts.length ∧ ¬ T q p) x y) {q p : Nat} (hq : q < sts.length) (hp : p < sts.length) : ¬ T q p ↔ sim sts q p := by
  constructor
  · intro h
    refine ⟨fun q p => q < sts.length ∧ p < sts.length ∧ ¬ T q p, fun q p ⟨h3, h4, h5⟩ => ?_, hq, hp, h⟩
    exact ⟨_, _, List.getElem?_eq_getElem h3, List.getElem?_eq_getElem h4, h2 q p _ _ (List.getElem?_eq_getElem h3) (List.getElem?_eq_getElem h4) h5⟩
  intro h ht
  exact h1 q p ht h
/-- .. and stays so where one more pair is told that must be. -/
theorem told_step {sts : List St} {T : Nat → Nat → Prop} (h1 : ∀ q p, T q p → ¬ sim sts q p) {q p : Nat} {x y : St} (hx : sts[q]? = some x) (hy : sts[p]? = some y) (h : ¬ agr (fun q p => ¬ T q p) x y) : ¬ sim sts q p := fun hs => by
  obtain ⟨x', y', e1, e2, h3⟩ := sim_bis sts q p hs
  rw [hx] at e1
  rw [hy] at e2
  cases e1
  cases e2
  exact h (agr_mono h3 fun q p h4 ht => h1 q p ht h4)
/-- A numbering of keys: position by position, the key's place among those that are known. -/
structure Nmb {κ : Type} (known : List κ) (ks : List κ) (out : List Nat) : Prop where
  len : out.length = ks.length
  nd : known.Nodup
  at_ : ∀ (q : Nat) (k : κ) (j : Nat), ks[q]? = some k → out[q]? = some j → known[j]? = some k
  all : ∀ k ∈ known, k ∈ ks
theorem Nmb.step_old {κ : Type} {known ks : List κ} {out : List Nat} {k : κ} {j : Nat} (h : Nmb known ks out) (hj : known[j]? = some k) : Nmb known (ks ++ [k]) (out ++ [j]) := by
  refine ⟨by simp [h.len], h.nd, fun q k' j' h1 h2 => ?_, fun k' hk => List.mem_append_left _ (h.all k' hk)⟩
  rcases Nat.lt_trichotomy q ks.length with hlt | rfl | hgt
  · rw [List.getElem?_append_left hlt] at h1
    rw [List.getElem?_append_left (by rw [h.len]; exact hlt)] at h2
    exact h.at_ q k' j' h1 h2
  · rw [← h.len] at h2
    simp at h1 h2
    subst h1 h2
    exact hj
  rw [List.getElem?_eq_none zT11] at h1
  cases h1
theorem Nmb.step_new {κ : Type} {known ks : List κ} {out : List Nat} {k : κ} (h : Nmb known ks out) (hk : k ∉ known) : Nmb (known ++ [k]) (ks ++ [k]) (out ++ [known.length]) := by
  refine ⟨by simp [h.len], ?_, fun q k' j' h1 h2 => ?_, fun k' hk' => ?_⟩
  · rw [List.nodup_append]
    refine ⟨h.nd, by simp, fun a ha b hb => ?_⟩
    simp only [List.mem_singleton] at hb
    subst hb
    rintro rfl
    exact hk ha
  · rcases Nat.lt_trichotomy q ks.length with hlt | rfl | hgt
    · rw [List.getElem?_append_left hlt] at h1
      rw [List.getElem?_append_left (by rw [h.len]; exact hlt)] at h2
      have := h.at_ q k' j' h1 h2
      rw [List.getElem?_append_left (List.getElem?_eq_some_iff.1 this).1]
      exact this
    · rw [← h.len] at h2
      simp at h1 h2
      subst h1 h2
      simp
    rw [List.getElem?_eq_none zT11] at h1
    cases h1
  rcases List.mem_append.1 hk' with h3 | h3
  · exact List.mem_append_left _ (h.all k' h3)
  exact List.mem_append_right _ h3
theorem Nmb.iff {κ : Type} {known ks : List κ} {out : List Nat} (h : Nmb known ks out) {q p i j : Nat} {k k' : κ} (h1 : ks[q]? = some k) (h2 : ks[p]? = some k') (h3 : out[q]? = some i) (h4 : out[p]? = some j) : i = j ↔ k = k' := by
  have e1 := h.at_ q k i h1 h3
  have e2 := h.at_ p k' j h2 h4
  constructor
  · rintro rfl
    rw [e1] at e2
    exact Option.some.inj e2
  rintro rfl
  obtain ⟨l1, g1⟩ := List.getElem?_eq_some_iff.1 e1
  obtain ⟨l2, g2⟩ := List.getElem?_eq_some_iff.1 e2
  exact (List.getElem_inj h.nd).1 (g1.trans g2.symm)
theorem drop_mem {l : List Nat} {m : Nat} (h : m ∈ l) : ∃ l', l.length = l'.length + 1 ∧ l.Perm (m :: l') ∧ ∀ j, j ≠ m → j ∈ l → j ∈ l' := by
  obtain ⟨l1, l2, rfl⟩ := List.append_of_mem h
  refine ⟨l1 ++ l2, by simp; omega, List.perm_middle, fun j hj hm => ?_⟩
  rcases List.mem_append.1 hm with hm | hm
  · exact List.mem_append_left _ hm
  rcases List.mem_cons.1 hm with hm | hm
  · exact absurd hm hj
  exact List.mem_append_right _ hm
theorem cover_len : ∀ (m : Nat) (l : List Nat), (∀ j, j < m → j ∈ l) → m ≤ l.length
  | 0, _, _ => Nat.zero_le _
  | m + 1, l, h => by
    obtain ⟨l', h1, _, h3⟩ := drop_mem (h m (Nat.lt_succ_self m))
    have := cover_len m l' fun j hj => h3 j zT15 (h j zT15)
    omega
theorem cover_nodup : ∀ (m : Nat) (l : List Nat), l.length = m → (∀ j, j < m → j ∈ l) → l.Nodup
  | 0, l, h, _ => by rw [List.length_eq_zero_iff.1 h]; exact List.nodup_nil
  | m + 1, l, hl, h => by
    obtain ⟨l', h1, h2, h3⟩ := drop_mem (h m (Nat.lt_succ_self m))
    have hc : ∀ j, j < m → j ∈ l' := fun j hj => h3 j zT15 (h j zT15)
    have hn := cover_nodup m l' zT15 hc
    rw [h2.nodup_iff, List.nodup_cons]
    refine ⟨fun hm => ?_, hn⟩
    have := cover_len (m + 1) l' fun j hj => by
      by_cases e : j = m
      · rw [e]; exact hm
      exact hc j zT15
    omega
theorem map_inj {κ : Type} {g : κ → Nat} : ∀ {l : List κ}, (l.map g).Nodup → ∀ k ∈ l, ∀ k' ∈ l, g k = g k' → k = k'
  | x :: l, h, k, hk, k', hk', e => by
    rw [List.map_cons, List.nodup_cons] at h
    rcases List.mem_cons.1 hk with e1 | m1
    · rcases List.mem_cons.1 hk' with e2 | m2
      · rw [e1, e2]
      exact absurd (by rw [← e1, e]; exact List.mem_map_of_mem m2) h.1
    rcases List.mem_cons.1 hk' with e2 | m2
    · exact absurd (by rw [← e2, ← e]; exact List.mem_map_of_mem m1) h.1
    exact map_inj h.2 k m1 k' m2 e
theorem Nmb.known_of {κ : Type} {known ks : List κ} {out : List Nat} (h : Nmb known ks out) {q : Nat} {k : κ} (hq : ks[q]? = some k) : ∃ j, out[q]? = some j ∧ known[j]? = some k := by
  have hlt : q < out.length := by rw [h.len]; exact (List.getElem?_eq_some_iff.1 hq).1
  exact ⟨_, List.getElem?_eq_getElem hlt, h.at_ q k _ hq (List.getElem?_eq_getElem hlt)⟩
theorem Nmb.cover {κ : Type} {known ks : List κ} {out : List Nat} (h : Nmb known ks out) : ∀ j, j < known.length → j ∈ out := fun j hj => by
  obtain ⟨q, hq⟩ := List.getElem?_of_mem (h.all known[j] (List.getElem_mem hj))
  obtain ⟨i, h1, h2⟩ := h.known_of hq
  obtain ⟨l2, g2⟩ := List.getElem?_eq_some_iff.1 h2
  have : i = j := (List.getElem_inj h.nd).1 g2
  subst this
  exact List.mem_of_getElem? h1
/-- As many classes as before: the same classes. -/
theorem Nmb.same {κ : Type} {known ks : List κ} {out : List Nat} (h : Nmb known ks out) {c : List Nat} (g : κ → Nat) (hc : ∀ (q : Nat) (k : κ), ks[q]? = some k → c[q]? = some (g k)) (hcov : ∀ j, j < known.length → j ∈ c) (hl : c.length = ks.length) {q p i : Nat} (h1 : c[q]? = some i) (h2 : c[p]? = some i) : out[q]? = out[p]? := by
  have hn : (known.map g).Nodup := cover_nodup known.length _ zT16 fun j hj => by
    obtain ⟨r, hr⟩ := List.getElem?_of_mem (hcov j hj)
    have hlt : r < ks.length := by rw [← hl]; exact (List.getElem?_eq_some_iff.1 hr).1
    have hk := List.getElem?_eq_getElem hlt
    have e := hc r _ hk
    rw [hr] at e
    obtain ⟨i', _, hkn⟩ := h.known_of hk
    rw [Option.some.inj e]
    exact List.mem_map_of_mem (List.mem_of_getElem? hkn)
  have lq : q < ks.length := by rw [← hl]; exact (List.getElem?_eq_some_iff.1 h1).1
  have lp : p < ks.length := by rw [← hl]; exact (List.getElem?_eq_some_iff.1 h2).1
  have kq := List.getElem?_eq_getElem lq
  have kp := List.getElem?_eq_getElem lp
  obtain ⟨iq, o1, n1⟩ := h.known_of kq
  obtain ⟨ip, o2, n2⟩ := h.known_of kp
  have e1 := hc q _ kq
  have e2 := hc p _ kp
  rw [h1] at e1
  rw [h2] at e2
  have e : ks[q] = ks[p] := map_inj hn _ (List.mem_of_getElem? n1) _ (List.mem_of_getElem? n2) (Option.some.inj (e1.symm.trans e2))
  rw [o1, o2, (h.iff kq kp o1 o2).2 e]
/-- What a state is told by in a round: its class, what it costs to end, its arcs and their ends' classes. -/
def sgK (c : List Nat) (q : Nat) (x : St) : Nat × Int × List (Int × Int × Int × Nat) := (c[q]?.getD 0, x.fin, x.arcs.map fun a => (a.i, a.o, a.w, c[a.t.toNat]?.getD 0))
theorem sgK_iff {c : List Nat} {q p : Nat} {x y : St} : sgK c q x = sgK c p y ↔ c[q]?.getD 0 = c[p]?.getD 0 ∧ agr (fun a b => c[a]?.getD 0 = c[b]?.getD 0) x y := by
  unfold sgK agr
  simp only [Prod.mk.injEq]
  constructor
  · rintro ⟨h1, h2, h3⟩
    have hl := congrArg List.length h3
    simp only [List.length_map] at hl
    refine ⟨h1, h2, hl, fun i a b ha hb => ?_⟩
    have := congrArg (·[i]?) h3
    simp only [List.getElem?_map, ha, hb, Option.map_some, Option.some.injEq, Prod.mk.injEq] at this
    exact this
  rintro ⟨h1, h2, h3, h4⟩
  refine ⟨h1, h2, List.ext_getElem? fun i => ?_⟩
  simp only [List.getElem?_map]
  cases ha : x.arcs[i]? with
  | none =>
    rw [List.getElem?_eq_none (by rw [← h3]; exact List.getElem?_eq_none_iff.1 ha)]
  | some a =>
    have hlt : i < y.arcs.length := by rw [← h3]; exact (List.getElem?_eq_some_iff.1 ha).1
    have hb := List.getElem?_eq_getElem hlt
    obtain ⟨e1, e2, e3, e4⟩ := h4 i a _ ha hb
    rw [hb]
    simp only [Option.map_some, Option.some.injEq, Prod.mk.injEq]
    exact ⟨e1, e2, e3, e4⟩
/-- What is kept from round to round: states that nothing tells apart are of one class. -/
def clI (sts : List St) (c : List Nat) : Prop := c.length = sts.length ∧ ∀ q p, sim sts q p → c[q]?.getD 0 = c[p]?.getD 0
theorem clI_step {sts : List St} {c : List Nat} (h : clI sts c) {known : List (Nat × Int × List (Int × Int × Int × Nat))} {ks : List (Nat × Int × List (Int × Int × Int × Nat))} {out : List Nat} (hn : Nmb known ks out) (hks : ∀ (q : Nat) (x : St), sts[q]? = some x → ks[q]? = some (sgK c q x)) (hl : ks.length = sts.length) : clI sts out := by
  refine ⟨hn.len.trans hl, fun q p hs => ?_⟩
  obtain ⟨x, y, h1, h2, h3⟩ := sim_bis sts q p hs
  have k1 := hks q x h1
  have k2 := hks p y h2
  obtain ⟨i, o1, _⟩ := hn.known_of k1
  obtain ⟨j, o2, _⟩ := hn.known_of k2
  have e : sgK c q x = sgK c p y := sgK_iff.2 ⟨h.2 q p hs, agr_mono h3 fun a b hab => h.2 a b hab⟩
  rw [o1, o2, (hn.iff k1 k2 o1 o2).2 e]
/-- When a round makes no more classes, classes are what nothing tells apart. -/
theorem clI_done {sts : List St} (ht : tin sts) {c : List Nat} (h : clI sts c) {known : List (Nat × Int × List (Int × Int × Int × Nat))} {ks : List (Nat × Int × List (Int × Int × Int × Nat))} {out : List Nat} (hn : Nmb known ks out) (hks : ∀ (q : Nat) (x : St), sts[q]? = some x → ks[q]? = some (sgK c q x)) (hl : ks.length = sts.length) (hcov : ∀ j, j < known.length → j ∈ c) {q p : Nat} (hq : q < sts.length) (hp : p < sts.length) : out[q]?.getD 0 = out[p]?.getD 0 ↔ sim sts q p := by
  have hc : ∀ (q : Nat) (k : Nat × Int × List (Int × Int × Int × Nat)), ks[q]? = some k → c[q]? = some k.1 := fun q k hk => by
    have hlt : q < sts.length := by rw [← hl]; exact (List.getElem?_eq_some_iff.1 hk).1
    have := hks q _ (List.getElem?_eq_getElem hlt)
    rw [hk] at this
    rw [Option.some.inj this]
    have hlc : q < c.length := by rw [h.1]; exact hlt
    rw [List.getElem?_eq_getElem hlc]
    simp [sgK, List.getElem?_eq_getElem hlc]
  have hout : ∀ (q p : Nat) (x y : St), sts[q]? = some x → sts[p]? = some y → (out[q]?.getD 0 = out[p]?.getD 0 ↔ sgK c q x = sgK c p y) := fun q p x y hx hy => by
    obtain ⟨i, o1, _⟩ := hn.known_of (hks q x hx)
    obtain ⟨j, o2, _⟩ := hn.known_of (hks p y hy)
    rw [o1, o2]
    exact hn.iff (hks q x hx) (hks p y hy) o1 o2
  have hsame : ∀ q p, q < sts.length → p < sts.length → c[q]?.getD 0 = c[p]?.getD 0 → out[q]?.getD 0 = out[p]?.getD 0 := fun q p hq hp e => by
    have h1 : c[q]? = some (c[p]?.getD 0) := by rw [← e, List.getElem?_eq_getElem (by rw [h.1]; exact hq)]; rfl
    have h2 : c[p]? = some (c[p]?.getD 0) := by rw [List.getElem?_eq_getElem (by rw [h.1]; exact hp)]; rfl
    rw [hn.same (fun k => k.1) hc hcov (h.1.trans hl.symm) h1 h2]
  constructor
  · intro e
    refine ⟨fun q p => q < sts.length ∧ p < sts.length ∧ c[q]?.getD 0 = c[p]?.getD 0, fun q p ⟨hq, hp, e⟩ => ?_, hq, hp, ?_⟩
    · have hx := List.getElem?_eq_getElem hq
      have hy := List.getElem?_eq_getElem hp
      obtain ⟨_, a1, a2, a3⟩ := sgK_iff.1 ((hout q p _ _ hx hy).1 (hsame q p hq hp e))
      refine ⟨_, _, hx, hy, a1, a2, fun i a b ha hb => ?_⟩
      obtain ⟨b1, b2, b3, b4⟩ := a3 i a b ha hb
      exact ⟨b1, b2, b3, ht _ (List.getElem_mem hq) a (List.mem_of_getElem? ha), ht _ (List.getElem_mem hp) b (List.mem_of_getElem? hb), b4⟩
    exact (sgK_iff.1 ((hout q p _ _ (List.getElem?_eq_getElem hq) (List.getElem?_eq_getElem hp)).1 e)).1
  intro hs
  exact (clI_step h hn hks hl).2 q p hs
/-- A state's class. -/
def clG (cl : List Nat) (q : Nat) : Nat := cl[q]?.getD 0
/-- Where among the states that have been taken one of t's class stands; behind them, if none does. -/
def fndC (cl : List Nat) (l : List Nat) (t : Nat) : Nat := l.findIdx fun q => decide (clG cl q = clG cl t)
def dstC (cl : List Nat) (l : List Nat) : Prop := ∀ (i j q p : Nat), i < j → l[i]? = some q → l[j]? = some p → clG cl q ≠ clG cl p
theorem fndC_some {cl l : List Nat} {t j q : Nat} (hd : dstC cl l) (hj : l[j]? = some q) (hq : clG cl q = clG cl t) : fndC cl l t = j := by
  obtain ⟨hlt, hg⟩ := List.getElem?_eq_some_iff.1 hj
  unfold fndC
  rw [List.findIdx_eq hlt]
  refine ⟨by rw [hg]; exact decide_eq_true hq, fun i hi => ?_⟩
  have hi' : i < l.length := Nat.lt_trans hi hlt
  exact decide_eq_false fun h => hd i j _ _ hi (List.getElem?_eq_getElem hi') hj (h.trans hq.symm)
theorem fndC_none {cl l : List Nat} {t : Nat} (h : ∀ q ∈ l, clG cl q ≠ clG cl t) : fndC cl l t = l.length := by
  unfold fndC
  rw [List.findIdx_eq_length]
  exact fun q hq => decide_eq_false (h q hq)
theorem fndC_new {cl l : List Nat} {t : Nat} (h : fndC cl l t = l.length) : ∀ q ∈ l, clG cl q ≠ clG cl t := by
  unfold fndC at h
  rw [List.findIdx_eq_length] at h
  exact fun q hq => of_decide_eq_false (h q hq)
theorem dst_snoc {cl l : List Nat} {t : Nat} (hd : dstC cl l) (h : fndC cl l t = l.length) : dstC cl (l ++ [t]) := by
  intro i j q p hij hi hj
  rcases Nat.lt_trichotomy j l.length with hlt | rfl | hgt
  · rw [List.getElem?_append_left hlt] at hj
    rw [List.getElem?_append_left zT15] at hi
    exact hd i j q p hij hi hj
  · rw [List.getElem?_append_left hij] at hi
    simp at hj
    subst hj
    exact fndC_new h q (List.mem_of_getElem? hi)
  rw [List.getElem?_eq_none zT11] at hj
  cases hj
/-- An arc of the least machine. -/
def arcC (cl l : List Nat) (a : Ar) : Ar := ⟨a.i, a.o, a.w, fndC cl l a.t.toNat⟩
/-- The states that have been taken, once an arc has been looked at. -/
def takC (cl l : List Nat) (a : Ar) : List Nat := if fndC cl l a.t.toNat = l.length then l ++ [a.t.toNat] else l
/-- A state's arcs, one by one: what has been taken, the arcs made. -/
def arcsC (cl : List Nat) : List Nat → List Ar → List Ar → List Nat × List Ar
  | l, [], o => (l, o)
  | l, a :: r, o => arcsC cl (takC cl l a) r (o ++ [arcC cl l a])
/-- All states that are taken, one by one. -/
def bldC (sts : List St) (cl : List Nat) : Nat → List Nat → List St → List St
  | 0, _, out => out
  | n + 1, l, out => match l[out.length]? with
    | none => out
    | some q => bldC sts cl n (arcsC cl l (sts[q]?.getD ⟨0, []⟩).arcs []).1 (out ++ [⟨(sts[q]?.getD ⟨0, []⟩).fin, (arcsC cl l (sts[q]?.getD ⟨0, []⟩).arcs []).2⟩])
/-- What number[c] holds while the least machine is built: the place of class c in the list; -1 if it is not there. -/
def numI (cl l : List Nat) (num : List Int) : Prop := (∀ (c : Nat) (v : Int), num[c]? = some v → (v < 0 ↔ ∀ q ∈ l, clG cl q ≠ c)) ∧ ∀ (c : Nat) (v : Int), num[c]? = some v → 0 ≤ v → ∃ q, l[v.toNat]? = some q ∧ clG cl q = c
theorem numI_old {cl l : List Nat} {num : List Int} {t : Nat} {v : Int} (h : numI cl l num) (hd : dstC cl l) (hv : num[clG cl t]? = some v) (h0 : ¬ v < 0) : fndC cl l t = v.toNat ∧ v.toNat < l.length := by
  obtain ⟨q, h1, h2⟩ := h.2 _ v hv zT15
  exact ⟨fndC_some hd h1 h2, (List.getElem?_eq_some_iff.1 h1).1⟩
theorem numI_new {cl l : List Nat} {num : List Int} {t : Nat} {v : Int} (h : numI cl l num) (hv : num[clG cl t]? = some v) (h0 : v < 0) : fndC cl l t = l.length := fndC_none ((h.1 _ v hv).1 h0)
theorem numI_put {cl l : List Nat} {num : List Int} {t : Nat} (h : numI cl l num) (hn : fndC cl l t = l.length) : numI cl (l ++ [t]) (num.set (clG cl t) l.length) := by
  refine ⟨fun c v hv => ?_, fun c v hv h0 => ?_⟩
  · by_cases e : clG cl t = c
    · subst e
      have hlt : clG cl t < num.length := by have := (List.getElem?_eq_some_iff.1 hv).1; simpa using this
      rw [List.getElem?_set_self hlt, Option.some.injEq] at hv
      constructor
      · intro h1; omega
      intro h1
      exact absurd rfl (h1 t zT16)
    rw [List.getElem?_set_ne e] at hv
    rw [h.1 c v hv]
    constructor
    · intro h1 q hq
      rcases List.mem_append.1 hq with hq | hq
      · exact h1 q hq
      simp only [List.mem_singleton] at hq
      subst hq
      exact e
    intro h1 q hq
    exact h1 q (List.mem_append_left _ hq)
  by_cases e : clG cl t = c
  · subst e
    have hlt : clG cl t < num.length := by have := (List.getElem?_eq_some_iff.1 hv).1; simpa using this
    rw [List.getElem?_set_self hlt, Option.some.injEq] at hv
    refine ⟨t, ?_, rfl⟩
    have hvv : v.toNat = l.length := by omega
    rw [hvv]
    simp
  rw [List.getElem?_set_ne e] at hv
  obtain ⟨q, h1, h2⟩ := h.2 c v hv h0
  have hlt := (List.getElem?_eq_some_iff.1 h1).1
  exact ⟨q, by rw [List.getElem?_append_left hlt]; exact h1, h2⟩
theorem Nmb.le {κ : Type} {known ks : List κ} {out : List Nat} (h : Nmb known ks out) : known.length ≤ ks.length := by
  rw [← h.len]
  exact cover_len _ _ h.cover
theorem Nmb.lt {κ : Type} {known ks : List κ} {out : List Nat} (h : Nmb known ks out) {q j : Nat} (hj : out[q]? = some j) : j < known.length := by
  have hlt : q < ks.length := by rw [← h.len]; exact (List.getElem?_eq_some_iff.1 hj).1
  exact (List.getElem?_eq_some_iff.1 (h.at_ q _ j (List.getElem?_eq_getElem hlt) hj)).1
/-- A round never makes fewer classes. -/
theorem Nmb.ge {κ : Type} {known ks : List κ} {out : List Nat} (h : Nmb known ks out) {c : List Nat} {m : Nat} (g : κ → Nat) (hc : ∀ (q : Nat) (k : κ), ks[q]? = some k → c[q]? = some (g k)) (hcov : ∀ j, j < m → j ∈ c) (hl : c.length = ks.length) : m ≤ known.length := by
  have := cover_len m (known.map g) fun j hj => by
    obtain ⟨r, hr⟩ := List.getElem?_of_mem (hcov j hj)
    have hlt : r < ks.length := by rw [← hl]; exact (List.getElem?_eq_some_iff.1 hr).1
    have hk := List.getElem?_eq_getElem hlt
    have e := hc r _ hk
    rw [hr] at e
    obtain ⟨i', _, hkn⟩ := h.known_of hk
    rw [Option.some.inj e]
    exact List.mem_map_of_mem (List.mem_of_getElem? hkn)
  rw [List.length_map] at this
  exact this
theorem nodup_bound : ∀ (m : Nat) (l : List Nat), l.Nodup → (∀ x ∈ l, x < m) → l.length ≤ m
  | 0, l, _, h => by
    cases l with
    | nil => exact Nat.le_refl 0
    | cons x l => exact absurd (h x List.mem_cons_self) (Nat.not_lt_zero x)
  | m + 1, l, hn, h => by
    by_cases hm : m ∈ l
    · obtain ⟨l', h1, h2, _⟩ := drop_mem hm
      have hn' := h2.nodup_iff.1 hn
      rw [List.nodup_cons] at hn'
      have := nodup_bound m l' hn'.2 fun x hx => by
        have h4 := h x (h2.mem_iff.2 (List.mem_cons_of_mem _ hx))
        have h5 : x ≠ m := fun e => hn'.1 (by rw [← e]; exact hx)
        omega
      omega
    have := nodup_bound m l hn fun x hx => by
      have h4 := h x hx
      have h5 : x ≠ m := fun e => hm (by rw [← e]; exact hx)
      omega
    omega
theorem dst_nodup {cl : List Nat} : ∀ {l : List Nat}, dstC cl l → (l.map (clG cl)).Nodup
  | [], _ => List.nodup_nil
  | x :: l, h => by
    rw [List.map_cons, List.nodup_cons]
    refine ⟨fun hm => ?_, dst_nodup fun i j q p hij hi hj => h (i + 1) (j + 1) q p zT15 (by simpa using hi) (by simpa using hj)⟩
    obtain ⟨y, hy, e⟩ := List.mem_map.1 hm
    obtain ⟨i, hi⟩ := List.getElem?_of_mem hy
    exact h 0 (i + 1) x y zT15 rfl (by simpa using hi) e.symm
/-- No more states are taken than there are classes. -/
theorem dst_len {cl l : List Nat} {m : Nat} (h : dstC cl l) (hm : ∀ q ∈ l, clG cl q < m) : l.length ≤ m := by
  have := nodup_bound m (l.map (clG cl)) (dst_nodup h) fun x hx => by
    obtain ⟨q, hq, rfl⟩ := List.mem_map.1 hx
    exact hm q hq
  rw [List.length_map] at this
  exact this
/-- Are two states told apart at once, by what T tells? -/
def apP (T : Nat → Nat → Prop) (x y : St) : Prop := ¬ agr (fun q p => ¬ T q p) x y
def telI (sts : List St) (T : Nat → Nat → Prop) : Prop := ∀ q p, T q p → ¬ sim sts q p
theorem telI_put {sts : List St} {T : Nat → Nat → Prop} (h : telI sts T) {q p : Nat} {x y : St} (hx : sts[q]? = some x) (hy : sts[p]? = some y) (ha : apP T x y) : telI sts fun a b => T a b ∨ (a = q ∧ b = p) := fun a b hab => by
  rcases hab with hab | ⟨rfl, rfl⟩
  · exact h a b hab
  exact told_step h hx hy ha
/-- When a whole pass tells nothing more, the table tells just what can be told. -/
theorem telI_done {sts : List St} (ht : tin sts) {T : Nat → Nat → Prop} (h : telI sts T) (hd : ∀ (q p : Nat) (x y : St), sts[q]? = some x → sts[p]? = some y → ¬ T q p → ¬ apP T x y) {q p : Nat} (hq : q < sts.length) (hp : p < sts.length) : ¬ T q p ↔ sim sts q p := by
  refine told_sim h (fun q p x y hx hy hT => ?_) hq hp
  have ha : agr (fun q p => ¬ T q p) x y := Classical.not_not.1 (hd q p x y hx hy hT)
  exact ⟨ha.1, ha.2.1, fun i a b h1 h2 => by
    obtain ⟨e1, e2, e3, e4⟩ := ha.2.2 i a b h1 h2
    exact ⟨e1, e2, e3, ht x (List.mem_of_getElem? hx) a (List.mem_of_getElem? h1), ht y (List.mem_of_getElem? hy) b (List.mem_of_getElem? h2), e4⟩⟩
/-- Numbers, each with a blank. -/
def wdB : List Nat → List UInt8
  | [] => []
  | n :: l => Lib.decDigits n ++ 32 :: wdB l
theorem dg_free (n : Nat) (c : UInt8) (hc : c.toNat < 48 ∨ 57 < c.toNat) : c ∉ Lib.decDigits n := fun hm => by
  have := digits_byte hm
  omega
theorem wdB_inj : ∀ {l l' : List Nat}, wdB l = wdB l' → l = l'
  | [], [], _ => rfl
  | [], x :: l', h => by
    have := congrArg List.length h
    simp [wdB] at this
  | x :: l, [], h => by
    have := congrArg List.length h
    simp [wdB] at this
  | x :: l, y :: l', h => by
    obtain ⟨h1, h2⟩ := cut_uniq (dg_free _ _ (.inl zT14)) (dg_free _ _ (.inl zT14)) h
    rw [dec_inj h1, wdB_inj h2]
theorem wdB_app : ∀ (l l' : List Nat), wdB (l ++ l') = wdB l ++ wdB l'
  | [], _ => rfl
  | x :: l, l' => by simp [wdB, wdB_app l l']
def arB (c : List Nat) (a : Ar) : List Nat := [a.i.toNat, a.o.toNat, a.w.toNat, clG c a.t.toNat]
/-- The words of a state's sign; its key. -/
def sgN (c : List Nat) (x : St) : List Nat := x.fin.toNat :: x.arcs.flatMap (arB c)
def sgB (c : List Nat) (q : Nat) (x : St) : List UInt8 := Lib.decDigits (clG c q) ++ 124 :: wdB (sgN c x)
/-- Nothing in it is below nought. -/
def pos0 (x : St) : Prop := 0 ≤ x.fin ∧ ∀ a ∈ x.arcs, 0 ≤ a.i ∧ 0 ≤ a.o ∧ 0 ≤ a.w
theorem four_inj (c : List Nat) : ∀ {l l' : List Ar}, (∀ a ∈ l, 0 ≤ a.i ∧ 0 ≤ a.o ∧ 0 ≤ a.w) → (∀ a ∈ l', 0 ≤ a.i ∧ 0 ≤ a.o ∧ 0 ≤ a.w) → l.flatMap (arB c) = l'.flatMap (arB c) → (l.map fun a => (a.i, a.o, a.w, clG c a.t.toNat)) = l'.map fun a => (a.i, a.o, a.w, clG c a.t.toNat)
  | [], [], _, _, _ => rfl
  | [], b :: l', _, _, h => by
    have := congrArg List.length h
    simp [arB] at this
  | a :: l, [], _, _, h => by
    have := congrArg List.length h
    simp [arB] at this
  | a :: l, b :: l', h1, h2, h => by
    rw [List.flatMap_cons, List.flatMap_cons] at h
    simp only [arB, List.cons_append, List.nil_append, List.cons.injEq] at h
    obtain ⟨e1, e2, e3, e4, e5⟩ := h
    obtain ⟨a1, a2, a3⟩ := h1 a List.mem_cons_self
    obtain ⟨b1, b2, b3⟩ := h2 b List.mem_cons_self
    have ih := four_inj c (fun x hx => h1 x (List.mem_cons_of_mem _ hx)) (fun x hx => h2 x (List.mem_cons_of_mem _ hx)) e5
    rw [List.map_cons, List.map_cons, ih, show a.i = b.i by omega, show a.o = b.o by omega, show a.w = b.w by omega, e4]
theorem sgB_iff {c : List Nat} {q p : Nat} {x y : St} (hx : pos0 x) (hy : pos0 y) : sgB c q x = sgB c p y ↔ sgK c q x = sgK c p y := by
  constructor
  · intro h
    obtain ⟨h1, h2⟩ := cut_uniq (dg_free _ _ (.inr zT14)) (dg_free _ _ (.inr zT14)) h
    have h3 := wdB_inj h2
    unfold sgN at h3
    rw [List.cons.injEq] at h3
    have hf : x.fin = y.fin := by have := hx.1; have := hy.1; omega
    have ha := four_inj c hx.2 hy.2 h3.2
    have hc := dec_inj h1
    unfold sgK
    rw [Prod.mk.injEq, Prod.mk.injEq]
    exact ⟨hc, hf, ha⟩
  intro h
  unfold sgK at h
  rw [Prod.mk.injEq, Prod.mk.injEq] at h
  obtain ⟨h1, h2, h3⟩ := h
  have e : ∀ l : List Ar, l.flatMap (arB c) = (l.map fun a => (a.i, a.o, a.w, clG c a.t.toNat)).flatMap fun k => [k.1.toNat, k.2.1.toNat, k.2.2.1.toNat, k.2.2.2] := fun l => by
    rw [List.flatMap_map]
    rfl
  unfold sgB sgN
  rw [show clG c q = clG c p from h1, h2, e, e]
  have h4 : (x.arcs.map fun a => (a.i, a.o, a.w, clG c a.t.toNat)) = y.arcs.map fun a => (a.i, a.o, a.w, clG c a.t.toNat) := h3
  rw [h4]
end Go.Proofs.YthiknkcigcglkaaGreatDoor
