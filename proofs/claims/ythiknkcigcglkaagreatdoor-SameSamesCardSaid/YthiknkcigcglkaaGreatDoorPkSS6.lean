/- Part 6 of what the law SameSames rests on. -/
import Derived.Lib.AtoiTie
import Derived.Lib.ItoaNum
import Derived.Lib.Atoi
import Derived.Test.YthiknkcigcglkaaGreatDoorPkSS5
namespace Go.Proofs.YthiknkcigcglkaaGreatDoor
open Go.RowKit
open Bool (and_eq_true false_eq_true)
open List (all_cons cons_append drop_eq_getElem_cons ext_getElem? filter_cons flatMap_cons getD_eq_getElem?_getD length_append length_cons length_map length_nil length_take map_cons map_set mem_cons_of_mem mem_cons_self mem_of_getElem? mem_singleton nil_append set_cons_succ set_cons_zero take_of_length_le)
open Nat (le_refl le_trans lt_of_lt_of_le succ_mul zero_add)
open Option (map_none map_some)
set_option linter.unusedSimpArgs false
set_option linter.unusedVariables false
set_option maxRecDepth 100000
set_option maxHeartbeats 8000000
variable {i j k m p q r t : Nat} {e n' st : Int} {sts : List St} {v : Value} {P : Program} {args vs : List V} {post post' : V → Prop} {cl l out todo : List Nat} {E E' T : Nat → Nat → Prop} {known ks : List (Nat × Int × List (Int × Int × Int × Nat))} {num : List Int}
def xl (n : Int) (a : Ar) : Bool := decide ((0 ≤ a.i ∧ a.i ≤ 1000) ∧ (0 ≤ a.o ∧ a.o ≤ 1000) ∧ (0 ≤ a.w ∧ a.w ≤ 1000000000) ∧ 0 ≤ a.t ∧ a.t < n)
theorem qf3 {n : Int} {a : Ar} (h : (0 ≤ a.i ∧ a.i ≤ 1000) ∧ (0 ≤ a.o ∧ a.o ≤ 1000) ∧ (0 ≤ a.w ∧ a.w ≤ 1000000000) ∧ 0 ≤ a.t ∧ a.t < n) : xl n a = true := by simp only [xl, h, decide_true, and_self]
theorem j36 {n : Int} {a : Ar} (h : ¬ ((0 ≤ a.i ∧ a.i ≤ 1000) ∧ (0 ≤ a.o ∧ a.o ≤ 1000) ∧ (0 ≤ a.w ∧ a.w ≤ 1000000000) ∧ 0 ≤ a.t ∧ a.t < n)) : xl n a = false := by simp only [xl, h, decide_false]
def vy (x : Int) : Bool := decide (0 ≤ x ∧ x ≤ 1000000001)
def uK (n : Int) (s : St) : Bool := vy s.fin && s.arcs.all (xl n)
def xp (l : List St) : Nat := (l.map fun s => s.arcs.length).sum
def q50 (m : zr) : Prop := -1 ≤ m.start ∧ m.start < m.states.length
instance (m : zr) : Decidable (q50 m) := inferInstanceAs (Decidable (_ ∧ _))
def zn (m : zr) : Int := if 60 < m.states.length ∨ 400 < xp m.states then 1 else if q50 m ∧ m.states.all (uK m.states.length) = true then 0 else 2
theorem q81 (l : List St) (s : St) : xp (l ++ [s]) = xp l + s.arcs.length := by simp [xp]
theorem q16 {α : Type} {xs : List α} {x : α} {p : α → Bool} (hx : xs[k]? = some x) (h : (xs.take k).all p = true) (hp : p x = true) : (xs.take (k + 1)).all p = true := by
  rw [x5 hx, List.all_append, h]; simp [hp]
theorem qc4 {α : Type} {xs : List α} {x : α} {p : α → Bool} (hx : xs[k]? = some x) (hp : p x = false) : xs.all p = false := by grind
theorem jr1 {n : Int} {s : St} {a : Ar} (h : s.arcs[k]? = some a) (ha : xl n a = false) : uK n s = false := by
  simp only [uK, qc4 h ha, Bool.and_false]
theorem qQ0 {n : Int} {s : St} (h : vy s.fin = false) : uK n s = false := by simp only [uK, h, Bool.false_and]
theorem qH1 {n : Int} {s : St} (h : s.arcs.all (xl n) = false) : uK n s = false := by simp only [uK, h, Bool.and_false]
theorem qf4 {n : Int} {s : St} (h : vy s.fin = true) (g : s.arcs.all (xl n) = true) : uK n s = true := by simp only [uK, h, g, Bool.and_self]
theorem q44 (h : 60 < sts.length ∨ 400 < xp sts) : zn ⟨st, sts⟩ = 1 := by unfold zn; rw [if_pos h]
theorem qa4 {len : Nat} (hl : sts.length = len) (h1 : ¬ 60 < len) (h2 : ¬ 400 < xp sts) (h3 : ¬ (-1 ≤ st ∧ st < len)) : zn ⟨st, sts⟩ = 2 := by grind [zn, q50]
theorem gq {len : Nat} {x : St} (hl : sts.length = len) (h1 : ¬ 60 < len) (h2 : ¬ 400 < xp sts) (h3 : sts[k]? = some x) (h4 : uK len x = false) : zn ⟨st, sts⟩ = 2 := by
  grind [zn, qc4]
theorem qx1 {len : Nat} (hl : sts.length = len) (h1 : ¬ 60 < len) (h2 : ¬ 400 < xp sts) (h3 : -1 ≤ st ∧ st < len) (hk : ¬ k < len) (h4 : (sts.take k).all (uK len) = true) : zn ⟨st, sts⟩ = 0 := by
  grind [take_of_length_le, zn, q50]
theorem xj {m : zr} (h : zn m = 0) : m.states.length ≤ 60 ∧ xp m.states ≤ 400 ∧ (-1 ≤ m.start ∧ m.start < m.states.length) ∧ ∀ s ∈ m.states, vy s.fin = true ∧ ∀ a ∈ s.arcs, xl m.states.length a = true := by
  unfold zn at h
  by_cases h1 : 60 < m.states.length ∨ 400 < xp m.states
  · rw [if_pos h1] at h; exact absurd h zj
  rw [if_neg h1] at h
  by_cases h2 : q50 m ∧ m.states.all (uK m.states.length) = true
  · refine ⟨by omega, by omega, h2.1, fun s hs => ?_⟩
    have h3 := List.all_eq_true.1 h2.2 s hs; simp only [uK, and_eq_true] at h3
    exact ⟨h3.1, fun a ha => List.all_eq_true.1 h3.2 a ha⟩
  rw [if_neg h2] at h; exact absurd h zj
theorem qH2 {len : Nat} (hl : sts.length = len) (hk : ¬ k < len) : xp (sts.take k) = xp sts := by rw [List.take_of_length_le zg]
abbrev arD (a : Ar) : List D := [.p (.int .i64 a.i), .p (.int .i64 a.o), .p (.int .i64 a.w), .p (.int .i64 a.t)]
abbrev zU (l : List Ar) : D := .sl 4 32 (l.map arD)
abbrev stD (s : St) : List D := [.p (.int .i64 s.fin), zU s.arcs]
abbrev zq (l : List St) : D := .sl 2 32 (l.map stD)
abbrev mV (m : zr) : V := .agg [.i m.start, .d (zq m.states)]
abbrev ua (l : List Int) : D := .sl 1 8 (l.map fun x => [D.p (.int .i64 x)])
abbrev y6 (l : List Bool) : D := .sl 1 1 (l.map fun x => [D.p (.bool x)])
theorem DRep.bound {w : World} {q : Nat → Prop} {sz bt : Nat} {rows : List (List D)} (h : DRep w q (.sl sz bt rows) v) : rows.length * bt ≤ 140737488355328 := by
  cases h with | sl _ _ _ _ _ _ _ _ _ _ hl => exact hl
theorem DRep.row {w : World} {q : Nat → Prop} {sz bt : Nat} {rows : List (List D)} {v : Value} (h : DRep w q (.sl sz bt rows) v) {i j : Nat} {row : List D} {u : D} (hi : rows[i]? = some row) (hj : row[j]? = some u) : ∃ y, DRep w q u y := by
  cases h with | sl _ _ _ _ _ _ _ _ _ _ hl hc hr => exact ⟨_, hr i j row u hi hj⟩
theorem qD {f : FuncId} (m : zr) (j : Nat) (hj : args[j]? = some (mV m)) (h : m.states.length ≤ 4398046511104 → (∀ x ∈ m.states, x.arcs.length ≤ 4398046511104) → Fn P f args post) : Fn P f args post := by
  intro w out g xs ho hx; have zk : j < xs.length := by rw [← hx.1]; exact (List.getElem?_eq_some_iff.1 hj).1
  have hv := hx.2 j _ _ hj (List.getElem?_eq_getElem zk); generalize xs[j] = y at hv
  cases hv with
  | agg _ cs hl hh =>
    have hc : 1 < cs.length := by simp at hl; omega
    have h1 := hh 1 _ cs[1] rfl (List.getElem?_eq_getElem hc)
    cases h1 with
    | d _ _ h2 =>
      have h3 := h2.bound; simp only [length_map] at h3; refine h zg (fun x hx => ?_) w out g xs ho hx; obtain ⟨i, hi⟩ := List.getElem?_of_mem hx; obtain ⟨z, h4⟩ := h2.row (i := i) (j := 1) (row := stD x) (by simp [hi]) rfl; have h5 := h4.bound; simp only [length_map] at h5; omega
theorem Fn.sl {P : Program} {f : FuncId} {args : List V} {post : V → Prop} (j : Nat) {sz bt : Nat} {rows : List (List D)} (hj : args[j]? = some (.d (.sl sz bt rows))) (h : rows.length * bt ≤ 140737488355328 → Fn P f args post) : Fn P f args post := by
  intro w out g xs ho hx; have zk : j < xs.length := by rw [← hx.1]; exact (List.getElem?_eq_some_iff.1 hj).1
  have hv := hx.2 j _ _ hj (List.getElem?_eq_getElem zk); generalize xs[j] = y at hv
  cases hv with
  | d _ _ h2 => exact h h2.bound w out g xs ho hx
theorem zl {α : Type} {l : List α} {n : Nat} (hl : l.length = n) (h : k < n) : ∃ x, l[k]? = some x := ⟨l[k], List.getElem?_eq_getElem zg⟩
section
variable {c : Cx} {Q : Exit → S → Prop} {s : S} {o : Oper}
open Classical in
theorem qF {x : Code} (I : Nat → S → Prop) (h0 : ∃ n s', Less s' s ∧ I n s')
    (round : ∀ n s, I n s → AW c x (wY (fun s' => ∃ m s'', Less s'' s' ∧ I m s'' ∧ m < n) Q) s) : AW c (.loop x) Q s := by
  refine qb (fun s => ∃ n, I n s) (fun s => if h : ∃ n, I n s then Classical.choose (gS h) else 0) ?_ ?_
  · obtain ⟨n, s', h1, h2⟩ := h0
    exact ⟨s', h1, n, h2⟩
  intro s hs; obtain ⟨hc1, hc2⟩ := Classical.choose_spec (gS hs); refine (round _ s hc1).mono fun e s' hq => ?_
  cases e
  case normal =>
    obtain ⟨m, s'', h1, h2, h3⟩ := hq; refine ⟨s'', h1, ⟨m, h2⟩, ?_⟩; have jO8 : ∃ n, I n s'' := ⟨m, h2⟩; simp only [dif_pos hs, dif_pos jO8]; have := (Classical.choose_spec (gS jO8)).2 m h2; omega
  all_goals exact hq
theorem bb {t e : TypeId} {x y : Operand} {sz bt n : Nat} {z : Value} {f : Bool} {kd : IntKind} (hu : c.P.underlying t = some (.slice e)) (hi : Inf c.P e sz bt z) (ho : o.op = .slice t x none (some y) none) (hx : s.ev x = some (.own r sz n f)) (hy : s.ev y = some (.d (.p (.int kd n')))) (hk : n' = (k : Int)) (hle : k ≤ n) :
    RD c o s (.own r sz k f) := fun g a w hs => by
  subst hk; have h := hs.ev hx; have hyv := VRep.p_eq (hs.ev hy); generalize hxx : a.eval x = u at h
  cases h with
  | own _ _ _ hn hcp =>
    refine ⟨.slice (some ⟨(g r).1, 0, none⟩) k (g r).2, .own r sz k (le_trans hle hn) hcp, fun w' _ => ?_⟩; have h0 : (0 : Int) ≤ (k : Int) ∧ (k : Int) ≤ ((g r).2 : Int) := by omega
    simp only [execOp, ho, hxx, hyv, map_some, map_none]; simp only [Instr.sliceAt, Instr.slice, Sem.run_bind, run_underlying hu, Result.andThen_ok, Instr.sliceBounds, run_sliceBound _ kd _ _ _ h0.1 h0.2, Sem.run_pure, vP hi, Int.toNat_natCast, Nat.sub_zero, Nat.zero_mul]; simp [Addr.add]
  | ownNil =>
    obtain rfl : k = 0 := by omega
    refine ⟨.slice none 0 0, .ownNil r sz, fun w' _ => ?_⟩; simp only [execOp, ho, hxx, hyv, map_some, map_none]; simp only [Instr.sliceAt, Instr.slice, Sem.run_bind, run_underlying hu, Result.andThen_ok, Instr.sliceBounds, Sem.run_pure, vP hi, Int.toNat_natCast, Nat.sub_zero, Nat.zero_mul]; simp [run_sliceBound _ kd (0 : Int) 0 .sliceAcap (Int.le_refl 0) (Int.le_refl 0)]
theorem zX {α : Type} {t : TypeId} {bt : Nat} {z : Value} {x y : Operand} {row : Row} {l : List α} {f : α → V} {v : α} (hi : Inf c.P t 1 bt z) (ho : o.op = .store t x y) (hd : o.dst = none) (hx : s.ev x = some (.ref r (k * 1))) (hr : fnd s.H r = some row) (hn : row.nil = false)
    (hf : row.cells = l.map f) (hy : s.ev y = some (f v)) (x6 : (f v).one = true) (q29 : k < l.length) : vm c o s (fun s' => s' = { s with H := (r, { row with cells := (l.set k v).map f }) :: s.H }) := qO9 hi ho hd hx hy hr hn hf x6 q29
theorem jW (r : Nat) (cells : List V) {row : Row} (hr : fnd s.H r = some row) (hp : ∃ more, row.cells = cells ++ more) : Less ⟨s.n, s.T, (r, { row with cells := cells }) :: s.H, s.K⟩ s := by
  obtain ⟨more, hp⟩ := hp
  refine ⟨rfl, fun i v h => ⟨v, h, .refl _⟩, fun k row' hk => ?_, fun j v h => ⟨v, h, .refl _⟩⟩
  simp only [fnd] at hk
  split at hk
  · rename_i e
    simp only [beq_iff_eq] at e; subst e; simp only [Option.some.injEq] at hk; subst hk; refine ⟨row, hr, rfl, rfl, rfl, fun j v hv => ⟨v, ?_, .refl _⟩⟩; rw [hp, List.getElem?_append_left (List.getElem?_eq_some_iff.1 hv).1]; exact hv
  exact ⟨row', hk, rfl, rfl, rfl, fun j v hv => ⟨v, hv, .refl _⟩⟩
theorem jA {x : Code} (r : Nat) (cells : List V) {row : Row} (hr : fnd s.H r = some row) (hp : ∃ more, row.cells = cells ++ more) (h : AW c x Q ⟨s.n, s.T, (r, { row with cells := cells }) :: s.H, s.K⟩) : AW c x Q s := AW.less (jW r cells hr hp) h
end
inductive WkR : V → V → Prop
  | one {v' v : V} (h : Wk v' v) : WkR v' v
  | tup {l' l : List V} (hl : l'.length = l.length) (h : ∀ (j : Nat) (u v : V), l'[j]? = some u → l[j]? = some v → Wk u v) : WkR (.tup l') (.tup l)
theorem WkR.rep {w : World} {q : Nat → Prop} {g : Nat → Nat × Nat} {v' v : V} {x : Value} (h : WkR v' v) (hv : VRep w q g v x) : VRep w q g v' x := by
  cases h with
  | one h => exact h.rep hv
  | tup hl h =>
    cases hv with
    | tup _ cs zI hh =>
      refine .tup _ cs zg fun j u y hu hy => ?_; have hj := (List.getElem?_eq_some_iff.1 hu).1
      rename_i l' l
      have hj' : j < l.length := by omega
      exact (h j u l[j] hu (List.getElem?_eq_getElem hj')).rep (hh j _ y (List.getElem?_eq_getElem hj') hy)
theorem Fn.wk {f : FuncId} (h : Fn P f args post) (hp : ∀ v, post v → v.pure → ∃ v', post' v' ∧ v'.pure ∧ WkR v' v) : Fn P f args post' := fun w out g xs h1 h2 =>
  (h w out g xs h1 h2).mono fun e w' ⟨v, x, h3, h4, h5, h6, h7⟩ => by
    obtain ⟨v', k1, k2, k3⟩ := hp v h4 h5; exact ⟨v', x, h3, k1, k2, k3.rep h6, h7⟩
theorem WkR.nil1 (sz bt : Nat) (n : Int) : WkR (.tup [.d (.sl sz bt []), .i n]) (.tup [.nil, .i n]) := .tup rfl fun j u v h1 h2 => by
  match j, h1, h2 with
  | 0, h1, h2 => simp at h1 h2; subst h1 h2; exact .nil _ _
  | 1, h1, h2 => simp at h1 h2; subst h1 h2; exact .refl _
  | n + 2, h1, h2 => simp at h1
theorem Fn.eqi {f : FuncId} {x y : Int} (h : Fn P f args (fun v => v = .i x)) (e : x = y) : Fn P f args (fun v => v = .i y) := by subst e; exact h
theorem Fn.eqv {f : FuncId} {x y : V} (h : Fn P f args (fun v => v = x)) (e : x = y) : Fn P f args (fun v => v = y) := by subst e; exact h
theorem Fn.wkS {f : FuncId} (h : Fn P f args post) (hp : ∀ v, post v → v.pure → ∃ v', post' v' ∧ v'.pure ∧ ∀ w q g x, VRep w q g v x → VRep w q g v' x) : Fn P f args post' := fun w out g xs h1 h2 =>
  (h w out g xs h1 h2).mono fun e w' ⟨v, x, h3, h4, h5, h6, h7⟩ => by grind
theorem qs7 {u u' v : V} (h : ∀ w q g x, VRep w q g u x → VRep w q g u' x) : ∀ w q g x, VRep w q g (.tup [u, v]) x → VRep w q g (.tup [u', v]) x := by
  intro w q g x hx
  cases hx with
  | tup _ cs hl hh =>
    refine .tup _ cs hl fun j y z hy hz => ?_
    match j, hy with
    | 0, hy => simp at hy; subst hy; exact h _ _ _ _ (hh 0 u z rfl hz)
    | 1, hy => exact hh 1 y z hy hz
    | n + 2, hy => simp at hy
theorem q17 (n : Int) : ∀ w q g x, VRep w q g (.agg [.i n, .nil]) x → VRep w q g (.agg [.i n, .d (.sl 2 32 [])]) x := by
  intro w q g x hx
  cases hx with
  | agg _ cs hl hh =>
    refine .agg _ cs hl fun j y z hy hz => ?_
    match j, hy with
    | 0, hy => exact hh 0 y z hy hz
    | 1, hy => simp at hy; subst hy; exact (Wk.nil 2 32).rep (hh 1 .nil z rfl hz)
    | n + 2, hy => simp at hy
def qQ1 (e : Int) (M : zr) (v : V) : Prop := e ≠ 0 ∧ v = .tup [.agg [.i 0, .nil], .i e] ∨ e = 0 ∧ v = .tup [mV M, .i 0]
theorem qo9 {M : zr} (hM : e ≠ 0 → M = ⟨0, []⟩) (v : V) (h : qQ1 e M v) (_ : v.pure) : ∃ v', v' = .tup [mV M, .i e] ∧ v'.pure ∧ ∀ w q g x, VRep w q g v x → VRep w q g v' x := by
  refine ⟨_, rfl, by simp [V.pure, V.has, V.hasL], ?_⟩
  rcases h with ⟨h0, rfl⟩ | ⟨h0, rfl⟩
  · rw [hM h0]
    exact qs7 (q17 0)
  rw [h0]
  exact fun _ _ _ _ h => h
theorem DRep.of_sl {α : Type} {w : World} {q : Nat → Prop} {sz bt : Nat} {cells : α → List Value} {enc : α → List D} {l : List α} (h : SlAt w sz bt cells v l) (hq : ∀ b, q b) (xz : 0 < sz) (he : ∀ x, (enc x).length ≤ sz) (hc : ∀ x, (cells x).length = sz)
    (hr : ∀ x ∈ l, ∀ (j : Nat) (u : D) (y : Value), (enc x)[j]? = some u → (cells x)[j]? = some y → DRep w q u y) : DRep w q (.sl sz bt (l.map enc)) v := by
  obtain ⟨a, cap, rfl, hl, hn, hat⟩ := h
  by_cases h0 : l = []
  · subst h0
    have := DRep.sl (w := w) (q := q) sz bt [] a cap 0 0 (fun _ _ => undef) (Nat.zero_le _) (fun h => absurd rfl h) zx zx zx
    simpa using this
  have gA : 0 < l.length := by cases l with | nil => exact absurd rfl h0 | cons => simp
  obtain ⟨b, o, x0, rfl, _, hc0⟩ := hat 0 gA; have jO9 : ∀ i, i < l.length → ∀ x, l[i]? = some x → ∀ j, j < sz → w.cell? ⟨b, o + i * sz + j, none⟩ = (cells x)[j]? := by grind
  have hb : b < w.heap.size := by
    have h1 := jO9 0 gA l[0] (List.getElem?_eq_getElem gA) 0 xz; rw [List.getElem?_eq_getElem (by rw [hc]; omega)] at h1; exact World.block_lt_of_cell? w _ h1
  have key := DRep.sl (w := w) (q := q) sz bt (l.map enc) (some ⟨b, o, none⟩) cap b o (fun i j => ((l[i]?.map cells).getD []).getD j undef) (by simpa using hn.2) (fun _ => ⟨rfl, hq b, hb⟩) (by simpa using hl) (by
    intro i j row u hi hj; rw [List.getElem?_map] at hi
    cases hx : l[i]? with
    | none => rw [hx] at hi; cases hi
    | some x =>
      rw [hx] at hi; simp only [map_some, Option.some.injEq] at hi; subst hi; have hj' : j < sz := lt_of_lt_of_le (List.getElem?_eq_some_iff.1 hj).1 (he x); rw [jO9 i (List.getElem?_eq_some_iff.1 hx).1 x hx j hj']; rw [List.getElem?_eq_getElem (by rw [hc]; exact hj')]
      simp [getD_eq_getElem?_getD, List.getElem?_eq_getElem (show j < (cells x).length by rw [hc]; exact hj')]) (by
    intro i j row u hi hj; rw [List.getElem?_map] at hi
    cases hx : l[i]? with
    | none => rw [hx] at hi; cases hi
    | some x =>
      rw [hx] at hi; simp only [map_some, Option.some.injEq] at hi; subst hi; have hj' : j < sz := lt_of_lt_of_le (List.getElem?_eq_some_iff.1 hj).1 (he x); refine hr x (mem_of_getElem? hx) j u _ hj ?_
      simp [getD_eq_getElem?_getD, List.getElem?_eq_getElem (show j < (cells x).length by rw [hc]; exact hj')])
  simpa using key
theorem jr2 {w : World} {q : Nat → Prop} {l : List Ar} (h : qv8 w v l) (hq : ∀ b, q b) : DRep w q (zU l) v :=
  DRep.of_sl h hq zg (fun _ => by simp) j10 (fun x _ j u y hu hy => by
    match j, hu, hy with
    | 0, hu, hy => simp [ga] at hu hy; subst hu hy; exact .p _
    | 1, hu, hy => simp [ga] at hu hy; subst hu hy; exact .p _
    | 2, hu, hy => simp [ga] at hu hy; subst hu hy; exact .p _
    | 3, hu, hy => simp [ga] at hu hy; subst hu hy; exact .p _
    | n + 4, hu, hy => simp at hu)
theorem qs8 {w : World} {q : Nat → Prop} {g : Nat → Nat × Nat} {m : zr} (h : qj9 w v m) (hq : ∀ b, q b) : VRep w q g (mV m) v := by
  obtain ⟨sv, rfl, ts, hts, hs, xE⟩ := h
  have h2 : DRep w q (zq m.states) sv := by
    have := DRep.of_sl (enc := fun x : Int × Value × List Ar => [D.p (.int .i64 x.1), zU x.2.2]) hs hq zg (fun _ => by simp) j11 (fun x hx j u y hu hy => by
      match j, hu, hy with
      | 0, hu, hy => simp [bB] at hu hy; subst hu hy; exact .p _
      | 1, hu, hy => simp [bB] at hu hy; subst hu hy; exact jr2 (xE x hx) hq
      | n + 2, hu, hy => simp at hu)
    rw [hts]
    simpa [zq, stD, List.map_map, Function.comp_def] using this
  refine .agg [.i m.start, .d (zq m.states)] [.int .i64 m.start, sv] rfl fun j u y hu hy => ?_
  match j, hu, hy with
  | 0, hu, hy => simp at hu hy; subst hu hy; exact .d _ _ (.p _)
  | 1, hu, hy => simp at hu hy; subst hu hy; exact .d _ _ h2
  | n + 2, hu, hy => simp at hu
theorem qQ2 {w : World} {q : Nat → Prop} {g : Nat → Nat × Nat} : y9 w q g [] [] := ⟨rfl, by simp⟩
theorem qk8 {w : World} {q : Nat → Prop} {g : Nat → Nat × Nat} {v : V} {x : Value} {xs : List Value} (h : VRep w q g v x) (hs : y9 w q g vs xs) : y9 w q g (v :: vs) (x :: xs) :=
  ⟨by simp [hs.1], fun j u y hu hy => by
    cases j with
    | zero => simp at hu hy; subst hu hy; exact h
    | succ j => exact hs.2 j u y (by simpa using hu) (by simpa using hy)⟩
theorem qk9 : ∀ (r : List UInt8) (acc : Nat) (d : UInt8), Lib.decFrom acc (r ++ [d]) = (Lib.decFrom acc r).bind fun m => (Lib.digitVal d).map fun v => m * 10 + v
  | [], acc, d => by
    simp only [nil_append, Lib.decFrom, Option.bind_some]
    cases Lib.digitVal d <;> rfl
  | b :: r, acc, d => by
    simp only [cons_append, Lib.decFrom]
    cases Lib.digitVal b with
    | none => rfl
    | some v => exact qk9 r _ d
theorem qx2 {n : Nat} (h : ¬ n < 10) : Lib.decDigits n = Lib.decDigits (n / 10) ++ [UInt8.ofNat (48 + n % 10)] := by rw [Lib.decDigits, dif_neg h]
theorem q09 {v : Nat} (h : v < 10) : (UInt8.ofNat (48 + v)).toNat = 48 + v := by
  simp only [UInt8.toNat_ofNat']; omega
theorem qQ3 {v : Nat} (h : v < 10) : Lib.digitVal (UInt8.ofNat (48 + v)) = some v := by
  unfold Lib.digitVal; rw [q09 h, if_pos zg]
  congr 1
  omega
theorem bc (n : Nat) : Lib.decFrom 0 (Lib.decDigits n) = some n ∧ Lib.decDigits n ≠ [] ∧ (1 ≤ n → (Lib.decDigits n)[0]? ≠ some 48) ∧ (Lib.decDigits n)[0]? ≠ some 45 ∧ (Lib.decDigits n)[0]? ≠ some 43 := by
  induction n using Nat.strongRecOn with
  | _ n ih =>
    by_cases h : n < 10
    · rw [Lib.decDigits_one h]
      refine ⟨?_, by simp, fun h1 h2 => ?_, fun h2 => ?_, fun h2 => ?_⟩
      · simp only [Lib.decFrom, qQ3 h]
        simp
      all_goals
        simp only [List.getElem?_cons_zero, Option.some.injEq] at h2; have := congrArg UInt8.toNat h2; rw [q09 h] at this; simp at this
        try omega
    obtain ⟨h1, h2, h3, h4, h5⟩ := ih (n / 10) zg; rw [qx2 h]
    have h0 : ∀ x : UInt8, (Lib.decDigits (n / 10))[0]? ≠ some x → (Lib.decDigits (n / 10) ++ [UInt8.ofNat (48 + n % 10)])[0]? ≠ some x := fun x hx => by grind
    refine ⟨?_, by simp, fun _ => h0 _ (h3 zg), h0 _ h4, h0 _ h5⟩
    rw [qk9, h1, qQ3 zg]; simp only [Option.bind_some, map_some, Option.some.injEq]; omega
theorem qQ4 {d : UInt8} {v : Nat} (h : Lib.digitVal d = some v) : v < 10 ∧ d = UInt8.ofNat (48 + v) := by
  unfold Lib.digitVal at h
  split at h
  · rename_i hd
    simp only [Option.some.injEq] at h; subst h; refine ⟨by omega, UInt8.toNat_inj.1 ?_⟩; rw [q09 zg]; omega
  cases h
theorem q45 : ∀ (k n : Nat), n < 10 ^ (k + 1) → (Lib.decDigits n).length ≤ k + 1
  | 0, n, h => by rw [Lib.decDigits_one (by simpa using h)]; simp
  | k + 1, n, h => by
    by_cases h10 : n < 10
    · rw [Lib.decDigits_one h10]; simp
    rw [qx2 h10, length_append]; have := q45 k (n / 10) (by rw [Nat.pow_succ] at h; omega); simp only [length_cons, length_nil]; omega
theorem qq6 {n : Nat} {b : UInt8} (h : b ∈ Lib.decDigits n) : 48 ≤ b.toNat ∧ b.toNat ≤ 57 := by
  obtain ⟨k, hk⟩ := List.getElem?_of_mem h; obtain ⟨d, hd⟩ := Lib.digit_of_decFrom _ 0 n (bc n).1 k b hk; obtain ⟨h1, rfl⟩ := qQ4 hd; rw [q09 h1]; omega
theorem q64 {c : UInt8} : ∀ {p p' r r' : List UInt8}, c ∉ p → c ∉ p' → p ++ c :: r = p' ++ c :: r' → p = p' ∧ r = r'
  | [], [], r, r', _, _, h => by grind
  | [], b :: p', r, r', _, h2, h => by grind
  | b :: p, [], r, r', h1, _, h => by grind
  | b :: p, b' :: p', r, r', h1, h2, h => by
    simp only [cons_append, List.cons.injEq] at h
    obtain ⟨h3, h4⟩ := q64 (fun hm => h1 (mem_cons_of_mem _ hm)) (fun hm => h2 (mem_cons_of_mem _ hm)) h.2
    rw [h.1, h3]; exact ⟨rfl, h4⟩
theorem qp0 {n : Nat} (h : Lib.decDigits m = Lib.decDigits n) : m = n := by grind [bc, Option.some.inj]
def agr (E : Nat → Nat → Prop) (x y : St) : Prop := x.fin = y.fin ∧ x.arcs.length = y.arcs.length ∧ ∀ (i : Nat) (a b : Ar), x.arcs[i]? = some a → y.arcs[i]? = some b → a.i = b.i ∧ a.o = b.o ∧ a.w = b.w ∧ E a.t.toNat b.t.toNat
theorem qs9 {x y : St} (h : agr E x y) (hE : ∀ q p, E q p → E' q p) : agr E' x y :=
  ⟨h.1, h.2.1, fun i a b ha hb => let ⟨h1, h2, h3, h4⟩ := h.2.2 i a b ha hb; ⟨h1, h2, h3, hE _ _ h4⟩⟩
def bis (sts : List St) (E : Nat → Nat → Prop) : Prop := ∀ q p, E q p → ∃ x y, sts[q]? = some x ∧ sts[p]? = some y ∧ agr E x y
def sim (sts : List St) (q p : Nat) : Prop := ∃ E, bis sts E ∧ E q p
theorem qp1 (sts : List St) : bis sts (sim sts) := fun q p ⟨E, hE, h⟩ => by
  obtain ⟨x, y, h1, h2, h3⟩ := hE q p h
  exact ⟨x, y, h1, h2, qs9 h3 fun q p h => ⟨E, hE, h⟩⟩
def tin (sts : List St) : Prop := ∀ x ∈ sts, ∀ a ∈ x.arcs, a.t.toNat < sts.length
theorem qQ5 (ht : tin sts) (hq : q < sts.length) : sim sts q q := by
  refine ⟨fun q p => q = p ∧ q < sts.length, fun q p ⟨e, h⟩ => ?_, rfl, hq⟩; subst e; refine ⟨_, _, List.getElem?_eq_getElem h, List.getElem?_eq_getElem h, rfl, rfl, fun i a b ha hb => ?_⟩; rw [ha] at hb
  cases hb
  exact ⟨rfl, rfl, rfl, rfl, ht _ (List.getElem_mem h) a (mem_of_getElem? ha)⟩
theorem qQ6 (h : sim sts q p) : sim sts p q := by
  obtain ⟨E, hE, h⟩ := h; refine ⟨fun q p => E p q, fun q p h => ?_, h⟩; obtain ⟨x, y, h1, h2, h3, h4, h5⟩ := hE p q h
  exact ⟨y, x, h2, h1, h3.symm, h4.symm, fun i a b ha hb => let ⟨e1, e2, e3, e4⟩ := h5 i b a hb ha; ⟨e1.symm, e2.symm, e3.symm, e4⟩⟩
theorem qH3 (h : sim sts q p) (h' : sim sts p r) : sim sts q r := by
  refine ⟨fun q r => ∃ p, sim sts q p ∧ sim sts p r, fun q r ⟨p, h1, h2⟩ => ?_, p, h, h'⟩; obtain ⟨x, y, e1, e2, a1, a2, a3⟩ := qp1 sts q p h1; obtain ⟨y', z, e3, e4, b1, b2, b3⟩ := qp1 sts p r h2; rw [e2] at e3
  cases e3
  refine ⟨x, z, e1, e4, a1.trans b1, a2.trans b2, fun i a b ha hb => ?_⟩; have zk : i < y.arcs.length := by rw [← a2]; exact (List.getElem?_eq_some_iff.1 ha).1
  obtain ⟨c1, c2, c3, c4⟩ := a3 i a _ ha (List.getElem?_eq_getElem zk); obtain ⟨d1, d2, d3, d4⟩ := b3 i _ b (List.getElem?_eq_getElem zk) hb; exact ⟨c1.trans d1, c2.trans d2, c3.trans d3, _, c4, d4⟩
theorem jr3 (h1 : ∀ q p, T q p → ¬ sim sts q p) (h2 : ∀ q p x y, sts[q]? = some x → sts[p]? = some y → ¬ T q p → agr (fun q p => q < sts.length ∧ p < sts.length ∧ ¬ T q p) x y) {q p : Nat} (hq : q < sts.length) (hp : p < sts.length) : ¬ T q p ↔ sim sts q p := by
  constructor
  · intro h
    refine ⟨fun q p => q < sts.length ∧ p < sts.length ∧ ¬ T q p, fun q p ⟨h3, h4, h5⟩ => ?_, hq, hp, h⟩; exact ⟨_, _, List.getElem?_eq_getElem h3, List.getElem?_eq_getElem h4, h2 q p _ _ (List.getElem?_eq_getElem h3) (List.getElem?_eq_getElem h4) h5⟩
  intro h ht; exact h1 q p ht h
theorem jh7 (h1 : ∀ q p, T q p → ¬ sim sts q p) {q p : Nat} {x y : St} (hx : sts[q]? = some x) (hy : sts[p]? = some y) (h : ¬ agr (fun q p => ¬ T q p) x y) : ¬ sim sts q p := fun hs => by
  obtain ⟨x', y', e1, e2, h3⟩ := qp1 sts q p hs; rw [hx] at e1; rw [hy] at e2
  cases e1
  cases e2
  exact h (qs9 h3 fun q p h4 ht => h1 q p ht h4)
structure Nmb {κ : Type} (known : List κ) (ks : List κ) (out : List Nat) : Prop where
  len : out.length = ks.length
  nd : known.Nodup
  at_ : ∀ (q : Nat) (k : κ) (j : Nat), ks[q]? = some k → out[q]? = some j → known[j]? = some k
  all : ∀ k ∈ known, k ∈ ks
theorem Nmb.step_old {κ : Type} {known ks : List κ} {k : κ} (h : Nmb known ks out) (hj : known[j]? = some k) : Nmb known (ks ++ [k]) (out ++ [j]) := by
  refine ⟨by simp [h.len], h.nd, fun q k' j' h1 h2 => ?_, fun k' hk => List.mem_append_left _ (h.all k' hk)⟩
  rcases Nat.lt_trichotomy q ks.length with zk | rfl | hgt
  · rw [List.getElem?_append_left zk] at h1
    rw [List.getElem?_append_left (by rw [h.len]; exact zk)] at h2; exact h.at_ q k' j' h1 h2
  · rw [← h.len] at h2
    simp at h1 h2; subst h1 h2; exact hj
  grind
theorem Nmb.step_new {κ : Type} {known ks : List κ} {k : κ} (h : Nmb known ks out) (hk : k ∉ known) : Nmb (known ++ [k]) (ks ++ [k]) (out ++ [known.length]) := by
  refine ⟨by simp [h.len], ?_, fun q k' j' h1 h2 => ?_, fun k' hk' => ?_⟩
  · rw [List.nodup_append]
    refine ⟨h.nd, by simp, fun a ha b hb => ?_⟩; simp only [mem_singleton] at hb; subst hb; rintro rfl; exact hk ha
  · rcases Nat.lt_trichotomy q ks.length with zk | rfl | hgt
    · rw [List.getElem?_append_left zk] at h1
      rw [List.getElem?_append_left (by rw [h.len]; exact zk)] at h2; have := h.at_ q k' j' h1 h2; rw [List.getElem?_append_left (List.getElem?_eq_some_iff.1 this).1]; exact this
    · rw [← h.len] at h2
      simp at h1 h2; subst h1 h2; simp
    grind
  rcases List.mem_append.1 hk' with h3 | h3
  · exact List.mem_append_left _ (h.all k' h3)
  exact List.mem_append_right _ h3
theorem Nmb.iff {κ : Type} {known ks : List κ} (h : Nmb known ks out) {k k' : κ} (h1 : ks[q]? = some k) (h2 : ks[p]? = some k') (h3 : out[q]? = some i) (h4 : out[p]? = some j) : i = j ↔ k = k' := by
  have e1 := h.at_ q k i h1 h3; have e2 := h.at_ p k' j h2 h4
  constructor
  · grind
  rintro rfl; obtain ⟨l1, g1⟩ := List.getElem?_eq_some_iff.1 e1; obtain ⟨l2, g2⟩ := List.getElem?_eq_some_iff.1 e2; exact (List.getElem_inj h.nd).1 (g1.trans g2.symm)
theorem qt0 (h : m ∈ l) : ∃ l', l.length = l'.length + 1 ∧ l.Perm (m :: l') ∧ ∀ j, j ≠ m → j ∈ l → j ∈ l' := by
  obtain ⟨l1, l2, rfl⟩ := List.append_of_mem h; refine ⟨l1 ++ l2, by simp; omega, List.perm_middle, fun j hj hm => ?_⟩
  rcases List.mem_append.1 hm with hm | hm
  · exact List.mem_append_left _ hm
  grind
theorem q82 : ∀ (m : Nat) (l : List Nat), (∀ j, j < m → j ∈ l) → m ≤ l.length
  | 0, _, _ => Nat.zero_le _
  | m + 1, l, h => by
    obtain ⟨l', h1, _, h3⟩ := qt0 (h m (Nat.lt_succ_self m))
    have := q82 m l' fun j hj => h3 j zg (h j zg)
    omega
theorem qq7 : ∀ (m : Nat) (l : List Nat), l.length = m → (∀ j, j < m → j ∈ l) → l.Nodup
  | 0, l, h, _ => by rw [List.length_eq_zero_iff.1 h]; exact List.nodup_nil
  | m + 1, l, hl, h => by
    obtain ⟨l', h1, h2, h3⟩ := qt0 (h m (Nat.lt_succ_self m))
    have hc : ∀ j, j < m → j ∈ l' := fun j hj => h3 j zg (h j zg)
    have hn := qq7 m l' zg hc; rw [h2.nodup_iff, List.nodup_cons]; refine ⟨fun hm => ?_, hn⟩
    have := q82 (m + 1) l' fun j hj => by grind
    omega
theorem j37 {κ : Type} {g : κ → Nat} : ∀ {l : List κ}, (l.map g).Nodup → ∀ k ∈ l, ∀ k' ∈ l, g k = g k' → k = k'
  | x :: l, h, k, hk, k', hk', e => by
    rw [map_cons, List.nodup_cons] at h
    rcases List.mem_cons.1 hk with e1 | m1
    · grind
    rcases List.mem_cons.1 hk' with e2 | m2
    · grind
    exact j37 h.2 k m1 k' m2 e
theorem Nmb.known_of {κ : Type} {known ks : List κ} (h : Nmb known ks out) {k : κ} (hq : ks[q]? = some k) : ∃ j, out[q]? = some j ∧ known[j]? = some k := by
  have zk : q < out.length := by rw [h.len]; exact (List.getElem?_eq_some_iff.1 hq).1
  exact ⟨_, List.getElem?_eq_getElem zk, h.at_ q k _ hq (List.getElem?_eq_getElem zk)⟩
theorem Nmb.cover {κ : Type} {known ks : List κ} (h : Nmb known ks out) : ∀ j, j < known.length → j ∈ out := fun j hj => by
  obtain ⟨q, hq⟩ := List.getElem?_of_mem (h.all known[j] (List.getElem_mem hj)); obtain ⟨i, h1, h2⟩ := h.known_of hq; obtain ⟨l2, g2⟩ := List.getElem?_eq_some_iff.1 h2; have : i = j := (List.getElem_inj h.nd).1 g2; subst this; exact mem_of_getElem? h1
theorem Nmb.same {κ : Type} {known ks : List κ} (h : Nmb known ks out) {c : List Nat} (g : κ → Nat) (hc : ∀ (q : Nat) (k : κ), ks[q]? = some k → c[q]? = some (g k)) (qQ7 : ∀ j, j < known.length → j ∈ c) (hl : c.length = ks.length) {q : Nat} (h1 : c[q]? = some i) (h2 : c[p]? = some i) : out[q]? = out[p]? := by
  have hn : (known.map g).Nodup := qq7 known.length _ zx fun j hj => by
    obtain ⟨r, hr⟩ := List.getElem?_of_mem (qQ7 j hj); have zk : r < ks.length := by rw [← hl]; exact (List.getElem?_eq_some_iff.1 hr).1
    have hk := List.getElem?_eq_getElem zk; have e := hc r _ hk; rw [hr] at e; obtain ⟨i', _, xU⟩ := h.known_of hk; rw [Option.some.inj e]; exact List.mem_map_of_mem (mem_of_getElem? xU)
  have lq : q < ks.length := by rw [← hl]; exact (List.getElem?_eq_some_iff.1 h1).1
  have lp : p < ks.length := by rw [← hl]; exact (List.getElem?_eq_some_iff.1 h2).1
  have kq := List.getElem?_eq_getElem lq; have kp := List.getElem?_eq_getElem lp; obtain ⟨iq, o1, n1⟩ := h.known_of kq; obtain ⟨ip, o2, n2⟩ := h.known_of kp; have e1 := hc q _ kq; have e2 := hc p _ kp; rw [h1] at e1; rw [h2] at e2; have e : ks[q] = ks[p] := j37 hn _ (mem_of_getElem? n1) _ (mem_of_getElem? n2) (Option.some.inj (e1.symm.trans e2)); rw [o1, o2, (h.iff kq kp o1 o2).2 e]
def sgK (c : List Nat) (q : Nat) (x : St) : Nat × Int × List (Int × Int × Int × Nat) := (c[q]?.getD 0, x.fin, x.arcs.map fun a => (a.i, a.o, a.w, c[a.t.toNat]?.getD 0))
theorem qC3 {c : List Nat} {x y : St} : sgK c q x = sgK c p y ↔ c[q]?.getD 0 = c[p]?.getD 0 ∧ agr (fun a b => c[a]?.getD 0 = c[b]?.getD 0) x y := by
  unfold sgK agr; simp only [Prod.mk.injEq]
  constructor
  · rintro ⟨h1, h2, h3⟩
    have hl := congrArg List.length h3; simp only [length_map] at hl; refine ⟨h1, h2, hl, fun i a b ha hb => ?_⟩; have := congrArg (·[i]?) h3; simp only [List.getElem?_map, ha, hb, map_some, Option.some.injEq, Prod.mk.injEq] at this; exact this
  rintro ⟨h1, h2, h3, h4⟩; refine ⟨h1, h2, ext_getElem? fun i => ?_⟩; simp only [List.getElem?_map]
  cases ha : x.arcs[i]? with
  | none =>
    rw [List.getElem?_eq_none (by rw [← h3]; exact List.getElem?_eq_none_iff.1 ha)]
  | some a =>
    have zk : i < y.arcs.length := by rw [← h3]; exact (List.getElem?_eq_some_iff.1 ha).1
    have hb := List.getElem?_eq_getElem zk; obtain ⟨e1, e2, e3, e4⟩ := h4 i a _ ha hb; rw [hb]; simp only [map_some, Option.some.injEq, Prod.mk.injEq]; exact ⟨e1, e2, e3, e4⟩
def clI (sts : List St) (c : List Nat) : Prop := c.length = sts.length ∧ ∀ q p, sim sts q p → c[q]?.getD 0 = c[p]?.getD 0
theorem qQ8 {c : List Nat} (h : clI sts c) (hn : Nmb known ks out) (hks : ∀ (q : Nat) (x : St), sts[q]? = some x → ks[q]? = some (sgK c q x)) (hl : ks.length = sts.length) : clI sts out := by
  refine ⟨hn.len.trans hl, fun q p hs => ?_⟩; obtain ⟨x, y, h1, h2, h3⟩ := qp1 sts q p hs; have k1 := hks q x h1; have k2 := hks p y h2; obtain ⟨i, o1, _⟩ := hn.known_of k1; obtain ⟨j, o2, _⟩ := hn.known_of k2
  have e : sgK c q x = sgK c p y := qC3.2 ⟨h.2 q p hs, qs9 h3 fun a b hab => h.2 a b hab⟩
  rw [o1, o2, (hn.iff k1 k2 o1 o2).2 e]
theorem jr4 (ht : tin sts) {c : List Nat} (h : clI sts c) (hn : Nmb known ks out) (hks : ∀ (q : Nat) (x : St), sts[q]? = some x → ks[q]? = some (sgK c q x)) (hl : ks.length = sts.length) (qQ7 : ∀ j, j < known.length → j ∈ c) {q : Nat} (hq : q < sts.length) (hp : p < sts.length) : out[q]?.getD 0 = out[p]?.getD 0 ↔ sim sts q p := by
  have hc : ∀ (q : Nat) (k : Nat × Int × List (Int × Int × Int × Nat)), ks[q]? = some k → c[q]? = some k.1 := fun q k hk => by
    have zk : q < sts.length := by rw [← hl]; exact (List.getElem?_eq_some_iff.1 hk).1
    have := hks q _ (List.getElem?_eq_getElem zk); rw [hk] at this; rw [Option.some.inj this]; have hlc : q < c.length := by rw [h.1]; exact zk
    rw [List.getElem?_eq_getElem hlc]; simp [sgK, List.getElem?_eq_getElem hlc]
  have bE : ∀ (q p : Nat) (x y : St), sts[q]? = some x → sts[p]? = some y → (out[q]?.getD 0 = out[p]?.getD 0 ↔ sgK c q x = sgK c p y) := fun q p x y hx hy => by
    obtain ⟨i, o1, _⟩ := hn.known_of (hks q x hx); obtain ⟨j, o2, _⟩ := hn.known_of (hks p y hy); rw [o1, o2]; exact hn.iff (hks q x hx) (hks p y hy) o1 o2
  have q46 : ∀ q p, q < sts.length → p < sts.length → c[q]?.getD 0 = c[p]?.getD 0 → out[q]?.getD 0 = out[p]?.getD 0 := fun q p hq hp e => by
    have h1 : c[q]? = some (c[p]?.getD 0) := by rw [← e, List.getElem?_eq_getElem (by rw [h.1]; exact hq)]; rfl
    have h2 : c[p]? = some (c[p]?.getD 0) := by rw [List.getElem?_eq_getElem (by rw [h.1]; exact hp)]; rfl
    rw [hn.same (fun k => k.1) hc qQ7 (h.1.trans hl.symm) h1 h2]
  constructor
  · intro e
    refine ⟨fun q p => q < sts.length ∧ p < sts.length ∧ c[q]?.getD 0 = c[p]?.getD 0, fun q p ⟨hq, hp, e⟩ => ?_, hq, hp, ?_⟩
    · have hx := List.getElem?_eq_getElem hq
      have hy := List.getElem?_eq_getElem hp; obtain ⟨_, a1, a2, a3⟩ := qC3.1 ((bE q p _ _ hx hy).1 (q46 q p hq hp e)); refine ⟨_, _, hx, hy, a1, a2, fun i a b ha hb => ?_⟩; obtain ⟨b1, b2, b3, b4⟩ := a3 i a b ha hb; exact ⟨b1, b2, b3, ht _ (List.getElem_mem hq) a (mem_of_getElem? ha), ht _ (List.getElem_mem hp) b (mem_of_getElem? hb), b4⟩
    exact (qC3.1 ((bE q p _ _ (List.getElem?_eq_getElem hq) (List.getElem?_eq_getElem hp)).1 e)).1
  intro hs; exact (qQ8 h hn hks hl).2 q p hs
def clG (cl : List Nat) (q : Nat) : Nat := cl[q]?.getD 0
def uz (cl : List Nat) (l : List Nat) (t : Nat) : Nat := l.findIdx fun q => decide (clG cl q = clG cl t)
def bN (cl : List Nat) (l : List Nat) : Prop := ∀ (i j q p : Nat), i < j → l[i]? = some q → l[j]? = some p → clG cl q ≠ clG cl p
theorem qH4 (hd : bN cl l) (hj : l[j]? = some q) (hq : clG cl q = clG cl t) : uz cl l t = j := by
  obtain ⟨zk, hg⟩ := List.getElem?_eq_some_iff.1 hj; unfold uz; rw [List.findIdx_eq zk]; refine ⟨by rw [hg]; exact decide_eq_true hq, fun i hi => ?_⟩; have hi' : i < l.length := Nat.lt_trans hi zk; exact decide_eq_false fun h => hd i j _ _ hi (List.getElem?_eq_getElem hi') hj (h.trans hq.symm)
theorem qH5 {l : List Nat} (h : ∀ q ∈ l, clG cl q ≠ clG cl t) : uz cl l t = l.length := by grind [uz, List.findIdx_eq_length]
theorem jr5 {l : List Nat} (h : uz cl l t = l.length) : ∀ q ∈ l, clG cl q ≠ clG cl t := by grind [uz, List.findIdx_eq_length]
theorem qQ9 (hd : bN cl l) (h : uz cl l t = l.length) : bN cl (l ++ [t]) := by
  intro i j q p hij hi hj
  rcases Nat.lt_trichotomy j l.length with zk | rfl | hgt
  · rw [List.getElem?_append_left zk] at hj
    rw [List.getElem?_append_left zg] at hi; exact hd i j q p hij hi hj
  · grind [List.getElem?_append_left, jr5, mem_of_getElem?]
  grind
def qa5 (cl l : List Nat) (a : Ar) : Ar := ⟨a.i, a.o, a.w, uz cl l a.t.toNat⟩
def q36 (cl l : List Nat) (a : Ar) : List Nat := if uz cl l a.t.toNat = l.length then l ++ [a.t.toNat] else l
def wQ (cl : List Nat) : List Nat → List Ar → List Ar → List Nat × List Ar
  | l, [], o => (l, o)
  | l, a :: r, o => wQ cl (q36 cl l a) r (o ++ [qa5 cl l a])
def gG (sts : List St) (cl : List Nat) : Nat → List Nat → List St → List St
  | 0, _, out => out
  | n + 1, l, out => match l[out.length]? with
    | none => out
    | some q => gG sts cl n (wQ cl l (sts[q]?.getD ⟨0, []⟩).arcs []).1 (out ++ [⟨(sts[q]?.getD ⟨0, []⟩).fin, (wQ cl l (sts[q]?.getD ⟨0, []⟩).arcs []).2⟩])
def ql0 (cl l : List Nat) (num : List Int) : Prop := (∀ (c : Nat) (v : Int), num[c]? = some v → (v < 0 ↔ ∀ q ∈ l, clG cl q ≠ c)) ∧ ∀ (c : Nat) (v : Int), num[c]? = some v → 0 ≤ v → ∃ q, l[v.toNat]? = some q ∧ clG cl q = c
theorem jr6 {v : Int} (h : ql0 cl l num) (hd : bN cl l) (hv : num[clG cl t]? = some v) (h0 : ¬ v < 0) : uz cl l t = v.toNat ∧ v.toNat < l.length := by
  obtain ⟨q, h1, h2⟩ := h.2 _ v hv zg; exact ⟨qH4 hd h1 h2, (List.getElem?_eq_some_iff.1 h1).1⟩
theorem jr7 {v : Int} (h : ql0 cl l num) (hv : num[clG cl t]? = some v) (h0 : v < 0) : uz cl l t = l.length := qH5 ((h.1 _ v hv).1 h0)
theorem qR0 (h : ql0 cl l num) (hn : uz cl l t = l.length) : ql0 cl (l ++ [t]) (num.set (clG cl t) l.length) := by
  refine ⟨fun c v hv => ?_, fun c v hv h0 => ?_⟩
  · by_cases e : clG cl t = c
    · grind
    rw [List.getElem?_set_ne e] at hv; rw [h.1 c v hv]
    constructor
    · grind
    grind
  by_cases e : clG cl t = c
  · grind
  rw [List.getElem?_set_ne e] at hv; obtain ⟨q, h1, h2⟩ := h.2 c v hv h0; have zk := (List.getElem?_eq_some_iff.1 h1).1; exact ⟨q, by rw [List.getElem?_append_left zk]; exact h1, h2⟩
theorem Nmb.le {κ : Type} {known ks : List κ} (h : Nmb known ks out) : known.length ≤ ks.length := by
  rw [← h.len]; exact q82 _ _ h.cover
theorem Nmb.lt {κ : Type} {known ks : List κ} (h : Nmb known ks out) (hj : out[q]? = some j) : j < known.length := by
  have zk : q < ks.length := by rw [← h.len]; exact (List.getElem?_eq_some_iff.1 hj).1
  exact (List.getElem?_eq_some_iff.1 (h.at_ q _ j (List.getElem?_eq_getElem zk) hj)).1
theorem Nmb.ge {κ : Type} {known ks : List κ} (h : Nmb known ks out) {c : List Nat} (g : κ → Nat) (hc : ∀ (q : Nat) (k : κ), ks[q]? = some k → c[q]? = some (g k)) (qQ7 : ∀ j, j < m → j ∈ c) (hl : c.length = ks.length) : m ≤ known.length := by
  have := q82 m (known.map g) fun j hj => by
    obtain ⟨r, hr⟩ := List.getElem?_of_mem (qQ7 j hj); have zk : r < ks.length := by rw [← hl]; exact (List.getElem?_eq_some_iff.1 hr).1
    have hk := List.getElem?_eq_getElem zk; have e := hc r _ hk; rw [hr] at e; obtain ⟨i', _, xU⟩ := h.known_of hk; rw [Option.some.inj e]; exact List.mem_map_of_mem (mem_of_getElem? xU)
  rw [length_map] at this; exact this
theorem qa6 : ∀ (m : Nat) (l : List Nat), l.Nodup → (∀ x ∈ l, x < m) → l.length ≤ m
  | 0, l, _, h => by
    cases l with
    | nil => exact le_refl 0
    | cons x l => exact absurd (h x mem_cons_self) (Nat.not_lt_zero x)
  | m + 1, l, hn, h => by
    by_cases hm : m ∈ l
    · obtain ⟨l', h1, h2, _⟩ := qt0 hm
      have hn' := h2.nodup_iff.1 hn; rw [List.nodup_cons] at hn'
      have := qa6 m l' hn'.2 fun x hx => by grind
      omega
    have := qa6 m l hn fun x hx => by grind
    omega
theorem qH6 {cl : List Nat} : ∀ {l : List Nat}, bN cl l → (l.map (clG cl)).Nodup
  | [], _ => List.nodup_nil
  | x :: l, h => by
    rw [map_cons, List.nodup_cons]
    refine ⟨fun hm => ?_, qH6 fun i j q p hij hi hj => h (i + 1) (j + 1) q p zg (by simpa using hi) (by simpa using hj)⟩
    obtain ⟨y, hy, e⟩ := List.mem_map.1 hm; obtain ⟨i, hi⟩ := List.getElem?_of_mem hy; exact h 0 (i + 1) x y zg rfl (by simpa using hi) e.symm
theorem jE1 {l : List Nat} (h : bN cl l) (hm : ∀ q ∈ l, clG cl q < m) : l.length ≤ m := by
  have := qa6 m (l.map (clG cl)) (qH6 h) fun x hx => by grind
  rw [length_map] at this; exact this
def apP (T : Nat → Nat → Prop) (x y : St) : Prop := ¬ agr (fun q p => ¬ T q p) x y
def qC4 (sts : List St) (T : Nat → Nat → Prop) : Prop := ∀ q p, T q p → ¬ sim sts q p
theorem jr8 (h : qC4 sts T) {x y : St} (hx : sts[q]? = some x) (hy : sts[p]? = some y) (ha : apP T x y) : qC4 sts fun a b => T a b ∨ (a = q ∧ b = p) := fun a b hab => by
  rcases hab with hab | ⟨rfl, rfl⟩
  · exact h a b hab
  exact jh7 h hx hy ha
theorem jh8 (ht : tin sts) (h : qC4 sts T) (hd : ∀ (q p : Nat) (x y : St), sts[q]? = some x → sts[p]? = some y → ¬ T q p → ¬ apP T x y) {q p : Nat} (hq : q < sts.length) (hp : p < sts.length) : ¬ T q p ↔ sim sts q p := by
  refine jr3 h (fun q p x y hx hy hT => ?_) hq hp
  have ha : agr (fun q p => ¬ T q p) x y := Classical.not_not.1 (hd q p x y hx hy hT)
  exact ⟨ha.1, ha.2.1, fun i a b h1 h2 => by
    obtain ⟨e1, e2, e3, e4⟩ := ha.2.2 i a b h1 h2
    exact ⟨e1, e2, e3, ht x (mem_of_getElem? hx) a (mem_of_getElem? h1), ht y (mem_of_getElem? hy) b (mem_of_getElem? h2), e4⟩⟩
section
variable (Init : Nat → Prop) (Edge : Nat → Nat → Prop)
inductive Rch : Nat → Prop
  | init (q : Nat) (h : Init q) : Rch q
  | step (q p : Nat) (h : Rch q) (e : Edge q p) : Rch p
def jr9 (L : List Bool) (x : Nat) : Prop := Init x ∨ ∃ y, L[y]? = some true ∧ Edge y x
def ql1 (L : List Bool) : Prop := ∀ x, L[x]? = some true → Rch Init Edge x
def qC5 (L : List Bool) : Prop := ∀ x, x < L.length → jr9 Init Edge L x → L[x]? = some true
open Classical in
noncomputable def gj (n : Nat) : List Bool := (List.range n).map fun q => decide (Rch Init Edge q)
variable {Init : Nat → Prop} {Edge : Nat → Nat → Prop} {L : List Bool} {n : Nat}
theorem qf5 : (gj Init Edge n).length = n := by simp [gj]
theorem js0 (hq : q < n) : (gj Init Edge n)[q]? = some true ↔ Rch Init Edge q := by
  simp [gj, List.getElem?_map, List.getElem?_range hq]
theorem qR1 (hl : L.length = n) (w3 : ∀ x, Rch Init Edge x → x < n) (hs : ql1 Init Edge L) (hc : qC5 Init Edge L) : L = gj Init Edge n := by
  have hR : ∀ x, Rch Init Edge x → L[x]? = some true := by
    intro x hx
    induction hx with
    | init q h => exact hc q (by rw [hl]; exact w3 q (.init q h)) (.inl h)
    | step q p h e ih => exact hc p (by rw [hl]; exact w3 p (.step q p h e)) (.inr ⟨q, ih, e⟩)
  refine ext_getElem? fun q => ?_
  by_cases hq : q < n
  · have h1 := js0 (Init := Init) (Edge := Edge) hq
    have zk : q < L.length := by omega
    have xn : q < (gj Init Edge n).length := by rw [qf5]; exact hq
    rw [List.getElem?_eq_getElem zk, List.getElem?_eq_getElem xn] at *; have h2 : L[q] = true → Rch Init Edge q := fun h => hs q (by rw [List.getElem?_eq_getElem zk, h]); have h3 : Rch Init Edge q → L[q] = true := fun h => by have := hR q h; rw [List.getElem?_eq_getElem zk] at this; simpa using this
    have h4 : (gj Init Edge n)[q] = true ↔ Rch Init Edge q := by simpa using h1
    congr 1
    cases h5 : L[q] <;> cases h6 : (gj Init Edge n)[q]
    · rfl
    · exact absurd (h3 (h4.1 h6)) (by simp [h5])
    · exact absurd (h4.2 (h2 h5)) (by simp [h6])
    rfl
  grind [List.getElem?_eq_none, qf5]
theorem yh {x y : Nat} (h : L[y]? = some true) : (L.set x true)[y]? = some true := by grind
theorem ql2 {x y : Nat} (h : (L.set x true)[y]? = some true) : y = x ∨ L[y]? = some true := by grind
theorem js1 {x : Nat} (h : L[x]? = some true) : L.set x true = L := by
  refine ext_getElem? fun y => ?_; rw [List.getElem?_set]
  split
  · grind
  rfl
theorem q18 : ∀ (L : List Bool) {x : Nat}, L[x]? = some false → (L.set x true).count true = L.count true + 1 ∧ (L.set x true).count false + 1 = L.count false
  | [], x, h => by simp at h
  | b :: L, 0, h => by simp at h; subst h; simp
  | b :: L, x + 1, h => by grind
theorem qH7 {x : Nat} (hs : ql1 Init Edge L) (hj : jr9 Init Edge L x) : ql1 Init Edge (L.set x true) := by
  intro y hy
  rcases ql2 hy with rfl | h
  · rcases hj with h | ⟨z, h1, h2⟩
    · exact .init _ h
    exact .step _ _ (hs z h1) h2
  exact hs y h
def Rnd (Init : Nat → Prop) (Edge : Nat → Nat → Prop) (n k : Nat) (D : List Bool → Prop) (L : List Bool) : Prop := L.length = n ∧ ql1 Init Edge L ∧ (qC5 Init Edge L ∨ k + 1 ≤ L.count true ∨ k ≤ L.count true ∧ D L)
theorem Rnd.skip {D D' : List Bool → Prop} (h : Rnd Init Edge n k D L) (hd : D L → D' L) : Rnd Init Edge n k D' L := by
  obtain ⟨h1, h2, h3⟩ := h
  exact ⟨h1, h2, h3.imp_right (Or.imp_right fun h => ⟨h.1, hd h.2⟩)⟩
theorem Rnd.set {k x : Nat} {D D' : List Bool → Prop} (h : Rnd Init Edge n k D L) (hx : x < n) (hj : jr9 Init Edge L x) (hd : L[x]? = some true → D L → D' L) : Rnd Init Edge n k D' (L.set x true) := by
  obtain ⟨h1, h2, h3⟩ := h; have zk : x < L.length := by omega
  by_cases hb : L[x]? = some true
  · rw [js1 hb]
    exact ⟨h1, h2, h3.imp_right (Or.imp_right fun h => ⟨h.1, hd hb h.2⟩)⟩
  have hf : L[x]? = some false := by grind
  have hc := (q18 L hf).1; refine ⟨by simpa using h1, qH7 h2 hj, .inr (.inl ?_)⟩
  rcases h3 with h3 | h3 | h3
  · exact absurd (h3 x zk hj) hb
  · omega
  omega
theorem Rnd.next {D D' : List Bool → Prop} (h : Rnd Init Edge n k D L) (hd : D L → qC5 Init Edge L) (h0 : ∀ L, D' L) : Rnd Init Edge n (k + 1) D' L := by
  obtain ⟨h1, h2, h3⟩ := h; refine ⟨h1, h2, ?_⟩
  rcases h3 with h3 | h3 | h3
  · exact .inl h3
  · exact .inr (.inr ⟨h3, h0 L⟩)
  exact .inl (hd h3.2)
theorem Rnd.done {D : List Bool → Prop} (h : Rnd Init Edge n k D L) (hk : n < k) (w3 : ∀ x, Rch Init Edge x → x < n) : L = gj Init Edge n := by
  obtain ⟨h1, h2, h3⟩ := h; have hc : L.count true ≤ n := by rw [← h1]; exact List.count_le_length
  refine qR1 h1 w3 h2 ?_
  rcases h3 with h3 | h3 | h3
  · exact h3
  · omega
  omega
theorem Rnd.start {D : List Bool → Prop} (h0 : ∀ L, D L) : Rnd Init Edge n 0 D (List.replicate n false) :=
  ⟨by simp, fun x hx => by simp [List.getElem?_replicate] at hx, .inr (.inr ⟨by omega, h0 _⟩)⟩
structure Fld (Init : Nat → Prop) (Edge : Nat → Nat → Prop) (n : Nat) (X : Nat → Prop) (L : List Bool) (todo : List Nat) : Prop where
  len : L.length = n
  sound : ql1 Init Edge L
  sub : ∀ x ∈ todo, L[x]? = some true
  edge : ∀ x p, L[x]? = some true → x ∉ todo → ¬ X x → Edge x p → p < n → L[p]? = some true
theorem Fld.done {X : Nat → Prop} (h : Fld Init Edge n X L todo) (ht : todo = []) (hX : ∀ x, ¬ X x) (hi : ∀ x, Init x → L[x]? = some true) (w3 : ∀ x, Rch Init Edge x → x < n) : L = gj Init Edge n :=
  qR1 h.len w3 h.sound fun x hx hj => by
    rcases hj with hj | ⟨y, h1, h2⟩
    · exact hi x hj
    exact h.edge y x h1 (by simp [ht]) (hX y) h2 (by rw [← h.len]; exact hx)
theorem Fld.take (h : Fld Init Edge n (fun _ => False) L (todo ++ [q])) : L[q]? = some true ∧ Fld Init Edge n (fun x => x = q) L todo :=
  ⟨h.sub q zx, h.len, h.sound, fun x hx => h.sub x (by simp [hx]), fun x p h1 h2 h3 h4 h5 => h.edge x p h1 (by simp [h2]; exact h3) zx h4 h5⟩
theorem Fld.push (h : Fld Init Edge n (fun x => x = q) L todo) (hq : L[q]? = some true) (he : Edge q p) (hp : L[p]? = some false) : Fld Init Edge n (fun x => x = q) (L.set p true) (todo ++ [p]) := by
  have wa : p < L.length := (List.getElem?_eq_some_iff.1 hp).1; refine ⟨by simpa using h.len, qH7 h.sound (.inr ⟨q, hq, he⟩), fun x hx => ?_, fun x r h1 h2 h3 h4 h5 => ?_⟩
  · rcases List.mem_append.1 hx with h1 | h1
    · exact yh (h.sub x h1)
    grind
  have hxp : x ≠ p := by rintro rfl; exact h2 zx
  rcases ql2 h1 with e | h1
  · exact absurd e hxp
  exact yh (h.edge x r h1 (fun hm => h2 (by simp [hm])) h3 h4 h5)
theorem Fld.settle (h : Fld Init Edge n (fun x => x = q) L todo) (hq : ∀ p, Edge q p → p < n → L[p]? = some true) : Fld Init Edge n (fun _ => False) L todo :=
  ⟨h.len, h.sound, h.sub, fun x p h1 h2 _ h4 h5 => by
    by_cases e : x = q
    · subst e; exact hq p h4 h5
    exact h.edge x p h1 h2 e h4 h5⟩
theorem Fld.start {todo : List Nat} (hl : L.length = n) (h1 : ∀ x, L[x]? = some true ↔ x ∈ todo) (h2 : ∀ x ∈ todo, Init x) : Fld Init Edge n (fun _ => False) L todo :=
  ⟨hl, fun x hx => .init x (h2 x ((h1 x).1 hx)), fun x hx => (h1 x).2 hx, fun x p h3 h4 _ _ _ => absurd ((h1 x).1 h3) h4⟩
end
def yb (m : zr) (q : Nat) : Prop := m.start = (q : Int) ∧ q < m.states.length
def uQ (m : zr) (q p : Nat) : Prop := ∃ s a, m.states[q]? = some s ∧ a ∈ s.arcs ∧ a.t = (p : Int)
def yc (m : zr) (q : Nat) : Prop := ∃ s, m.states[q]? = some s ∧ s.fin ≠ 1000000001
def uR (m : zr) (q p : Nat) : Prop := ∃ s a, m.states[p]? = some s ∧ a ∈ s.arcs ∧ a.t = (q : Int)
noncomputable def wE (m : zr) : List Bool := if zn m = 0 then gj (yb m) (uQ m) m.states.length else []
noncomputable def yU (m : zr) : List Bool := if zn m = 0 then gj (yc m) (uR m) m.states.length else []
theorem yq : ∀ (l : List St) (s : St), s ∈ l → s.arcs.length ≤ xp l
  | [], s, h => by cases h
  | y :: l, s, h => by
    rcases List.mem_cons.1 h with rfl | h
    · simp [xp]
    have := yq l s h; simp [xp] at this ⊢; omega
abbrev vG (a : Ar) : List V := (arD a).map V.d
abbrev xT (s : St) : List V := (stD s).map V.d
abbrev vp (x : Nat) : List D := [.p (.int .i64 (x : Int))]
def gH {α : Type} (f : α → α) (k : Nat) (l : List α) : List α := (l.take k).map f ++ l.drop k
theorem js2 {α : Type} (f : α → α) (k : Nat) (l : List α) : (gH f k l).length = l.length := by simp [gH]; omega
theorem qR2 {α : Type} {f : α → α} {l : List α} {x : α} (h : l[k]? = some x) : (gH f k l)[k]? = some x := by
  have hk := (List.getElem?_eq_some_iff.1 h).1; unfold gH; rw [List.getElem?_append_right (by simp; omega)]; simp only [length_map, length_take, Nat.min_eq_left (Nat.le_of_lt hk), Nat.sub_self]
  simpa using h
theorem qR3 {α : Type} {f : α → α} {l : List α} {x : α} (h : l[k]? = some x) : (gH f k l).set k (f x) = gH f (k + 1) l := by
  have hk := (List.getElem?_eq_some_iff.1 h).1; unfold gH; rw [List.set_append_right _ _ (by simp; omega)]; simp only [length_map, length_take, Nat.min_eq_left (Nat.le_of_lt hk), Nat.sub_self]; have hd : l.drop k = x :: l.drop (k + 1) := by grind [drop_eq_getElem_cons, List.getElem?_eq_some_iff]
  rw [hd, set_cons_zero, List.take_add_one, h]; simp
theorem jh9 {α : Type} {f : α → α} {l : List α} {x : α} (h : l[k]? = some x) (hx : f x = x) : gH f k l = gH f (k + 1) l := by
  rw [← qR3 h, hx]; refine ext_getElem? fun i => ?_; rw [List.getElem?_set]
  split
  · grind [qR2, List.getElem?_eq_some_iff]
  rfl
theorem ji0 {α : Type} (f : α → α) (l : List α) : gH f 0 l = l := by simp [gH]
theorem ji1 {α : Type} (f : α → α) {l : List α} (hk : l.length ≤ k) : gH f k l = l.map f := by simp [gH, List.take_of_length_le hk, List.drop_of_length_le hk]
theorem j14 : ∀ (L : List Bool) {x : Nat}, L[x]? = some true → (L.set x false).count true + 1 = L.count true
  | [], x, h => by simp at h
  | b :: L, 0, h => by simp at h; subst h; simp
  | b :: L, x + 1, h => by grind
def bl {α : Type} (g : Nat → α) (n : Nat) : List α := (List.range n).map g
theorem w4 {α : Type} (g : Nat → α) (n : Nat) : (bl g n).length = n := by simp [bl]
theorem w8 {α : Type} {g : Nat → α} {n : Nat} (h : q < n) : (bl g n)[q]? = some (g q) := by simp [bl, List.getElem?_range h]
theorem yx {α : Type} {g : Nat → α} {n : Nat} {x : α} (h : (bl g n)[q]? = some x) : q < n ∧ x = g q := by grind [List.getElem?_eq_some_iff, bl, w8]
theorem bf {α : Type} {g g' : Nat → α} {n : Nat} {x : α} (h : p < n) (hx : g' p = x) (ho : ∀ q, q < n → q ≠ p → g q = g' q) : (bl g n).set p x = bl g' n := by
  refine ext_getElem? fun i => ?_; rw [List.getElem?_set]
  by_cases e : p = i
  · grind [w4, w8]
  grind [w8, List.getElem?_eq_none, w4]
theorem wh {α : Type} {g g' : Nat → α} {n : Nat} (h : ∀ q, q < n → g q = g' q) : bl g n = bl g' n := List.map_congr_left fun q hq => h q (List.mem_range.1 hq)
theorem ql3 {α : Type} (n : Nat) (x : α) : List.replicate n x = bl (fun _ => x) n := by
  refine ext_getElem? fun i => ?_
  by_cases hi : i < n
  · rw [w8 hi]; simp [List.getElem?_replicate, hi]
  grind [List.getElem?_eq_none, w4]
def stA (sts : List St) (q : Nat) : List Ar := (sts.getD q ⟨0, []⟩).arcs
theorem wo {x : St} (h : sts[q]? = some x) : stA sts q = x.arcs := by simp [stA, List.getD_eq_getElem?_getD, h]
structure Mk where
  s : Int
  w : Int
  o : List Int
structure Rn where
  f : Int
  ms : List Mk
def yX (a b : Int) : Int := if a < b then -1 else if b < a then 1 else 0
theorem ji2 (a : Int) : yX a a = 0 := by simp [yX]
theorem jE2 {a b : Int} (h : a ≠ b) : yX a b ≠ 0 := by unfold yX; split <;> (try split) <;> omega
theorem js3 {a b : Int} : (yX a b < 0) ↔ a < b := by unfold yX; split <;> (try split) <;> omega
def orI : List Int → Int
  | [] => 0
  | a :: l => if a = 0 then orI l else a
theorem qR4 {l : List Int} {x : Int} (hx : l[k]? = some x) (h : x = 0) : orI (l.drop k) = orI (l.drop (k + 1)) := by grind [List.getElem?_eq_some_iff, List.drop_eq_getElem_cons, List.getElem?_eq_getElem, Option.some.injEq, orI]
theorem j38 {l : List Int} {x : Int} (hx : l[k]? = some x) (h : x ≠ 0) : orI (l.drop k) = x := by grind [List.getElem?_eq_some_iff, List.drop_eq_getElem_cons, List.getElem?_eq_getElem, Option.some.injEq, orI]
theorem j39 {l : List Int} (h : l.length ≤ k) : orI (l.drop k) = 0 := by rw [List.drop_of_length_le h]; rfl
inductive Cv (s s' : S) (ρ : Nat → Nat) : V → V → Prop
  | d (x : D) : Cv s s' ρ (.d x) (.d x)
  | ad (row : List D) : Cv s s' ρ (.ad row) (.ad row)
  | ref (k o : Nat) : Cv s s' ρ (.ref k o) (.ref (ρ k) o)
  | own (k sz n : Nat) (f : Bool) : Cv s s' ρ (.own k sz n f) (.own (ρ k) sz n f)
  | nil (k sz : Nat) : Cv s s' ρ (.own k sz 0 true) .nil
  | nil2 (k k' sz : Nat) : Cv s s' ρ (.own k sz 0 true) (.own k' sz 0 true)
  | junk (v : V) : Cv s s' ρ .junk v
  | same (v : V) (h : ∀ r, v.has r = true → ρ r = r) : Cv s s' ρ v v
  | frz (r sz n bt : Nat) (f : Bool) (row : Row) (rows : List (List D)) (hr : fnd s.H r = some row) (hf : row.nil = f) (zI : rows.length = n) (hn : n * bt ≤ 140737488355328)
      (ww : ∀ (i j : Nat) (l : List D) (u : D), rows[i]? = some l → l[j]? = some u → row.cells[i * sz + j]? = some (.d u)) (hz : ∀ k row', fnd s'.H k = some row' → row'.nil = false → ρ k ≠ r) : Cv s s' ρ (.d (.sl sz bt rows)) (.own r sz n f)
  | agg (l' l : List V) (hl : l'.length = l.length) (h : ∀ (j : Nat) (u v : V), l'[j]? = some u → l[j]? = some v → Cv s s' ρ u v) : Cv s s' ρ (.agg l') (.agg l)
  | fn (f : FuncId) (l' l : List V) (hl : l'.length = l.length) (h : ∀ (j : Nat) (u v : V), l'[j]? = some u → l[j]? = some v → Cv s s' ρ u v) : Cv s s' ρ (.fn f l') (.fn f l)
section
variable {c : Cx} {s s' : S} {g : Nat → Nat × Nat} {a : Act} {w : World} {ρ : Nat → Nat}
theorem Sim.conv (h : Sim c g s a w) (ρ : Nat → Nat) (hn : s'.n = s.n)
    (hT : ∀ (i : Nat) (v' : V), fnd s'.T i = some v' → ∃ v, fnd s.T i = some v ∧ Cv s s' ρ v' v)
    (hH : ∀ (r : Nat) (row' : Row), fnd s'.H r = some row' → row'.nil = true ∧ row'.cells = [] ∨ row'.nil = false ∧ ∃ row, fnd s.H (ρ r) = some row ∧ row.nil = false ∧ row'.ty = row.ty ∧ row'.sz = row.sz ∧ ∀ (j : Nat) (v' : V), row'.cells[j]? = some v' → ∃ v, row.cells[j]? = some v ∧ Cv s s' ρ v' v)
    (hK : ∀ (j : Nat) (v' : V), s'.K[j]? = some v' → ∃ v, s.K[j]? = some v ∧ Cv s s' ρ v' v)
    (k49 : ∀ r r' row row', fnd s'.H r = some row → row.nil = false → fnd s'.H r' = some row' → row'.nil = false → ρ r = ρ r' → r = r') : Sim c (fun k => g (ρ k)) s' a w := by
  have qx3 : ∀ r row', fnd s'.H r = some row' → row'.nil = false → ∃ row, fnd s.H (ρ r) = some row ∧ row.nil = false := by grind
  have hq : ∀ b, qt c s.H g b → b < w.heap.size → qt c s'.H (fun k => g (ρ k)) b := fun b hb _ => ⟨hb.1, fun r row' hr hrn => by
    obtain ⟨row, h1, h2⟩ := qx3 r row' hr hrn
    exact hb.2 (ρ r) row h1 h2⟩
  have hm : ∀ {v' v}, Cv s s' ρ v' v → ∀ {x}, VRep w (qt c s.H g) g v x → VRep w (qt c s'.H (fun k => g (ρ k))) (fun k => g (ρ k)) v' x := by
    intro v' v hc
    induction hc with
    | d x => intro y hy; cases hy with | d _ _ h1 => exact .d _ _ (h1.mono Cells.rfl hq)
    | ad row =>
      intro y hy
      cases hy with
      | ad _ b o f h1 h2 h3 => exact .ad _ b o f ⟨hq b h1.1 h1.2, h1.2⟩ h2 fun j u hu => (h3 j u hu).mono Cells.rfl hq
    | ref k o =>
      intro y hy
      cases hy with
      | ref => exact VRep.ref (g := fun k => g (ρ k)) k o
    | own k sz n f =>
      intro y hy
      cases hy with
      | own _ _ _ h1 h2 => exact VRep.own (g := fun k => g (ρ k)) k sz n h1 h2
      | ownNil => exact .ownNil k sz
    | nil k sz =>
      intro y hy; rw [VRep.p_eq hy]; exact .ownNil k sz
    | nil2 k k' sz =>
      intro y hy
      cases hy
      exact .ownNil k sz
    | junk v => intro y _; exact .junk _
    | same v hv => intro y hy; exact hy.mono Cells.rfl hq (fun r hr => by rw [hv r hr])
    | frz r sz n bt f row rows hr hf zI hn ww hz =>
      intro y hy; refine .d _ _ ?_
      cases hy with
      | own _ _ _ hle vK =>
        obtain ⟨arr, h3, _, h4⟩ := h.obj r row hr hf; subst zI
        have hob : ¬ c.out (g r).1 := fun ho => by
          have h5 := h.low _ ho; have h6 := h.base r row hr hf; omega
        refine .sl sz bt rows _ _ (g r).1 0 (fun i j => arr.getD (i * sz + j) undef) zg (fun _ => ⟨rfl, ⟨hob, fun k row' hk xU e => ?_⟩, (Array.getElem?_eq_some_iff.1 h3).1⟩) hn ?_ ?_
        · obtain ⟨row2, k1, k2⟩ := qx3 k row' hk xU
          exact hz k row' hk xU (h.inj (ρ k) r _ _ k1 k2 hr hf e)
        · intro i j l u hi hj
          obtain ⟨y, h5, h6⟩ := h4 _ _ (ww i j l u hi hj); rw [zero_add, cell_of_row w _ _ _ _ _ h3, h5]; simp [Array.getD_eq_getD_getElem?, h5]
        intro i j l u hi hj; obtain ⟨y, h5, h6⟩ := h4 _ _ (ww i j l u hi hj)
        cases h6 with
        | d _ _ h7 => simpa [Array.getD_eq_getD_getElem?, h5] using h7.mono Cells.rfl hq
      | ownNil =>
        have : rows = [] := by simpa using zI
        subst this
        exact .sl sz bt [] none 0 0 0 (fun _ _ => undef) (le_refl 0) (fun h => absurd rfl h) zx zx zx
    | agg l' l hl hh ih =>
      intro y hy
      cases hy with
      | agg _ cs zI h2 =>
        refine .agg _ cs zg fun j u z hu hz => ?_; have hj : j < l.length := by rw [← hl]; exact (List.getElem?_eq_some_iff.1 hu).1
        exact ih j u l[j] hu (List.getElem?_eq_getElem hj) (h2 j _ z (List.getElem?_eq_getElem hj) hz)
    | fn f l' l hl hh ih =>
      intro y hy
      cases hy with
      | fn _ _ cs zI h2 =>
        refine .fn _ _ cs zg fun j u z hu hz => ?_; have hj : j < l.length := by rw [← hl]; exact (List.getElem?_eq_some_iff.1 hu).1
        exact ih j u l[j] hu (List.getElem?_eq_getElem hj) (h2 j _ z (List.getElem?_eq_getElem hj) hz)
  refine ⟨by rw [hn]; exact h.size, h.defers, ?_, ?_, ?_, ?_, ?_, ?_, h.low, h.below⟩
  · intro i v' hv
    obtain ⟨v, h1, h2⟩ := hT i v' hv; obtain ⟨x, h3, h4⟩ := h.tmp i v h1; exact ⟨x, h3, hm h2 h4⟩
  · grind
  · intro r row' hr hrn
    rcases hH r row' hr with ⟨h1, _⟩ | ⟨_, row, h1, h2, h3, h4, h5⟩
    · rw [hrn] at h1; cases h1
    obtain ⟨arr, h6, h7, h8⟩ := h.obj (ρ r) row h1 h2; refine ⟨arr, by rw [h3]; exact h6, by rw [h4]; exact h7, fun j v' hv => ?_⟩; obtain ⟨v, h9, h10⟩ := h5 j v' hv; obtain ⟨x, h11, h12⟩ := h8 j v h9; exact ⟨x, h11, hm h10 h12⟩
  · intro j v' x h1 h2
    obtain ⟨v, h3, h4⟩ := hK j v' h1; exact hm h4 (h.keep j v x h3 h2)
  · intro r r' row1 row2 h1 n1 h2 n2 h3
    obtain ⟨r1, k1, m1⟩ := qx3 r row1 h1 n1; obtain ⟨r2, k2, m2⟩ := qx3 r' row2 h2 n2; exact k49 r r' _ _ h1 n1 h2 n2 (h.inj _ _ _ _ k1 m1 k2 m2 h3)
  intro r row' h1 n1; obtain ⟨r1, k1, m1⟩ := qx3 r row' h1 n1; exact h.base (ρ r) _ k1 m1
end
structure Fam (β : Type) where
  ty : TypeId
  sz : Nat
  bt : Nat
  pre : β → List D
  it : β → List (List D)
section
variable {β : Type} (F : Fam β)
def Fam.row (x : β) : Row := ⟨F.ty, (F.it x).flatten.map V.d, (F.it x).isEmpty, F.sz⟩
def Fam.ownV (k : Nat) (x : β) : V := .own k F.sz (F.it x).length (F.it x).isEmpty
def Fam.cells : Nat → List β → List V
  | _, [] => []
  | k, x :: l => (F.pre x).map V.d ++ F.ownV k x :: Fam.cells (k + 1) l
def Fam.objs : Nat → List β → List (Nat × Row)
  | _, [] => []
  | k, x :: l => (k, F.row x) :: Fam.objs (k + 1) l
def Fam.data (x : β) : List D := F.pre x ++ [.sl F.sz F.bt (F.it x)]
variable {F}
theorem Fam.objs_get : ∀ (l : List β) (k p : Nat), fnd (F.objs k l) (k + p) = (l[p]?).map F.row
  | [], k, p => by simp [Fam.objs, fnd]
  | x :: l, k, 0 => by simp [Fam.objs, fnd]
  | x :: l, k, p + 1 => by
    have := Fam.objs_get l (k + 1) p; simp only [Fam.objs, fnd]
    rw [if_neg zx, show k + (p + 1) = k + 1 + p by omega, this]
    simp
theorem Fam.objs_low : ∀ (l : List β) (k r : Nat), r < k → fnd (F.objs k l) r = none
  | [], k, r, h => by simp [Fam.objs, fnd]
  | x :: l, k, r, h => by
    simp only [Fam.objs, fnd]; rw [if_neg (by simp; omega)]; exact Fam.objs_low l (k + 1) r zg
theorem Fam.objs_inv {l : List β} {row : Row} (h : fnd (F.objs k l) r = some row) : ∃ p x, r = k + p ∧ l[p]? = some x ∧ row = F.row x := by
  have hr : k ≤ r := by grind [Fam.objs_low]
  obtain ⟨p, rfl⟩ : ∃ p, r = k + p := ⟨r - k, by omega⟩; rw [Fam.objs_get] at h
  cases hx : l[p]? with
  | none => rw [hx] at h; cases h
  | some x => rw [hx] at h; simp at h; exact ⟨p, x, rfl, hx, h.symm⟩
theorem q83 (r : Nat) (l : List D) : V.hasL r (l.map V.d) = false := by simp [V.hasL_false, V.has]
theorem Fam.cells_hasL : ∀ (l : List β) (k r : Nat), r < k → V.hasL r (F.cells k l) = false
  | [], k, r, h => rfl
  | x :: l, k, r, h => by
    have hkr : (k == r) = false := by simp; omega
    simp only [Fam.cells, zA, q83, V.hasL, Fam.ownV, V.has, hkr, Bool.false_or]; exact Fam.cells_hasL l (k + 1) r zg
theorem Fam.row_hasL (x : β) (r : Nat) : V.hasL r (F.row x).cells = false := q83 _ _
theorem Fam.objs_clean : ∀ (l : List β) (k r : Nat), r < k → (F.objs k l).all (fun x => x.1 != r && !V.hasL r x.2.cells) = true
  | [], k, r, h => rfl
  | x :: l, k, r, h => by
    simp only [Fam.objs, all_cons, Fam.row_hasL, Bool.not_false, Bool.and_true]; rw [Fam.objs_clean l (k + 1) r zg]; simp; omega
theorem Fam.objs_filter : ∀ (l : List β) (k r : Nat), r < k → (F.objs k l).filter (fun x => x.1 != r) = F.objs k l
  | [], k, r, h => rfl
  | x :: l, k, r, h => by
    simp only [Fam.objs, filter_cons]; rw [if_pos (by simp; omega), Fam.objs_filter l (k + 1) r zg]
theorem Fam.objs_forget : ∀ (l : List β) (k r : Nat), (F.objs k l).map (fun x => (x.1, ({ x.2 with cells := if V.hasL r x.2.cells then x.2.cells.map (zV r) else x.2.cells } : Row))) = F.objs k l
  | [], k, r => rfl
  | x :: l, k, r => by
    simp only [Fam.objs, map_cons, Fam.row_hasL, false_eq_true, if_false]; rw [Fam.objs_forget l (k + 1) r]
theorem Fam.cells_len {m : Nat} (hm : ∀ x, (F.pre x).length = m) : ∀ (l : List β) (k : Nat), (F.cells k l).length = l.length * (m + 1)
  | [], k => by simp [Fam.cells]
  | x :: l, k => by
    simp only [Fam.cells, length_append, length_map, length_cons, hm, Fam.cells_len hm l (k + 1)]; rw [succ_mul]; omega
theorem Fam.cells_own {m : Nat} (hm : ∀ x, (F.pre x).length = m) : ∀ (l : List β) (k p : Nat) (x : β), l[p]? = some x → (F.cells k l)[p * (m + 1) + m]? = some (F.ownV (k + p) x)
  | [], k, p, x, h => by simp at h
  | y :: l, k, 0, x, h => by
    simp at h; subst h; simp only [Fam.cells, Nat.zero_mul, zero_add, Nat.add_zero]; rw [List.getElem?_append_right (by simp [hm])]; simp [hm]
  | y :: l, k, p + 1, x, h => by
    have := Fam.cells_own hm l (k + 1) p x (by simpa using h); simp only [Fam.cells]; rw [List.getElem?_append_right (by simp [hm])]; simp only [length_map, hm]
    rw [show (p + 1) * (m + 1) + m - m = (p * (m + 1) + m) + 1 by rw [succ_mul]; omega, List.getElem?_cons_succ, this, show k + 1 + p = k + (p + 1) by omega]
theorem Fam.cells_pre {m : Nat} (hm : ∀ x, (F.pre x).length = m) : ∀ (l : List β) (k p j : Nat) (x : β) (d : D), l[p]? = some x → (F.pre x)[j]? = some d → (F.cells k l)[p * (m + 1) + j]? = some (.d d)
  | [], k, p, j, x, d, h, hd => by simp at h
  | y :: l, k, 0, j, x, d, h, hd => by
    simp at h; subst h; have hj := (List.getElem?_eq_some_iff.1 hd).1; simp only [Fam.cells, Nat.zero_mul, zero_add]; rw [List.getElem?_append_left (by simpa using hj)]; simp [hd]
  | y :: l, k, p + 1, j, x, d, h, hd => by
    have := Fam.cells_pre hm l (k + 1) p j x d (by simpa using h) hd; simp only [Fam.cells]; rw [List.getElem?_append_right (by simp [hm]; rw [succ_mul]; omega)]; simp only [length_map, hm]
    rw [show (p + 1) * (m + 1) + j - m = (p * (m + 1) + j) + 1 by rw [succ_mul]; omega, List.getElem?_cons_succ, this]
theorem Fam.cells_app : ∀ (l : List β) (k : Nat) (x : β), F.cells k (l ++ [x]) = F.cells k l ++ ((F.pre x).map V.d ++ [F.ownV (k + l.length) x])
  | [], k, x => by simp [Fam.cells]
  | y :: l, k, x => by
    simp only [cons_append, Fam.cells, Fam.cells_app l (k + 1) x, length_cons, show k + 1 + l.length = k + (l.length + 1) by omega]
    simp
theorem Fam.cells_setown {m : Nat} (hm : ∀ x, (F.pre x).length = m) : ∀ (l : List β) (k p : Nat) (x x' : β) (u : V), l[p]? = some x → F.pre x' = F.pre x → (F.cells k (l.set p x')).set (p * (m + 1) + m) u = (F.cells k l).set (p * (m + 1) + m) u
  | [], k, p, x, x', u, h, hp => by simp at h
  | y :: l, k, 0, x, x', u, h, hp => by
    simp at h; subst h; simp only [set_cons_zero, Fam.cells, Nat.zero_mul, zero_add, hp]; rw [List.set_append_right _ _ (by simp [hm]), List.set_append_right _ _ (by simp [hm])]; simp [hm]
  | y :: l, k, p + 1, x, x', u, h, hp => by
    have := Fam.cells_setown hm l (k + 1) p x x' u (by simpa using h) hp; simp only [set_cons_succ, Fam.cells]; have e : (p + 1) * (m + 1) + m - m = (p * (m + 1) + m) + 1 := by rw [succ_mul]; omega
    have e2 : m ≤ (p + 1) * (m + 1) + m := by omega
    rw [List.set_append_right _ _ (by simp only [length_map, hm]; exact e2), List.set_append_right _ _ (by simp only [length_map, hm]; exact e2)]; simp only [length_map, hm, e, set_cons_succ, this]
theorem Fam.cells_put (hm : ∀ x, (F.pre x).length = m) {l : List β} {x : β} (h : l[p]? = some x) : ((F.cells k l).set (p * (m + 1) + m) .junk).set (p * (m + 1) + m) (F.ownV (k + p) x) = F.cells k l := by
  rw [List.set_set]; have := Fam.cells_own hm l k p x h; refine ext_getElem? fun i => ?_; rw [List.getElem?_set]
  split
  · grind
  rfl
theorem Fam.cells_setpre {m : Nat} (hm : ∀ x, (F.pre x).length = m) : ∀ (l : List β) (k p j : Nat) (x x' : β) (d : D), l[p]? = some x → j < m → F.pre x' = (F.pre x).set j d → F.it x' = F.it x → (F.cells k l).set (p * (m + 1) + j) (.d d) = F.cells k (l.set p x')
  | [], k, p, j, x, x', d, h, hj, hp, hi => by simp at h
  | y :: l, k, 0, j, x, x', d, h, hj, hp, hi => by
    simp at h; subst h; simp only [set_cons_zero, Fam.cells, Nat.zero_mul, zero_add, hp, Fam.ownV, hi]; rw [List.set_append_left _ _ (by simpa [hm] using hj), map_set]
  | y :: l, k, p + 1, j, x, x', d, h, hj, hp, hi => by
    have := Fam.cells_setpre hm l (k + 1) p j x x' d (by simpa using h) hj hp hi; simp only [set_cons_succ, Fam.cells]; have e : (p + 1) * (m + 1) + j - m = (p * (m + 1) + j) + 1 := by rw [succ_mul]; omega
    have e2 : m ≤ (p + 1) * (m + 1) + j := by rw [succ_mul]; omega
    rw [List.set_append_right _ _ (by simp only [length_map, hm]; exact e2)]; simp only [length_map, hm, e, set_cons_succ, this]
theorem Fam.objs_setpre : ∀ (l : List β) (k p : Nat) (x x' : β), l[p]? = some x → F.it x' = F.it x → F.objs k (l.set p x') = F.objs k l
  | [], k, p, x, x', h, hi => rfl
  | y :: l, k, 0, x, x', h, hi => by grind [Fam.objs, Fam.row]
  | y :: l, k, p + 1, x, x', h, hi => by
    simp only [set_cons_succ, Fam.objs]; rw [Fam.objs_setpre l (k + 1) p x x' (by simpa using h) hi]
end
def kyL : List (Nat × Nat) → List UInt8
  | [] => []
  | x :: l => Lib.decDigits x.1 ++ 58 :: (Lib.decDigits x.2 ++ 32 :: kyL l)
theorem j40 : ∀ {l l' : List (Nat × Nat)}, kyL l = kyL l' → l = l'
  | [], [], _ => rfl
  | [], x :: l', h => by
    have := congrArg List.length h; simp [kyL] at this
  | x :: l, [], h => by
    have := congrArg List.length h; simp [kyL] at this
  | x :: l, y :: l', h => by
    have vO : ∀ (n : Nat) (c : UInt8), c.toNat < 48 ∨ 57 < c.toNat → c ∉ Lib.decDigits n := fun n c hc hm => by
      have := qq6 hm; omega
    obtain ⟨h1, h2⟩ := q64 (vO _ _ (.inr zj)) (vO _ _ (.inr zj)) h; obtain ⟨h3, h4⟩ := q64 (vO _ _ (.inl zj)) (vO _ _ (.inl zj)) h2; have e1 := qp0 h1; have e2 := qp0 h3; rw [j40 h4, Prod.ext e1 e2]
theorem j41 : ∀ (l l' : List (Nat × Nat)), kyL (l ++ l') = kyL l ++ kyL l'
  | [], l' => rfl
  | x :: l, l' => by simp [kyL, j41 l l']
def wdB : List Nat → List UInt8
  | [] => []
  | n :: l => Lib.decDigits n ++ 32 :: wdB l
theorem qp2 (n : Nat) (c : UInt8) (hc : c.toNat < 48 ∨ 57 < c.toNat) : c ∉ Lib.decDigits n := fun hm => by
  have := qq6 hm; omega
theorem j42 : ∀ {l l' : List Nat}, wdB l = wdB l' → l = l'
  | [], [], _ => rfl
  | [], x :: l', h => by
    have := congrArg List.length h; simp [wdB] at this
  | x :: l, [], h => by
    have := congrArg List.length h; simp [wdB] at this
  | x :: l, y :: l', h => by
    obtain ⟨h1, h2⟩ := q64 (qp2 _ _ (.inl zj)) (qp2 _ _ (.inl zj)) h; rw [qp0 h1, j42 h2]
theorem j43 : ∀ (l l' : List Nat), wdB (l ++ l') = wdB l ++ wdB l'
  | [], _ => rfl
  | x :: l, l' => by simp [wdB, j43 l l']
def arB (c : List Nat) (a : Ar) : List Nat := [a.i.toNat, a.o.toNat, a.w.toNat, clG c a.t.toNat]
def sgN (c : List Nat) (x : St) : List Nat := x.fin.toNat :: x.arcs.flatMap (arB c)
def sgB (c : List Nat) (q : Nat) (x : St) : List UInt8 := Lib.decDigits (clG c q) ++ 124 :: wdB (sgN c x)
def qC6 (x : St) : Prop := 0 ≤ x.fin ∧ ∀ a ∈ x.arcs, 0 ≤ a.i ∧ 0 ≤ a.o ∧ 0 ≤ a.w
theorem qR5 (c : List Nat) : ∀ {l l' : List Ar}, (∀ a ∈ l, 0 ≤ a.i ∧ 0 ≤ a.o ∧ 0 ≤ a.w) → (∀ a ∈ l', 0 ≤ a.i ∧ 0 ≤ a.o ∧ 0 ≤ a.w) → l.flatMap (arB c) = l'.flatMap (arB c) → (l.map fun a => (a.i, a.o, a.w, clG c a.t.toNat)) = l'.map fun a => (a.i, a.o, a.w, clG c a.t.toNat)
  | [], [], _, _, _ => rfl
  | [], b :: l', _, _, h => by
    have := congrArg List.length h; simp [arB] at this
  | a :: l, [], _, _, h => by
    have := congrArg List.length h; simp [arB] at this
  | a :: l, b :: l', h1, h2, h => by
    rw [flatMap_cons, flatMap_cons] at h; simp only [arB, cons_append, nil_append, List.cons.injEq] at h; obtain ⟨e1, e2, e3, e4, e5⟩ := h; obtain ⟨a1, a2, a3⟩ := h1 a mem_cons_self; obtain ⟨b1, b2, b3⟩ := h2 b mem_cons_self
    have ih := qR5 c (fun x hx => h1 x (mem_cons_of_mem _ hx)) (fun x hx => h2 x (mem_cons_of_mem _ hx)) e5
    rw [map_cons, map_cons, ih, show a.i = b.i by omega, show a.o = b.o by omega, show a.w = b.w by omega, e4]
theorem jE3 {c : List Nat} {x y : St} (hx : qC6 x) (hy : qC6 y) : sgB c q x = sgB c p y ↔ sgK c q x = sgK c p y := by
  constructor
  · intro h
    obtain ⟨h1, h2⟩ := q64 (qp2 _ _ (.inr zj)) (qp2 _ _ (.inr zj)) h; have h3 := j42 h2; unfold sgN at h3; rw [List.cons.injEq] at h3; have hf : x.fin = y.fin := by have := hx.1; have := hy.1; omega
    have ha := qR5 c hx.2 hy.2 h3.2; have hc := qp0 h1; unfold sgK; rw [Prod.mk.injEq, Prod.mk.injEq]; exact ⟨hc, hf, ha⟩
  intro h; unfold sgK at h; rw [Prod.mk.injEq, Prod.mk.injEq] at h; obtain ⟨h1, h2, h3⟩ := h
  have e : ∀ l : List Ar, l.flatMap (arB c) = (l.map fun a => (a.i, a.o, a.w, clG c a.t.toNat)).flatMap fun k => [k.1.toNat, k.2.1.toNat, k.2.2.1.toNat, k.2.2.2] := fun l => by
    rw [List.flatMap_map]; rfl
  unfold sgB sgN
  rw [show clG c q = clG c p from h1, h2, e, e]
  have h4 : (x.arcs.map fun a => (a.i, a.o, a.w, clG c a.t.toNat)) = y.arcs.map fun a => (a.i, a.o, a.w, clG c a.t.toNat) := h3
  rw [h4]
def pl : List Nat → Int → Int
  | [], _ => -1
  | y :: l, x => if (y : Int) = x then 0 else if pl l x < 0 then -1 else pl l x + 1
theorem qp3 : ∀ (l : List Nat) (x : Int), (∀ y ∈ l, (y : Int) ≠ x) → pl l x = -1
  | [], x, h => rfl
  | y :: l, x, h => by
    rw [pl, if_neg (h y zx), qp3 l x fun z hz => h z (by simp [hz])]
    rfl
theorem qC7 : ∀ (l : List Nat) (x : Int) (i : Nat) (y : Nat), l[i]? = some y → (y : Int) = x → (∀ j z, j < i → l[j]? = some z → (z : Int) ≠ x) → pl l x = i
  | [], x, i, y, h, _, _ => by simp at h
  | z :: l, x, 0, y, h, e, _ => by simp at h; subst h; rw [pl, if_pos e]; rfl
  | z :: l, x, i + 1, y, h, e, hn => by
    have h1 := qC7 l x i y (by simpa using h) e fun j u hj hu => hn (j + 1) u zg (by simpa using hu)
    rw [pl, if_neg (hn 0 z zg zx), h1, if_neg zg]; omega
theorem qH8 {K : Nat → Bool} {n : Nat} (hq : q < n) : pl ((List.range n).filter K) q = if K q then (((List.range q).filter K).length : Int) else -1 := by
  split
  · rename_i h
    obtain ⟨m, rfl⟩ : ∃ m, n = q + (m + 1) := ⟨n - q - 1, by omega⟩
    have e : (List.range (q + (m + 1))).filter K = (List.range q).filter K ++ q :: ((List.range m).map (q + 1 + ·)).filter K := by
      rw [List.range_add, List.filter_append, List.range_succ_eq_map]; simp only [map_cons, List.map_map, Nat.add_zero, filter_cons, h, if_true]
      congr 2
      congr 1
      congr 1
      funext i
      simp; omega
    refine qC7 _ _ _ q ?_ rfl fun j z hj hz => ?_
    · grind
    rw [e, List.getElem?_append_left hj] at hz; have := List.mem_filter.1 (mem_of_getElem? hz); have := List.mem_range.1 this.1; omega
  grind [qp3]
theorem ji3 (l : List Nat) {x : Int} (hx : x < 0) : pl l x = -1 := qp3 l x fun y _ => by omega
noncomputable def gx (m : zr) (q : Nat) : Bool := (wE m).getD q false && (yU m).getD q false
noncomputable def yV (m : zr) : List Nat := (List.range m.states.length).filter (gx m)
def vq (kept : List Nat) (a : Ar) : Option Ar := if 0 ≤ pl kept a.t then some ⟨a.i, a.o, a.w, pl kept a.t⟩ else none
def wq (kept : List Nat) (s : St) : St := ⟨s.fin, s.arcs.filterMap (vq kept)⟩
noncomputable def x9 (m : zr) : zr := if zn m = 0 then ⟨pl (yV m) m.start, (yV m).map fun q => wq (yV m) (m.states.getD q ⟨0, []⟩)⟩ else ⟨0, []⟩
theorem bO {α β : Type} {l : List α} {x : α} (f : α → Option β) (h : l[k]? = some x) : (l.take (k + 1)).filterMap f = (l.take k).filterMap f ++ (f x).toList := by grind [List.take_add_one, Option.toList]
theorem yy (K : Nat → Bool) (k : Nat) : (List.range (k + 1)).filter K = (List.range k).filter K ++ if K k then [k] else [] := by grind [List.range_succ]
theorem yN (K : Nat → Bool) (k : Nat) : ((List.range k).filter K).length ≤ k := by grind
end Go.Proofs.YthiknkcigcglkaaGreatDoor
