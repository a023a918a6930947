/- Part 1 of what the law SameSames rests on. -/
import Derived.Test.YthiknkcigcglkaaGreatDoorRows
import Derived.WalkKit
import Derived.WalkSpells
import Derived.WalkLawsBesides
import Derived.Lib.Hide
import Derived.Laws.AppendOwnNone
import Derived.Deep.AppendLies
import Derived.Deep.RegionHeld3
import Derived.Deep.RegionLaw
import Derived.Deep.QuietTactic
import Derived.BigQuiet
import Derived.Shelf.Strconv.Itoa3
import Derived.Test.YthiknkcigcglkaaGreatDoorProg
import Derived.Shelf.LaysM
import Derived.Shelf.Bits.Mul64
import Derived.OrdersHeld
import Derived.ProofKit
import Derived.OpenShut
import Derived.ShutString
import Derived.ChangeOld
import Derived.SizedLaws
import Derived.Deep.Slices
import Derived.Lib.SmallJoins
namespace Go.Proofs.YthiknkcigcglkaaGreatDoor
open Go.RowKit
open Go.Proofs.Tryz
open Bool (and_eq_true)
open List (all_eq_true drop_succ_cons drop_zero length_map map_cons map_nil map_toArray mem_cons_of_mem mem_cons_self mem_of_getElem? not_mem_nil take_zero)
open Nat (le_refl lt_of_lt_of_le)
open Option (getD_some map_some)
set_option linter.unusedSimpArgs false
set_option linter.unusedVariables false
set_option maxRecDepth 100000
set_option maxHeartbeats 8000000
open Go.Shelf Go.RowKit Go.Sort Go.Lib
open Go.Shelf Go.RowKit Go.Lib
open Go.ChangeShapes Go.WideShapes Go.ChangeAt Go.RowKit Go.Deep Go.Joins
variable {k kd : IntKind} {oi : Oper} {listed : Array Bool} {q q' : Nat → Prop} {b0 bt f id j r : Nat} {x : Operand} {m n' : Int}
@[simp] theorem jZ8 (n : Nat) : n < n + 1 + 1 := by omega
@[simp] theorem jZ9 (n : Nat) : n ≤ n + 1 + 1 := by omega
@[simp] theorem k00 (n : Nat) : n < n + 1 + 1 + 1 := by omega
@[simp] theorem k01 (n : Nat) : n ≤ n + 1 + 1 + 1 := by omega
@[simp] theorem k02 (n : Nat) : n < n + 1 + 1 + 1 + 1 := by omega
@[simp] theorem k03 (n : Nat) : n ≤ n + 1 + 1 + 1 + 1 := by omega
@[simp] theorem k04 (n : Nat) : n < n + 1 + 1 + 1 + 1 + 1 := by omega
@[simp] theorem k05 (n : Nat) : n ≤ n + 1 + 1 + 1 + 1 + 1 := by omega
@[simp] theorem k06 (n : Nat) : n < n + 1 + 1 + 1 + 1 + 1 + 1 := by omega
@[simp] theorem k07 (n : Nat) : n ≤ n + 1 + 1 + 1 + 1 + 1 + 1 := by omega
@[simp] theorem k08 (n : Nat) : n < n + 1 + 1 + 1 + 1 + 1 + 1 + 1 := by omega
@[simp] theorem k09 (n : Nat) : n ≤ n + 1 + 1 + 1 + 1 + 1 + 1 + 1 := by omega
@[simp] theorem k10 (n : Nat) : n < n + 1 + 1 + 1 + 1 + 1 + 1 + 1 + 1 := by omega
@[simp] theorem k11 (n : Nat) : n ≤ n + 1 + 1 + 1 + 1 + 1 + 1 + 1 + 1 := by omega
@[simp] theorem k12 (n : Nat) : n < n + 1 + 1 + 1 + 1 + 1 + 1 + 1 + 1 + 1 := by omega
@[simp] theorem k13 (n : Nat) : n ≤ n + 1 + 1 + 1 + 1 + 1 + 1 + 1 + 1 + 1 := by omega
@[simp] theorem jZ6 (n : Nat) : n < n + 1 + 1 + 1 + 1 + 1 + 1 + 1 + 1 + 1 + 1 := by omega
@[simp] theorem jZ7 (n : Nat) : n ≤ n + 1 + 1 + 1 + 1 + 1 + 1 + 1 + 1 + 1 + 1 := by omega
@[simp] theorem jW1 (a n : Nat) (h : a < n) : a ≤ n := by omega
@[simp] theorem jW2 (a n : Nat) (h : a < n) : ¬ a = n := by omega
@[simp] theorem k14 (a n : Nat) (h : a < n) : a < n + 1 := by omega
@[simp] theorem k15 (a n : Nat) (h : a < n) : a ≤ n + 1 := by omega
@[simp] theorem k16 (a n : Nat) (h : a < n) : ¬ a = n + 1 := by omega
@[simp] theorem k17 (a n : Nat) (h : a < n) : a < n + 1 + 1 := by omega
@[simp] theorem k18 (a n : Nat) (h : a < n) : a ≤ n + 1 + 1 := by omega
@[simp] theorem k19 (a n : Nat) (h : a < n) : ¬ a = n + 1 + 1 := by omega
@[simp] theorem k20 (a n : Nat) (h : a < n) : a < n + 1 + 1 + 1 := by omega
@[simp] theorem k21 (a n : Nat) (h : a < n) : a ≤ n + 1 + 1 + 1 := by omega
@[simp] theorem k22 (a n : Nat) (h : a < n) : ¬ a = n + 1 + 1 + 1 := by omega
@[simp] theorem k23 (a n : Nat) (h : a < n) : a < n + 1 + 1 + 1 + 1 := by omega
@[simp] theorem k24 (a n : Nat) (h : a < n) : a ≤ n + 1 + 1 + 1 + 1 := by omega
@[simp] theorem k25 (a n : Nat) (h : a < n) : ¬ a = n + 1 + 1 + 1 + 1 := by omega
@[simp] theorem k26 (a n : Nat) (h : a < n) : a < n + 1 + 1 + 1 + 1 + 1 := by omega
@[simp] theorem k27 (a n : Nat) (h : a < n) : a ≤ n + 1 + 1 + 1 + 1 + 1 := by omega
@[simp] theorem k28 (a n : Nat) (h : a < n) : ¬ a = n + 1 + 1 + 1 + 1 + 1 := by omega
@[simp] theorem k29 (a n : Nat) (h : a < n) : a < n + 1 + 1 + 1 + 1 + 1 + 1 := by omega
@[simp] theorem k30 (a n : Nat) (h : a < n) : a ≤ n + 1 + 1 + 1 + 1 + 1 + 1 := by omega
@[simp] theorem k31 (a n : Nat) (h : a < n) : ¬ a = n + 1 + 1 + 1 + 1 + 1 + 1 := by omega
@[simp] theorem k32 (a n : Nat) (h : a < n) : a < n + 1 + 1 + 1 + 1 + 1 + 1 + 1 := by omega
@[simp] theorem k33 (a n : Nat) (h : a < n) : a ≤ n + 1 + 1 + 1 + 1 + 1 + 1 + 1 := by omega
@[simp] theorem k34 (a n : Nat) (h : a < n) : ¬ a = n + 1 + 1 + 1 + 1 + 1 + 1 + 1 := by omega
@[simp] theorem k35 (a n : Nat) (h : a < n) : a < n + 1 + 1 + 1 + 1 + 1 + 1 + 1 + 1 := by omega
@[simp] theorem k36 (a n : Nat) (h : a < n) : a ≤ n + 1 + 1 + 1 + 1 + 1 + 1 + 1 + 1 := by omega
@[simp] theorem k37 (a n : Nat) (h : a < n) : ¬ a = n + 1 + 1 + 1 + 1 + 1 + 1 + 1 + 1 := by omega
theorem blt {w : World} {b o : Nat} {v : Value} (h : w.cell? ⟨b, o, none⟩ = some v) : b < w.heap.size := World.block_lt_of_cell? w _ h
theorem Below.al {a w : World} (h : Below a.heap.size a w) (o : Obj) : Below a.heap.size a (w.alloc o) := h.alloc h.size o
def SlAt {α : Type} (w : World) (sz bytes : Nat) (cells : α → List Value) (v : Value) (l : List α) : Prop :=
  ∃ a cap, v = .slice a l.length cap ∧ l.length * bytes ≤ 140737488355328 ∧ ((a = none → cap = 0) ∧ l.length ≤ cap) ∧
    ∀ i, i < l.length → ∃ b o x, a = some ⟨b, o, none⟩ ∧ l[i]? = some x ∧ ∀ j, j < sz → w.cell? ⟨b, o + i * sz + j, none⟩ = (cells x)[j]?
section
variable {α : Type} {w w' : World} {sz bytes : Nat} {cells : α → List Value} {v : Value} {l : List α} {a : Option Addr} {len cap : Nat}
theorem x5 {l : List α} {k : Nat} {x : α} (h : l[k]? = some x) : l.take (k + 1) = l.take k ++ [x] := by grind [List.getElem?_eq_some_iff, List.take_succ_eq_append_getElem]
theorem SlAt.nil (w : World) (sz bytes : Nat) (cells : α → List Value) : SlAt w sz bytes cells (.slice none 0 0) [] := ⟨none, 0, rfl, by simp, ⟨fun _ => rfl, le_refl 0⟩, fun i hi => by simp at hi⟩
end
theorem wN (b o k : Nat) : (⟨b, o, none⟩ : Addr).add k = ⟨b, o + k, none⟩ := by
  unfold Addr.add
  split
  · rename_i h; subst h; rfl
  · rfl
section
variable {α : Type} {P : Program} {w : World} {ops : Array Oper} {rest : List Oper} {o : Oper} {a : Act} {K : Act → World → Prop} {Q : Exit → Act → World → Prop}
end
/-! ### Integers -/
def jn8 (x : Int) : List Value := [.int .i64 x]
def k95 (w : World) (v : Value) (xs : List Int) : Prop := SlAt w 1 8 jn8 v xs
def qN9 : Go.Shelf.Ren := ⟨fun | 171 => 40 | 243 => 79 | 246 => 117 | 283 => 128 | 284 => 129 | 285 => 130 | 286 => 131 | 129 => 116 | 317 => 143 | 318 => 144 | 319 => 145 | 320 => 146 | 337 => 158 | 338 => 159 | n => n, fun | 3 => 3 | 9 => 9 | 2 => 2 | 4 => 4 | 171 => 177 | 0 => 0 | 53 => 125 | 37 => 112 | 5 => 5 | 173 => 179 | 212 => 194 | 51 => 122 | 20 => 20 | 213 => 195 | 46 => 77 | 232 => 206 | 233 => 207 | n => n, fun | 17 => 0 | 18 => 1 | 19 => 2 | n => n⟩
theorem jn9 : Go.Proofs.LaysM.n171 prog qN9 := {
  mixed := by kernel_rfl
  f129 := func116.trans (congrArg some (by kernel_rfl))
  f171 := func40.trans (congrArg some (by kernel_rfl))
  f243 := func79.trans (congrArg some (by kernel_rfl))
  f246 := func117.trans (congrArg some (by kernel_rfl))
  f283 := func128.trans (congrArg some (by kernel_rfl))
  f284 := func129.trans (congrArg some (by kernel_rfl))
  f285 := func130.trans (congrArg some (by kernel_rfl))
  f286 := func131.trans (congrArg some (by kernel_rfl))
  f317 := func143.trans (congrArg some (by kernel_rfl))
  f318 := func144.trans (congrArg some (by kernel_rfl))
  f319 := func145.trans (congrArg some (by kernel_rfl))
  f320 := func146.trans (congrArg some (by kernel_rfl))
  f337 := func158.trans (congrArg some (by kernel_rfl))
  f338 := func159.trans (congrArg some (by kernel_rfl))
  t0 := underlying0
  a0 := isAgg0
  z0 := sizeOf0
  v0 := zeroValue0
  t2 := underlying2
  a2 := isAgg2
  z2 := sizeOf2
  v2 := zeroValue2
  t3 := underlying3
  a3 := isAgg3
  z3 := sizeOf3
  v3 := zeroValue3
  t4 := underlying4
  a4 := isAgg4
  z4 := sizeOf4
  v4 := zeroValue4
  t5 := underlying5
  a5 := isAgg5
  z5 := sizeOf5
  v5 := zeroValue5
  t9 := underlying9
  a9 := isAgg9
  z9 := sizeOf9
  v9 := zeroValue9
  t20 := underlying20
  a20 := isAgg20
  z20 := sizeOf20
  v20 := zeroValue20
  t37 := underlying112
  a37 := isAgg112
  z37 := sizeOf112
  v37 := zeroValue112
  t46 := underlying77
  a46 := isAgg77
  z46 := sizeOf77
  v46 := zeroValue77
  t51 := underlying122
  a51 := isAgg122
  z51 := sizeOf122
  v51 := zeroValue122
  t53 := underlying125
  a53 := isAgg125
  z53 := sizeOf125
  v53 := zeroValue125
  t171 := underlying177
  a171 := isAgg177
  z171 := sizeOf177
  v171 := zeroValue177
  t173 := underlying179
  a173 := isAgg179
  z173 := sizeOf179
  v173 := zeroValue179
  t212 := underlying194
  a212 := isAgg194
  z212 := sizeOf194
  v212 := zeroValue194
  t213 := underlying195
  a213 := isAgg195
  z213 := sizeOf195
  t232 := underlying206
  a232 := isAgg206
  z232 := sizeOf206
  v232 := zeroValue206
  t233 := underlying207
  a233 := isAgg207
  z233 := sizeOf207
  v233 := zeroValue207
  g17 := by kernel_rfl
  g18 := by kernel_rfl
  g19 := by kernel_rfl
  i0 := by kernel_rfl
  i2 := by kernel_rfl
  i3 := by kernel_rfl
  i4 := by kernel_rfl
  i5 := by kernel_rfl
  i9 := by kernel_rfl
  i20 := by kernel_rfl
  i37 := by kernel_rfl
  i46 := by kernel_rfl
  i51 := by kernel_rfl
  i53 := by kernel_rfl
  i171 := by kernel_rfl
  i173 := by kernel_rfl
  i212 := by kernel_rfl
  i232 := by kernel_rfl
  i233 := by kernel_rfl
  m17 := by kernel_rfl
  m18 := by kernel_rfl
  m19 := by kernel_rfl }
theorem qG8 (n : Int) (h0 : -9223372036854775808 ≤ n) (h1 : n ≤ 9223372036854775807) (w : World) (qO0 : Lib.TabIs prog w "internal/strconv.uint64pow10" .u64 Lib.pow10Tab) :
    Calls prog 40 #[.int .i64 n] w fun e w' => e = .returned (.string ⟨(Lib.itoa n).toArray⟩) ∧ ∃ k os, w' = grow (w.drewN k) os := Any.strconv_Itoa jn9 n h0 h1 w qO0
def j09 : Go.Shelf.Ren := ⟨fun | 212 => 42 | 263 => 84 | 264 => 85 | n => n, fun | 46 => 77 | 51 => 122 | 146 => 123 | 53 => 125 | 148 => 126 | n => n, fun | n => n⟩
theorem jC8 : Go.Proofs.Lays.n212 prog j09 := {
  mixed := by kernel_rfl
  f212 := func42.trans (congrArg some (by kernel_rfl))
  f263 := func84.trans (congrArg some (by kernel_rfl))
  f264 := func85.trans (congrArg some (by kernel_rfl))
  t46 := underlying77
  a46 := isAgg77
  z46 := sizeOf77
  v46 := zeroValue77
  t51 := underlying122
  a51 := isAgg122
  z51 := sizeOf122
  v51 := zeroValue122
  t53 := underlying125
  a53 := isAgg125
  z53 := sizeOf125
  v53 := zeroValue125
  t146 := underlying123
  a146 := isAgg123
  z146 := sizeOf123
  v146 := zeroValue123
  t148 := underlying126
  a148 := isAgg126
  z148 := sizeOf126
  v148 := zeroValue126 }
theorem jo0 (x y : Nat) (hx : x < 18446744073709551616) (hy : y < 18446744073709551616) (w : World) :
    Calls prog 42 #[.int .u64 x, .int .u64 y] w fun e w' => e = .returned (.tuple #[.int .u64 ((x * y / 18446744073709551616 : Nat) : Int), .int .u64 ((x * y % 18446744073709551616 : Nat) : Int)]) ∧ w' = w := Any.bits_Mul jC8 x y hx hy w
section
variable {P : Program} {ops : Array Oper} {Q : Exit → Act → World → Prop} {md : Region.Mode} {S : World → Prop}
def qN3 (md : Region.Mode) (ops : Array Oper) (z i : Nat) : Bool :=
  match ops[z]? with
  | some oz => oz.after.any fun e => Region.binds md e && e.on == i
  | none => false
theorem ja2 {z i : Nat} {oz : Oper} (h : qN3 md ops z i = true) (hz : ops[z]? = some oz) : ∃ e ∈ oz.after, Region.binds md e = true ∧ e.on = i := by
  simp only [qN3, hz] at h; obtain ⟨e, he, hb⟩ := Array.any_eq_true'.1 h; simp only [and_eq_true, beq_iff_eq] at hb; exact ⟨e, he, hb.1, hb.2⟩
def wU (P : Program) (md : Region.Mode) (ops : Array Oper) (Q : Exit → Act → World → Prop) (S : World → Prop) (z : Nat) : Nat → Array Bool → Act → World → Prop
  | 0, listed, a, w => Region.ready md ops listed = [] ∧ Q .normal a w
  | n + 1, listed, a, w => (Region.ready md ops listed = [] → Q .normal a w) ∧
      ∀ i ∈ Region.ready md ops listed, wpOp P ops Q i (fun a' w' => (i ≠ z → S w') ∧ wU P md ops Q S z n (listed.setIfInBounds i true) a' w') a w
variable {z : Nat}
theorem qb6 : ∀ (n : Nat) (listed : Array Bool) (a : Act) (w : World), wU P md ops Q S z n listed a w → wpAny P md ops Q n listed a w
  | 0, _, _, _, h => h
  | n + 1, _, _, _, h => ⟨h.1, fun i hi => wpOp_mono (fun a' w' h' => qb6 n _ a' w' h'.2) (h.2 i hi)⟩
theorem qL9 {i : Nat} {v : Value} (hz : qN3 md ops z i = true) (hiz : i ≠ z) (hi : ops[i]? = some oi) (yg : ∀ (j : Nat) (o : Oper) cs b, ops[j]? = some o → o.op ≠ .select cs b)
    (hQ : ∀ c a w, Q (.panic c) (a.put oi.dst v) w → Q (.panic c) a w) (n : Nat) :
    ∀ (listed : Array Bool) (a : Act) (w : World),
      (∀ j oj, ops[j]? = some oj → j ≠ i → listed.getD j true = false → (∀ e ∈ oj.after, Region.binds md e = true → e.on ≠ i) → oi.apart ops oj = true) →
      i ∈ Region.ready md ops listed → YieldsIf P ops S oi v a → S w →
      wU P md ops Q S z n (listed.setIfInBounds i true) (a.put oi.dst v) w → wU P md ops Q S z (n + 1) listed a w := by
  induction n with
  | zero =>
    intro listed a w gV hr hy hS H; refine ⟨fun h => by rw [h] at hr; exact absurd hr not_mem_nil, fun j hj => ?_⟩
    by_cases hji : j = i
    · subst hji
      exact hy.wpOp hi hS ⟨fun _ => hS, H⟩
    · have hm := ready_mono hj hji
      rw [H.1] at hm; exact absurd hm not_mem_nil
  | succ n ih =>
    intro listed a w gV hr hy hS H; refine ⟨fun h => by rw [h] at hr; exact absurd hr not_mem_nil, fun j hj => ?_⟩
    by_cases hji : j = i
    · subst hji
      exact hy.wpOp hi hS ⟨fun _ => hS, H⟩
    · have hij : i ≠ j := fun h => hji h.symm
      have wO := H.2 j (ready_mono hj hji); obtain ⟨vJ, oj, hoj, yS⟩ := mem_ready.1 hj; have vr := (mem_ready.1 hr).1; have vO : ∀ e ∈ oj.after, Region.binds md e = true → e.on ≠ i := by grind
      have hjz : j ≠ z := by grind [ja2]
      have yT := wpOp_putIf hoj (gV j oj hoj hji vJ vO) (fun cs b => yg i oi cs b hi) (fun cs b => yg j oj cs b hoj) hQ hy wO
      refine wpOp_mono (fun a' w' h3 => ?_) yT; obtain ⟨hy', hS', jB1⟩ := h3; refine ⟨fun _ => hS' hjz, ih _ a' w' ?_ (ready_mono hr hij) hy' (hS' hjz) ?_⟩
      · intro k ok hk hki hkl xU
        refine gV k ok hk hki ?_ xU
        by_cases hjk : j = k
        · subst hjk
          exact vJ
        · rwa [getD_set_ne true hjk] at hkl
      · grind [Array.setIfInBounds_comm]
theorem qe2 (i : Nat) {l : List Oper} {v : Value} {n : Nat} {listed : Array Bool} {a : Act} {w : World} (hz : qN3 md l.toArray z i = true) (hiz : (i != z) = true) (hi : l[i]? = some oi)
    (hs : Region.noSelect l.toArray = true) (hf : Region.free md l.toArray listed i = true) (hr : (Region.ready md l.toArray listed).contains i = true)
    (hQ : ∀ c a w, Q (.panic c) (a.put oi.dst v) w → Q (.panic c) a w) (hy : YieldsIf P l.toArray S oi v a) (hS : S w)
    (h : wU P md l.toArray Q S z n (listed.setIfInBounds i true) (a.put oi.dst v) w) : wU P md l.toArray Q S z (n + 1) listed a w :=
  qL9 hz (by simpa using hiz) (by simpa using hi) (Region.noSelect_spec hs) hQ n listed a w (Region.free_spec (by simpa using hi) hf) (by simpa using hr) hy hS h
theorem xy (i : Nat) {l : List Oper} {n : Nat} {a : Act} {w : World} (hr : Region.ready md l.toArray listed = [i]) (hi : l[i]? = some oi)
    (h : ∀ K : Act → World → Prop, Hid (∀ a' w', (i ≠ z → S w') → wU P md l.toArray Q S z n (listed.setIfInBounds i true) a' w' → K a' w') →
      if Region.wanted oi (yielded l.toArray a.tmps) = true then Oper.wp P oi a w K Q else K (a.put oi.dst undef) w) : wU P md l.toArray Q S z (n + 1) listed a w := by
  refine ⟨fun h0 => by rw [hr] at h0; exact absurd h0 (by simp), fun j hj => ?_⟩; rw [hr] at hj; obtain rfl := List.mem_singleton.1 hj
  exact wpOp_step (by simpa using hi) fun K hK => h K fun a' w' hS hA => hK a' w' ⟨hS, hA⟩
theorem zH {i : Nat} {n : Nat} {K : Act → World → Prop} {a' : Act} {w' : World} (hK : Hid (∀ a' w', (i ≠ z → S w') → wU P md ops Q S z n listed a' w' → K a' w'))
    (hS : i ≠ z → S w') (h : (i ≠ z → S w') → wU P md ops Q S z n listed a' w') : K a' w' := hK.out a' w' hS (h hS)
theorem ym {n : Nat} {a : Act} {w : World} (hr : Region.ready md ops listed = []) (h : Q .normal a w) : wU P md ops Q S z n listed a w := by
  cases n with
  | zero => exact ⟨hr, h⟩
  | succ n => exact ⟨fun _ => h, by rw [hr]; intro i hi; exact absurd hi not_mem_nil⟩
theorem ja3 (S : World → Prop) (z : Nat) {id : Nat} {l : List Oper} {a : Act} {w : World} (n : Nat) (hn : l.length = n) (hm : P.follows .mixedOrders = true) (hS : S w.drew)
    (h : S w.drew → wU P .any l.toArray Q S z n (Array.replicate n false) a w.drew) : (Code.region id l.toArray true).wp P Q a w := by
  subst hn; exact wp_region_any hm (qb6 _ _ _ _ (by simpa using h hS))
end
structure Ar where
  i : Int
  o : Int
  w : Int
  t : Int
structure St where
  fin : Int
  arcs : List Ar
structure zr where
  start : Int
  states : List St
instance : Inhabited Ar := ⟨⟨0, 0, 0, 0⟩⟩
instance : Inhabited St := ⟨⟨0, []⟩⟩
instance : Inhabited zr := ⟨⟨0, []⟩⟩
def ga (a : Ar) : List Value := [.int .i64 a.i, .int .i64 a.o, .int .i64 a.w, .int .i64 a.t]
theorem j10 (a : Ar) : (ga a).length = 4 := rfl
def qv8 (w : World) (v : Value) (l : List Ar) : Prop := SlAt w 4 32 ga v l
def bB (x : Int × Value × List Ar) : List Value := [.int .i64 x.1, x.2.1]
theorem j11 (x : Int × Value × List Ar) : (bB x).length = 2 := rfl
def k96 (x : Int × Value × List Ar) : St := ⟨x.1, x.2.2⟩
def jo1 (w : World) (v : Value) (l : List St) : Prop :=
  ∃ ts : List (Int × Value × List Ar), l = ts.map (fun x => ⟨x.1, x.2.2⟩) ∧ SlAt w 2 32 bB v ts ∧ ∀ x ∈ ts, qv8 w x.2.1 x.2.2
def qj9 (w : World) (v : Value) (m : zr) : Prop := ∃ sv, v = .agg #[.int .i64 m.start, sv] ∧ jo1 w sv m.states
structure Bld (w : World) (base : Nat) (sv : Value) (ts : List (Int × Value × List Ar)) : Prop where
  own : w.ownsRow base 35 2 sv ts.length (ts.flatMap bB)
  arcs : ∀ x ∈ ts, w.ownsRow base 47 4 x.2.1 x.2.2.length (x.2.2.flatMap ga)
  small : ∀ x ∈ ts, x.2.2.length * 32 ≤ 140737488355328
  apart : ∀ x ∈ ts, ∀ k, x.2.1.ownBlock = some k → some k ≠ sv.ownBlock
  pair : ts.Pairwise (fun x y => ∀ k, x.2.1.ownBlock = some k → some k ≠ y.2.1.ownBlock)
section
variable {w w' : World} {base : Nat} {sv v' : Value} {ts : List (Int × Value × List Ar)}
def k94 (w : World) (base : Nat) (v : Value) (m : zr) : Prop := ∃ sv ts, v = .agg #[.int .i64 m.start, sv] ∧ Bld w base sv ts ∧ ts.map (fun x => (⟨x.1, x.2.2⟩ : St)) = m.states ∧ ts.length * 32 ≤ 140737488355328
end
theorem Below.cellTo {w w' : World} (hb : Below w.heap.size w w') {b o : Nat} {v : Value} (h : w.cell? ⟨b, o, none⟩ = some v) : w'.cell? ⟨b, o, none⟩ = some v := (hb.cell (p := ⟨b, o, none⟩) (blt h)).trans h
theorem yZ {w : World} {b o : Nat} {v : Value} (h : w.cell? ⟨b, o, none⟩ = some v) (x : Obj) : (w.alloc x).cell? ⟨b, o, none⟩ = some v := Below.cellTo (Below.al (Below.refl _ w) x) h
def leN (l : List Nat) : List Nat := l.mergeSort fun x y => !decide (y < x)
theorem qr5 (l : List Nat) : (leN l).Perm l := List.mergeSort_perm _ _
theorem ja4 (l : List Nat) : (leN l).Pairwise fun x y => x ≤ y := by
  have := List.pairwise_mergeSort (le := fun x y : Nat => !decide (y < x)) (by intro a b c; simp; omega) (by intro a b; simp; omega) l
  exact this.imp fun h => by simpa using h
theorem jK4 {l : List Nat} (h : l.Nodup) : (leN l).Pairwise fun x y => x < y := by
  have h1 := ja4 l
  have h2 : (leN l).Pairwise fun x y => x ≠ y := (qr5 l).nodup_iff.2 h
  exact (h1.and h2).imp fun ⟨h3, h4⟩ => by omega
inductive D where
  | p (x : Value)
  | sl (sz bt : Nat) (rows : List (List D))
  | mp (l : List (Value × Value))
  | mm (l : List (Value × List (Value × Value)))
inductive V where
  | d (x : D)
  | ad (row : List D)
  | ref (r o : Nat)
  | own (r sz n : Nat) (z : Bool)
  | que (r sz o n : Nat)
  | agg (l : List V)
  | tup (l : List V)
  | fn (f : FuncId) (l : List V)
  | mp (r N : Nat) (l : List (Value × Value))
  | mq (r N : Nat) (l : List (Value × List D))
  | ifc (t : TypeId) (v : V)
  | mp2 (x : Bool) (r r' N : Nat) (l l' : List (Value × Value))
  | it (r N : Nat) (s : ByteArray) (pos : Nat)
  | mit (r rm N : Nat) (l : List (Value × Value)) (seen : List Nat)
  | mm (r N : Nat) (l : List (Value × List (Value × Value)) × Nat × Option Nat)
  | blk (b N : Nat) (ob : Obj)
  | junk
mutual
def V.has (r : Nat) : V → Bool
  | .d _ => false
  | .ad _ => false
  | .ref k _ => k == r
  | .own k _ _ _ => k == r
  | .que k _ _ _ => k == r
  | .agg l => V.hasL r l
  | .tup l => V.hasL r l
  | .fn _ l => V.hasL r l
  | .mp k _ _ => k == r
  | .mq k _ _ => k == r
  | .ifc _ v => V.has r v
  | .mp2 _ k k' _ _ _ => k == r || k' == r
  | .it k _ _ _ => k == r
  | .mit k k' _ _ _ => k == r || k' == r
  | .mm k _ _ => k == r
  | .blk _ _ _ => false
  | .junk => false
def V.hasL (r : Nat) : List V → Bool
  | [] => false
  | v :: l => V.has r v || V.hasL r l
end
theorem V.hasL_false {r : Nat} : ∀ {l : List V}, V.hasL r l = false ↔ ∀ v ∈ l, V.has r v = false
  | [] => by simp [V.hasL]
  | v :: l => by simp [V.hasL, V.hasL_false (l := l)]
def zB (l : List (Value × Value)) : Array MapEntry := (l.zipIdx.map fun x => ({ key := x.1.1, val := x.1.2, born := x.2 } : MapEntry)).toArray
inductive DRep (w : World) (q : Nat → Prop) : D → Value → Prop
  | p (x : Value) : DRep w q (.p x) x
  | sl (sz bt : Nat) (rows : List (List D)) (a : Option Addr) (cap b o : Nat) (f : Nat → Nat → Value) (hcp : rows.length ≤ cap)
      (ha : rows ≠ [] → a = some ⟨b, o, none⟩ ∧ q b ∧ b < w.heap.size) (hl : rows.length * bt ≤ 140737488355328)
      (hc : ∀ (i j : Nat) (row : List D) (u : D), rows[i]? = some row → row[j]? = some u → w.cell? ⟨b, o + i * sz + j, none⟩ = some (f i j))
      (hr : ∀ (i j : Nat) (row : List D) (u : D), rows[i]? = some row → row[j]? = some u → DRep w q u (f i j)) : DRep w q (.sl sz bt rows) (.slice a rows.length cap)
  | mp (l : List (Value × Value)) (b : Nat) (hq : q b ∧ b < w.heap.size) (hm : w.heap[b]? = some (.map (zB l) l.length)) : DRep w q (.mp l) (.map (some b))
  | mm (l : List (Value × List (Value × Value))) (b : Nat) (bs : List Nat) (hq : q b ∧ b < w.heap.size) (hl : l.length = bs.length) (hqs : ∀ k ∈ bs, q k ∧ k < w.heap.size) (hm : w.heap[b]? = some (.map (zB ((l.map (·.1)).zip (bs.map fun k => .map (some k)))) l.length))
      (hi : ∀ (j : Nat) (x : Value × List (Value × Value)) (k : Nat), l[j]? = some x → bs[j]? = some k → w.heap[k]? = some (.map (zB x.2) x.2.length)) : DRep w q (.mm l) (.map (some b))
def gz (b : Nat) (bs : List Nat) : Option Nat → Nat
  | none => b
  | some j => bs.getD j b
inductive VRep (w : World) (q : Nat → Prop) (g : Nat → Nat × Nat) : V → Value → Prop
  | d (x : D) (v : Value) (h : DRep w q x v) : VRep w q g (.d x) v
  | ad (row : List D) (b o : Nat) (f : Nat → Value) (hq : q b ∧ b < w.heap.size)
      (hc : ∀ (j : Nat) (u : D), row[j]? = some u → w.cell? ⟨b, o + j, none⟩ = some (f j))
      (hr : ∀ (j : Nat) (u : D), row[j]? = some u → DRep w q u (f j)) : VRep w q g (.ad row) (.pointer (some ⟨b, o, none⟩))
  | ref (r o : Nat) : VRep w q g (.ref r o) (.pointer (some ⟨(g r).1, o, none⟩))
  | own (r sz n : Nat) (hn : n ≤ (g r).2) (vK : (g r).2 ≤ maxLen) : VRep w q g (.own r sz n false) (.slice (some ⟨(g r).1, 0, none⟩) n (g r).2)
  | ownNil (r sz : Nat) : VRep w q g (.own r sz 0 true) (.slice none 0 0)
  | que (r sz o n : Nat) (a : Option Addr) (cap : Nat) (hn : n ≤ cap) (vK : cap ≤ maxLen) (h : cap ≠ 0 → a = some ⟨(g r).1, o * sz, none⟩ ∧ cap + o = (g r).2) : VRep w q g (.que r sz o n) (.slice a n cap)
  | agg (l : List V) (cs : List Value) (zI : l.length = cs.length) (h : ∀ (j : Nat) (u : V) (c : Value), l[j]? = some u → cs[j]? = some c → VRep w q g u c) : VRep w q g (.agg l) (.agg cs.toArray)
  | tup (l : List V) (cs : List Value) (zI : l.length = cs.length) (h : ∀ (j : Nat) (u : V) (c : Value), l[j]? = some u → cs[j]? = some c → VRep w q g u c) : VRep w q g (.tup l) (.tuple cs.toArray)
  | fn (f : FuncId) (l : List V) (cs : List Value) (zI : l.length = cs.length) (h : ∀ (j : Nat) (u : V) (c : Value), l[j]? = some u → cs[j]? = some c → VRep w q g u c) : VRep w q g (.fn f l) (.func (.func f) #[] cs.toArray)
  | mp (r N : Nat) (l : List (Value × Value)) (hN : N ≤ (g r).1) (hm : w.heap[(g r).1]? = some (.map (zB l) l.length)) : VRep w q g (.mp r N l) (.map (some (g r).1))
  | mq (r N : Nat) (l : List (Value × List D)) (vs : List (List Value)) (hN : N ≤ (g r).1) (hl : l.length = vs.length) (wB : ∀ (j : Nat) (x : Value × List D) (y : List Value), l[j]? = some x → vs[j]? = some y → x.2.length = y.length) (hr : ∀ (j : Nat) (x : Value × List D) (y : List Value) (i : Nat) (u : D) (z : Value), l[j]? = some x → vs[j]? = some y → x.2[i]? = some u → y[i]? = some z → DRep w q u z)
      (hm : w.heap[(g r).1]? = some (.map (zB ((l.map (·.1)).zip (vs.map fun y => .agg y.toArray))) l.length)) : VRep w q g (.mq r N l) (.map (some (g r).1))
  | ifc (t : TypeId) (v : V) (x : Value) (h : VRep w q g v x) : VRep w q g (.ifc t v) (.iface t x)
  | mp2 (x : Bool) (r r' N : Nat) (l l' : List (Value × Value)) (hN : N ≤ (g r).1) (hN' : N ≤ (g r').1) (zT : (g r).1 ≠ (g r').1) (hm : w.heap[(g r).1]? = some (.map (zB l) l.length)) (hm' : w.heap[(g r').1]? = some (.map (zB l') l'.length)) : VRep w q g (.mp2 x r r' N l l') (.map (some (g (if x then r' else r)).1))
  | it (r N : Nat) (s : ByteArray) (pos : Nat) (hN : N ≤ (g r).1) (hm : w.heap[(g r).1]? = some (.stringIter s pos)) : VRep w q g (.it r N s pos) (.pointer (some ⟨(g r).1, 0, none⟩))
  | mit (r rm N : Nat) (l : List (Value × Value)) (seen : List Nat) (hN : N ≤ (g r).1) (hm : w.heap[(g r).1]? = some (.mapIter (some (g rm).1) l.length seen.toArray l.length)) (hmm : w.heap[(g rm).1]? = some (.map (zB l) l.length)) : VRep w q g (.mit r rm N l seen) (.pointer (some ⟨(g r).1, 0, none⟩))
  | mm (r N : Nat) (l : List (Value × List (Value × Value)) × Nat × Option Nat) (bs : List Nat) (hN : N ≤ (g r).1) (hl : l.1.length = bs.length ∧ l.2.1 ≤ l.1.length) (hbs : ∀ k ∈ bs, N ≤ k ∧ k ≠ (g r).1) (wC : bs.Nodup) (hm : w.heap[(g r).1]? = some (.map (zB (((l.1.map (·.1)).zip (bs.map fun k => .map (some k))).take l.2.1)) l.2.1))
      (hi : ∀ (j : Nat) (x : Value × List (Value × Value)) (k : Nat), l.1[j]? = some x → bs[j]? = some k → w.heap[k]? = some (.map (zB x.2) x.2.length)) : VRep w q g (.mm r N l) (.map (some (gz (g r).1 bs l.2.2)))
  | blk (b N : Nat) (ob : Obj) (v : Value) (hN : N ≤ b) (vO : ∀ cs ty fz, ob ≠ .cells cs ty fz) (hm : w.heap[b]? = some ob) : VRep w q g (.blk b N ob) v
  | junk (v : Value) : VRep w q g .junk v
def Cells (w w' : World) (q : Nat → Prop) : Prop := w.heap.size ≤ w'.heap.size ∧ (∀ (b o : Nat) (u : Value), q b → b < w.heap.size → w.cell? ⟨b, o, none⟩ = some u → w'.cell? ⟨b, o, none⟩ = some u) ∧ ∀ (b : Nat) (ob : Obj), (∀ cs ty fz, ob ≠ .cells cs ty fz) → w.heap[b]? = some ob → w'.heap[b]? = some ob
theorem Cells.map {w w' : World} {q : Nat → Prop} (hw : Cells w w' q) {b : Nat} {es : Array MapEntry} {k : Nat} (h : w.heap[b]? = some (.map es k)) : w'.heap[b]? = some (.map es k) := hw.2.2 _ _ (fun _ _ _ h => by cases h) h
theorem Cells.rfl {w : World} : Cells w w q := ⟨le_refl _, fun _ _ _ _ _ h => h, fun _ _ _ h => h⟩
theorem Below.maps {w w' : World} (hb : Below w.heap.size w w') : ∀ (b : Nat) (ob : Obj), (∀ cs ty fz, ob ≠ .cells cs ty fz) → w.heap[b]? = some ob → w'.heap[b]? = some ob := fun b ob _ h => (hb.block _ (Array.getElem?_eq_some_iff.1 h).1).trans h
theorem DRep.mono {w w' : World} {x : D} {v : Value} (h : DRep w q x v) (hw : Cells w w' q) (hq : ∀ b, q b → b < w.heap.size → q' b) : DRep w' q' x v := by
  induction h with
  | p x => exact .p x
  | sl sz bt rows a cap b o f hcp ha hl hc hr ih =>
    refine .sl sz bt rows a cap b o f hcp (fun zT => ?_) hl (fun i j row u h1 h2 => ?_) ih
    · obtain ⟨h1, h2, h3⟩ := ha zT
      exact ⟨h1, hq b h2 h3, lt_of_lt_of_le h3 hw.1⟩
    · have zT : rows ≠ [] := by rintro rfl; simp at h1
      obtain ⟨_, h4, h5⟩ := ha zT; exact hw.2.1 b _ _ h4 h5 (hc i j row u h1 h2)
  | mp l b hb hm => exact .mp l b ⟨hq b hb.1 hb.2, lt_of_lt_of_le hb.2 hw.1⟩ (hw.map hm)
  | mm l b bs hb hl hqs hm hi => exact .mm l b bs ⟨hq b hb.1 hb.2, lt_of_lt_of_le hb.2 hw.1⟩ hl (fun k hk => ⟨hq k (hqs k hk).1 (hqs k hk).2, lt_of_lt_of_le (hqs k hk).2 hw.1⟩) (hw.map hm) fun j x k h1 h2 => hw.map (hi j x k h1 h2)
theorem VRep.mono {w w' : World} {q q' : Nat → Prop} {g g' : Nat → Nat × Nat} {x : V} {v : Value} (h : VRep w q g x v) (hw : Cells w w' q) (hq : ∀ b, q b → b < w.heap.size → q' b)
    (hg : ∀ r, x.has r = true → g' r = g r) : VRep w' q' g' x v := by
  induction h with
  | d x v h => exact .d x v (h.mono hw hq)
  | ad row b o f hb hc hr => exact .ad row b o f ⟨hq b hb.1 hb.2, lt_of_lt_of_le hb.2 hw.1⟩ (fun j u hu => hw.2.1 b _ _ hb.1 hb.2 (hc j u hu)) (fun j u hu => (hr j u hu).mono hw hq)
  | ref r o =>
    rw [← hg r (by simp [V.has])]; exact .ref r o
  | own r sz n hn vK =>
    have e := hg r (by simp [V.has]); rw [← e] at hn vK ⊢; exact .own r sz n hn vK
  | ownNil r sz => exact .ownNil r sz
  | que r sz o n a cap hn vK h =>
    have e := hg r (by simp [V.has]); rw [← e] at h; exact .que r sz o n a cap hn vK h
  | agg l cs zI h ih =>
    refine .agg l cs zI fun j u c h1 h2 => ih j u c h1 h2 fun r hr => hg r ?_
    cases hh : V.has r (.agg l) with
    | true => rfl
    | false =>
      simp only [V.has] at hh; rw [V.hasL_false.1 hh u (mem_of_getElem? h1)] at hr; exact hr
  | tup l cs zI h ih =>
    refine .tup l cs zI fun j u c h1 h2 => ih j u c h1 h2 fun r hr => hg r ?_
    cases hh : V.has r (.tup l) with
    | true => rfl
    | false =>
      simp only [V.has] at hh; rw [V.hasL_false.1 hh u (mem_of_getElem? h1)] at hr; exact hr
  | fn f l cs zI h ih =>
    refine .fn f l cs zI fun j u c h1 h2 => ih j u c h1 h2 fun r hr => hg r ?_
    cases hh : V.has r (.fn f l) with
    | true => rfl
    | false =>
      simp only [V.has] at hh; rw [V.hasL_false.1 hh u (mem_of_getElem? h1)] at hr; exact hr
  | mp r N l hN hm =>
    have e := hg r (by simp [V.has]); rw [← e] at hN hm ⊢; exact .mp r N l hN (hw.map hm)
  | mq r N l vs hN hl wB hr hm =>
    have e := hg r (by simp [V.has]); rw [← e] at hN hm ⊢
    exact .mq r N l vs hN hl wB (fun j x y i u z h1 h2 h3 h4 => (hr j x y i u z h1 h2 h3 h4).mono hw hq) (hw.map hm)
  | ifc t v x h ih => exact .ifc t v x (ih fun r hr => hg r (by simpa [V.has] using hr))
  | mp2 x r r' N l l' hN hN' zT hm hm' =>
    have e := hg r (by simp [V.has]); have e' := hg r' (by simp [V.has])
    have e2 : (g (if x then r' else r)).1 = (g' (if x then r' else r)).1 := by cases x <;> simp [e, e']
    rw [e2]; exact .mp2 x r r' N l l' (by rw [e]; exact hN) (by rw [e']; exact hN') (by rw [e, e']; exact zT) (by rw [e]; exact hw.map hm) (by rw [e']; exact hw.map hm')
  | it r N s pos hN hm =>
    have e := hg r (by simp [V.has]); rw [← e] at hN hm ⊢
    exact .it r N s pos hN (hw.2.2 _ _ (fun _ _ _ h => by cases h) hm)
  | mit r rm N l seen hN hm hmm =>
    have e := hg r (by simp [V.has]); have e' := hg rm (by simp [V.has]); rw [← e] at hN hm ⊢; rw [← e'] at hm hmm
    exact .mit r rm N l seen hN (hw.2.2 _ _ (fun _ _ _ h => by cases h) hm) (hw.map hmm)
  | mm r N l bs hN hl hbs wC hm hi =>
    have e := hg r (by simp [V.has]); rw [← e] at hN hbs hm ⊢
    exact .mm r N l bs hN hl hbs wC (hw.map hm) fun j x k h1 h2 => hw.map (hi j x k h1 h2)
  | blk b N ob v hN vO hm => exact .blk b N ob v hN vO (hw.2.2 _ _ vO hm)
  | junk v => exact .junk v
structure Row where
  ty : TypeId
  cells : List V
  nil : Bool
  sz : Nat
def fnd {α : Type} : List (Nat × α) → Nat → Option α
  | [], _ => none
  | (k, v) :: r, i => if k == i then some v else fnd r i
structure S where
  n : Nat
  T : List (Nat × V)
  H : List (Nat × Row)
  K : List V
structure Cx where
  P : Program
  w0 : World
  out : Nat → Prop
  kx : List Value
  ds : List Deferred
def qt (c : Cx) (H : List (Nat × Row)) (g : Nat → Nat × Nat) : Nat → Prop := fun b => ¬ c.out b ∧ ∀ r row, fnd H r = some row → row.nil = false → (g r).1 ≠ b
structure Sim (c : Cx) (g : Nat → Nat × Nat) (s : S) (a : Act) (w : World) : Prop where
  size : a.tmps.size = s.n
  defers : a.defers = c.ds
  tmp : ∀ (i : Nat) (v : V), fnd s.T i = some v → ∃ x, a.tmps[i]? = some x ∧ VRep w (qt c s.H g) g v x
  nul : ∀ (r : Nat) (row : Row), fnd s.H r = some row → row.nil = true → row.cells = []
  obj : ∀ (r : Nat) (row : Row), fnd s.H r = some row → row.nil = false → ∃ arr : Array Value, w.heap[(g r).1]? = some (.cells arr row.ty (0, 0)) ∧ (row.sz ≠ 0 → arr.size = (g r).2 * row.sz) ∧ ∀ (j : Nat) (v : V), row.cells[j]? = some v → ∃ x, arr[j]? = some x ∧ VRep w (qt c s.H g) g v x
  keep : ∀ (j : Nat) (v : V) (x : Value), s.K[j]? = some v → c.kx[j]? = some x → VRep w (qt c s.H g) g v x
  inj : ∀ r r' row row', fnd s.H r = some row → row.nil = false → fnd s.H r' = some row' → row'.nil = false → (g r).1 = (g r').1 → r = r'
  base : ∀ r row, fnd s.H r = some row → row.nil = false → c.w0.heap.size ≤ (g r).1
  low : ∀ b, c.out b → b < c.w0.heap.size
  below : Below c.w0.heap.size c.w0 w
def S.clean (s : S) (r : Nat) : Bool := s.T.all (fun x => !x.2.has r) && s.H.all (fun x => x.1 != r && !V.hasL r x.2.cells) && !V.hasL r s.K
theorem vo {α : Type} : ∀ {l : List (Nat × α)} {i : Nat} {v : α}, fnd l i = some v → (i, v) ∈ l
  | [], _, _, h => by simp [fnd] at h
  | (k, u) :: r, i, v, h => by
    simp only [fnd] at h
    split at h
    · grind
    · exact mem_cons_of_mem _ (vo h)
section
variable {c : Cx} {g : Nat → Nat × Nat} {s : S} {a : Act} {w : World}
theorem S.clean_tmp (h : s.clean r = true) {i : Nat} {v : V} (hv : fnd s.T i = some v) : v.has r = false := by
  simp only [S.clean, and_eq_true, all_eq_true, Bool.not_eq_true'] at h; exact h.1.1 _ (vo hv)
theorem S.clean_obj (h : s.clean r = true) {i : Nat} {row : Row} (hv : fnd s.H i = some row) : i ≠ r ∧ ∀ v ∈ row.cells, v.has r = false := by
  simp only [S.clean, and_eq_true, all_eq_true, Bool.not_eq_true'] at h; have := h.1.2 _ (vo hv); simp only [and_eq_true, bne_iff_ne, ne_eq, Bool.not_eq_true'] at this; exact ⟨this.1, V.hasL_false.1 this.2⟩
theorem S.clean_keep (h : s.clean r = true) {i : Nat} {v : V} (hv : s.K[i]? = some v) : v.has r = false := by
  simp only [S.clean, and_eq_true, all_eq_true, Bool.not_eq_true'] at h; exact V.hasL_false.1 h.2 v (mem_of_getElem? hv)
def S.ev (s : S) : Operand → Option V
  | .tmp t => fnd s.T t
  | .const v => some (.d (.p v))
  | .global g => some (.d (.p (.pointer (some ⟨g, 0, none⟩))))
  | .func f => some (.fn f [])
theorem Sim.ev (h : Sim c g s a w) {x : Operand} {v : V} (hv : s.ev x = some v) : VRep w (qt c s.H g) g v (a.eval x) := by
  cases x with
  | tmp t =>
    obtain ⟨y, h1, h2⟩ := h.tmp t v hv; have : a.eval (.tmp t) = y := by simp [Act.eval, Array.getD_eq_getD_getElem?, h1]
    rw [this]; exact h2
  | const v =>
    simp only [S.ev, Option.some.injEq] at hv; subst hv; exact .d _ _ (.p _)
  | global g =>
    simp only [S.ev, Option.some.injEq] at hv; subst hv; exact .d _ _ (.p _)
  | func f =>
    simp only [S.ev, Option.some.injEq] at hv; subst hv; exact .fn f [] [] rfl (by simp)
def S.put (s : S) (d : Option Tmp) (v : V) : S :=
  match d with
  | some d => { s with T := (d, v) :: s.T }
  | none => s
theorem Sim.put (h : Sim c g s a w) (d : Option Tmp) {v : V} {x : Value} (hd : ∀ k, d = some k → k < s.n) (hv : VRep w (qt c s.H g) g v x) : Sim c g (s.put d v) (a.put d x) w := by
  cases d with
  | none => exact h
  | some d =>
    have hd := hd d rfl; refine ⟨by simpa [Act.put, S.put] using h.size, by simpa [Act.put] using h.defers, ?_, h.nul, h.obj, h.keep, h.inj, h.base, h.low, h.below⟩; intro i u hu; simp only [S.put, fnd] at hu
    split at hu
    · rename_i hk
      simp only [beq_iff_eq] at hk; subst hk; simp only [Option.some.injEq] at hu; subst hu; exact ⟨x, by simp [Act.put, h.size, hd], hv⟩
    · rename_i hk
      obtain ⟨y, h1, h2⟩ := h.tmp i u hu; refine ⟨y, ?_, h2⟩; simp only [Act.put]; rw [Array.getElem?_setIfInBounds_ne (by simpa using hk)]; exact h1
inductive Wk : V → V → Prop
  | refl (v : V) : Wk v v
  | junk (v : V) : Wk .junk v
  | nil (sz bt : Nat) : Wk (.d (.sl sz bt [])) (.d (.p (.slice none 0 0)))
  | que (r sz n : Nat) : Wk (.que r sz 0 n) (.own r sz n false)
theorem Wk.rep {w : World} {g : Nat → Nat × Nat} {v' v : V} {x : Value} (h : Wk v' v) (hv : VRep w q g v x) : VRep w q g v' x := by
  cases h with
  | refl => exact hv
  | junk => exact .junk _
  | nil sz bt =>
    cases hv with
    | d _ _ h =>
      cases h
      exact .d _ _ (.sl sz bt [] none 0 0 0 (fun _ _ => undef) (le_refl 0) (fun h => absurd rfl h) (by simp) (by simp) (by simp))
  | que r sz n =>
    cases hv with
    | own _ _ _ hn vK => exact .que r sz 0 n _ _ hn vK fun _ => ⟨by simp, rfl⟩
structure Less (s' s : S) : Prop where
  n : s'.n = s.n
  T : ∀ (i : Nat) (v : V), fnd s'.T i = some v → ∃ u, fnd s.T i = some u ∧ Wk v u
  H : ∀ (r : Nat) (row' : Row), fnd s'.H r = some row' → ∃ row, fnd s.H r = some row ∧ row'.ty = row.ty ∧ row'.nil = row.nil ∧ row'.sz = row.sz ∧ ∀ (j : Nat) (v : V), row'.cells[j]? = some v → ∃ u, row.cells[j]? = some u ∧ Wk v u
  K : ∀ (j : Nat) (v : V), s'.K[j]? = some v → ∃ u, s.K[j]? = some u ∧ Wk v u
theorem Sim.less (h : Sim c g s a w) {s' : S} (hl : Less s' s) : Sim c g s' a w := by
  have hq : ∀ b, qt c s.H g b → b < w.heap.size → qt c s'.H g b := fun b hb _ => ⟨hb.1, fun r row' hr hn => by obtain ⟨row, h1, _, h2, _, _⟩ := hl.H r row' hr; exact hb.2 r row h1 (h2 ▸ hn)⟩
  have hm : ∀ {v x}, VRep w (qt c s.H g) g v x → VRep w (qt c s'.H g) g v x := fun hv => hv.mono Cells.rfl hq (fun r _ => rfl)
  refine ⟨by rw [hl.n]; exact h.size, h.defers, ?_, ?_, ?_, ?_, ?_, ?_, h.low, h.below⟩
  · intro i v hv
    obtain ⟨u, h1, h2⟩ := hl.T i v hv; obtain ⟨x, h3, h4⟩ := h.tmp i u h1; exact ⟨x, h3, h2.rep (hm h4)⟩
  · intro r row' hr hn
    obtain ⟨row, h1, h2, h3, _, h4⟩ := hl.H r row' hr; have h0 := h.nul r row h1 (h3 ▸ hn)
    cases hc : row'.cells with
    | nil => rfl
    | cons v l =>
      obtain ⟨u, h5, _⟩ := h4 0 v (by simp [hc]); simp [h0] at h5
  · intro r row' hr hn
    obtain ⟨row, h1, h2, h3, hz, h4⟩ := hl.H r row' hr; obtain ⟨arr, h5, hzz, h6⟩ := h.obj r row h1 (h3 ▸ hn); refine ⟨arr, by rw [h2]; exact h5, by rw [hz]; exact hzz, fun j v hv => ?_⟩; obtain ⟨u, h7, h8⟩ := h4 j v hv; obtain ⟨x, h9, h10⟩ := h6 j u h7; exact ⟨x, h9, h8.rep (hm h10)⟩
  · intro j v x h1 h2
    obtain ⟨u, h3, h4⟩ := hl.K j v h1; exact h4.rep (hm (h.keep j u x h3 h2))
  · intro r r' row row' h1 n1 h2 n2 h3
    obtain ⟨_, k1, _, m1, _, _⟩ := hl.H r row h1; obtain ⟨_, k2, _, m2, _, _⟩ := hl.H r' row' h2; exact h.inj r r' _ _ k1 (m1 ▸ n1) k2 (m2 ▸ n2) h3
  · intro r row h1 n1
    obtain ⟨_, k1, _, m1, _, _⟩ := hl.H r row h1; exact h.base r _ k1 (m1 ▸ n1)
theorem Sim.move (h : Sim c g s a w) {w' : World} (hb : Below w.heap.size w w') : Sim c g s a w' := by
  have hw : Cells w w' (qt c s.H g) := ⟨hb.size, fun b o u _ h1 h2 => (hb.cell (p := ⟨b, o, none⟩) h1).trans h2, Below.maps hb⟩
  have zk : ∀ {b o}, w.heap[b]? = some o → b < w.heap.size := fun h => (Array.getElem?_eq_some_iff.1 h).1
  have hm : ∀ {v x}, VRep w (qt c s.H g) g v x → VRep w' (qt c s.H g) g v x := fun hv => hv.mono hw (fun _ h _ => h) (fun r _ => rfl)
  refine ⟨h.size, h.defers, ?_, h.nul, ?_, ?_, h.inj, h.base, h.low, h.below.trans (hb.mono h.below.size)⟩
  · intro i v hv
    obtain ⟨x, h1, h2⟩ := h.tmp i v hv; exact ⟨x, h1, hm h2⟩
  · intro r row hr hn
    obtain ⟨arr, h1, hz, h2⟩ := h.obj r row hr hn; refine ⟨arr, (hb.block _ (zk h1)).trans h1, hz, fun j v hv => ?_⟩; obtain ⟨x, h3, h4⟩ := h2 j v hv; exact ⟨x, h3, hm h4⟩
  · intro j v x h1 h2
    exact hm (h.keep j v x h1 h2)
theorem Sim.new (h : Sim c g s a w) {cap : Nat} {row : Row} {cs : Array Value} (hr : s.clean r = true) (hnn : row.nil = false) (vi : V.hasL r row.cells = false) (vK : row.sz ≠ 0 → cs.size = cap * row.sz) (zI : ∀ (j : Nat) (v : V), row.cells[j]? = some v → ∃ x, cs[j]? = some x ∧ VRep w (qt c s.H g) g v x) :
    Sim c (fun k => if k = r then (w.heap.size, cap) else g k) { s with H := (r, row) :: s.H } a (w.alloc (.cells cs row.ty)) ∧
    ∀ v x, v.has r = false → VRep w (qt c s.H g) g v x → VRep (w.alloc (.cells cs row.ty)) (qt c ((r, row) :: s.H) (fun k => if k = r then (w.heap.size, cap) else g k)) (fun k => if k = r then (w.heap.size, cap) else g k) v x := by
  have hb : Below w.heap.size w (w.alloc (.cells cs row.ty)) := (Below.refl _ _).alloc (le_refl _) _; have zk : ∀ {b o}, w.heap[b]? = some o → b < w.heap.size := fun h => (Array.getElem?_eq_some_iff.1 h).1
  have hw : Cells w (w.alloc (.cells cs row.ty)) (qt c s.H g) := ⟨hb.size, fun b o u _ h1 h2 => (hb.cell (p := ⟨b, o, none⟩) h1).trans h2, Below.maps hb⟩
  have hfr : ∀ k row', fnd s.H k = some row' → k ≠ r := fun k row' hk => (S.clean_obj hr hk).1
  have hq : ∀ b, qt c s.H g b → b < w.heap.size → qt c ((r, row) :: s.H) (fun k => if k = r then (w.heap.size, cap) else g k) b := by
    intro b hb zk; refine ⟨hb.1, fun k row' hk hn => ?_⟩
    by_cases e : k = r
    · simp only [e, if_true]; omega
    · simp only [e, if_false]
      simp only [fnd, beq_iff_eq, Ne.symm e, if_false] at hk; exact hb.2 k row' hk hn
  have hm : ∀ v x, v.has r = false → VRep w (qt c s.H g) g v x → VRep (w.alloc (.cells cs row.ty)) (qt c ((r, row) :: s.H) (fun k => if k = r then (w.heap.size, cap) else g k)) (fun k => if k = r then (w.heap.size, cap) else g k) v x := by
    intro v x hv hx; refine hx.mono hw hq fun k hk => ?_; have e : k ≠ r := by rintro rfl; rw [hv] at hk; cases hk
    simp [e]
  refine ⟨⟨h.size, h.defers, ?_, ?_, ?_, ?_, ?_, ?_, h.low, h.below.trans (hb.mono h.below.size)⟩, hm⟩
  · intro i v hv
    obtain ⟨x, h1, h2⟩ := h.tmp i v hv; exact ⟨x, h1, hm v x (S.clean_tmp hr hv) h2⟩
  · intro k row' hk hn
    by_cases e : k = r
    · grind [fnd, Option.some.injEq]
    · simp only [fnd, beq_iff_eq, Ne.symm e, if_false] at hk
      exact h.nul k row' hk hn
  · intro k row' hk hn
    by_cases e : k = r
    · subst e
      simp only [fnd, beq_self_eq_true, if_true, Option.some.injEq] at hk; subst hk; refine ⟨cs, by simp only [if_true]; exact heap_alloc_new w _, by simpa using vK, fun j v hv => ?_⟩; obtain ⟨x, h1, h2⟩ := zI j v hv; exact ⟨x, h1, hm v x (V.hasL_false.1 vi v (mem_of_getElem? hv)) h2⟩
    · simp only [fnd, beq_iff_eq, Ne.symm e, if_false] at hk
      obtain ⟨arr, h1, hz, h2⟩ := h.obj k row' hk hn; refine ⟨arr, by simp only [e, if_false]; exact (hb.block _ (zk h1)).trans h1, by simpa only [e, if_false] using hz, fun j v hv => ?_⟩; obtain ⟨x, h3, h4⟩ := h2 j v hv; exact ⟨x, h3, hm v x ((S.clean_obj hr hk).2 v (mem_of_getElem? hv)) h4⟩
  · intro j v x h1 h2
    exact hm v x (S.clean_keep hr h1) (h.keep j v x h1 h2)
  · intro k k' row1 row2 h1 n1 h2 n2 h3
    by_cases e : k = r
    · by_cases e' : k' = r
      · rw [e, e']
      · simp only [fnd, beq_iff_eq, Ne.symm e', if_false] at h2
        obtain ⟨arr, h4, _⟩ := h.obj k' _ h2 n2; have := zk h4; simp only [e, e', if_true, if_false] at h3; omega
    · simp only [fnd, beq_iff_eq, Ne.symm e, if_false] at h1
      by_cases e' : k' = r
      · obtain ⟨arr, h4, _⟩ := h.obj k _ h1 n1
        have := zk h4; simp only [e, e', if_true, if_false] at h3; omega
      · simp only [fnd, beq_iff_eq, Ne.symm e', if_false] at h2
        simp only [e, e', if_false] at h3; exact h.inj k k' _ _ h1 n1 h2 n2 h3
  · intro k row' hk hn
    by_cases e : k = r
    · simp only [e, if_true]; exact h.below.size
    · simp only [fnd, beq_iff_eq, Ne.symm e, if_false] at hk
      simp only [e, if_false]; exact h.base k _ hk hn
end
theorem own : ownKnob Tryz.prog.godebug = none := by kernel_rfl
theorem qA8 : laidOutB Tryz.prog = true := by kernel_rfl
def q53 {H : Type} (P : Program) (t : TypeId) (d : DataW H) : Prop := ∀ n ∈ d.weights P t, n ≤ reachBytes
section
variable {H : Type} {enc : TypeId × Value → H} {P : Program} {w : World} {base : Nat} {spare : Nat → Bool} {q54 : Bool}
theorem qr6 {ts : List TypeId} {ds : List (DataW H)} (h : (DataW.weightsEach P ts ds).all (· ≤ reachBytes) = true) {t : TypeId} {d : DataW H} (ht : ts[j]? = some t) (hd : ds[j]? = some d) : q53 P t d := by
  intro n hn; have := List.all_eq_true.1 h _ (DataW.weights_mem_each ht hd n hn)
  simpa using this
theorem qb7 {e : TypeId} : ∀ {l : List (DataW H)} {x : DataW H}, x ∈ l → ∀ n ∈ x.weights P e, n ∈ DataW.weightsAll P e l
  | [], _, h, _, _ => by simp at h
  | y :: r, x, h, n, hn => by
    rw [DataW.weightsAll]
    rcases List.mem_cons.1 h with rfl | h'
    · exact List.mem_append_left _ hn
    · exact List.mem_append_right _ (qb7 h' n hn)
theorem jh0 {t e : TypeId} {elems rest : List (DataW H)} (hu : P.underlying t = some (.slice e)) (h : q53 P t (.slice elems rest)) {x : DataW H} (hx : x ∈ elems) : q53 P e x := by
  intro n hn; refine h n ?_; rw [DataW.weights, hu]; exact mem_cons_of_mem _ (List.mem_append_left _ (qb7 hx n hn))
theorem jo2 {t e : TypeId} {elems rest : List (DataW H)} (hu : P.underlying t = some (.slice e)) (h : q53 P t (.slice elems rest)) : (elems.length + rest.length) * P.bytesOf e ≤ reachBytes := by
  refine h _ ?_; rw [DataW.weights, hu]; exact mem_cons_self
theorem qv9 {t : TypeId} {fs : Array Field} {parts : List (DataW H)} (hu : P.underlying t = some (.struct fs)) (h : q53 P t (.agg parts)) {f : Field} {d : DataW H} (hf : fs[j]? = some f) (hd : parts[j]? = some d) : q53 P f.type d := by
  intro n hn; refine h n ?_; rw [DataW.weights, hu]; exact DataW.weights_mem_each (j := j) (by simp [hf]) hd n hn
theorem j35 {α : Type} [Inhabited α] {t e : TypeId} {fuel sz bytes : Nat} {v : Value} {d : DataW H} {p : List MemPlace} (ht : P.underlying t = some (.slice e)) (hc : P.cellsOf e = sz) (xz : 0 < sz) (hb : P.bytesOf e = bytes) (cells : α → List Value) (Good : α → Prop)
    (elem : ∀ n cs y q, DataW.trod enc P w base spare q54 n e cs = some (y, q) → q53 P e y → cs.length = sz → ∃ x, cs = cells x ∧ Good x)
    (h : DataW.trod enc P w base spare q54 fuel t [v] = some (d, p)) (fit : q53 P t d) :
    ∃ l : List α, SlAt w sz bytes cells v l ∧ ∀ x ∈ l, Good x := by
  rcases open_slice ht h with ⟨hv, hx⟩ | ⟨a, len, cap, m, n, D, Pl, hv, _, hl, hm, hmm, hx, hel⟩
  · simp only [List.cons.injEq, and_true] at hv
    subst hv; exact ⟨[], SlAt.nil _ _ _ _, by simp⟩
  · simp only [List.cons.injEq, and_true] at hv
    subst hv; simp only [Prod.mk.injEq] at hx; obtain ⟨rfl, _⟩ := hx
    have hlm : len ≤ m := by rw [hmm]; split <;> omega
    have key : ∀ i, i < len → ∃ x, (∀ j, j < sz → w.cell? ((a.add (i * sz)).add j) = (cells x)[j]?) ∧ (cells x).length = sz ∧ Good x := by
      intro i hi; obtain ⟨cs, h1, h2⟩ := hel i (by omega); rw [hc] at h1; obtain ⟨_, h3, h4⟩ := World.cells?_some h1; obtain ⟨x, rfl, hg⟩ := elem n cs _ _ h2 (jh0 ht fit (by simp; exact ⟨i, hi, rfl⟩)) h3; exact ⟨x, h4, h3, hg⟩
    obtain ⟨f, hf⟩ := choose_lt key
    have jB2 : 0 < len → a.spot = none := by
      intro h0; obtain ⟨k1, k2, _⟩ := hf 0 h0; have k3 := k1 0 xz; rw [List.getElem?_eq_getElem (by omega)] at k3; simp only [Nat.zero_mul, Addr.add] at k3; simp only [if_true] at k3
      cases hs : a.spot with
      | none => rfl
      | some s =>
        unfold World.cell? at k3; rw [hs] at k3
        revert k3
        cases w.heap[a.block]? with
        | none => simp
        | some o => cases o <;> simp
    have zI := jo2 ht fit; simp only [length_map, List.length_range, hb] at zI; refine ⟨(List.range len).map f, ⟨some a, cap, by simp, ?_, ⟨(fun h => by cases h), by simpa using hl⟩, ?_⟩, ?_⟩
    · have h1 : len * bytes ≤ (len + (m - len)) * bytes := Nat.mul_le_mul_right _ (by omega)
      simp only [length_map, List.length_range]; unfold reachBytes at zI; omega
    · intro i hi
      simp only [length_map, List.length_range] at hi; refine ⟨a.block, a.off, f i, ?_, by simp [List.getElem?_map, List.getElem?_range hi], fun j hj => ?_⟩
      · have := jB2 (by omega)
        cases a
        simp_all
      · have h1 := (hf i hi).1 j hj
        have ha : a = ⟨a.block, a.off, none⟩ := by
          have := jB2 (by omega)
          cases a
          simp_all
        rw [ha, wN, wN] at h1; exact h1
    · intro x hx
      obtain ⟨i, hi, rfl⟩ := List.mem_map.1 hx; exact (hf i (by simpa using hi)).2.2
end
section
variable {H : Type} {enc : TypeId × Value → H} {w : World} {base : Nat} {spare : Nat → Bool} {q54 : Bool}
theorem jo3 : ∀ n cs y q, DataW.trod enc prog w base spare q54 n 47 cs = some (y, q) → q53 prog 47 y → cs.length = 4 → ∃ x, cs = ga x ∧ True := by
  intro n cs y q h _ hl; obtain ⟨y0, y1, y2, y3, m, _, _, h0, h1, h2, h3⟩ := trod_struct4 underlying47 h
  match cs, hl with
  | [c0, c1, c2, c3], _ =>
    have k : prog.cellsOf 3 = 1 := by kernel_rfl
    simp only [k, drop_zero, drop_succ_cons, List.take_succ_cons, take_zero] at h0 h1 h2 h3; obtain ⟨n0, e0, _, _⟩ := DataW.trod_int underlying3 h0; obtain ⟨n1, e1, _, _⟩ := DataW.trod_int underlying3 h1; obtain ⟨n2, e2, _, _⟩ := DataW.trod_int underlying3 h2; obtain ⟨n3, e3, _, _⟩ := DataW.trod_int underlying3 h3; simp only [List.cons.injEq, and_true] at e0 e1 e2 e3; subst e0 e1 e2 e3
    exact ⟨⟨n0, n1, n2, n3⟩, rfl, trivial⟩
theorem ja5 : ∀ n cs y q, DataW.trod enc prog w base spare q54 n 35 cs = some (y, q) → q53 prog 35 y → cs.length = 2 → ∃ x, cs = bB x ∧ qv8 w x.2.1 x.2.2 := by
  intro n cs y q h fit hl; obtain ⟨y0, y1, m, hy, _, h0, h1⟩ := trod_struct2 underlying35 h; simp only [Prod.mk.injEq] at hy; obtain ⟨rfl, _⟩ := hy
  match cs, hl with
  | [c0, c1], _ =>
    have k : prog.cellsOf 3 = 1 := by kernel_rfl
    have k' : prog.cellsOf 33 = 1 := by kernel_rfl
    simp only [k, k', drop_zero, drop_succ_cons, List.take_succ_cons, take_zero] at h0 h1; obtain ⟨n0, e0, _, _⟩ := DataW.trod_int underlying3 h0; simp only [List.cons.injEq, and_true] at e0; subst e0
    obtain ⟨l, h2, _⟩ := j35 underlying33 (by kernel_rfl) (by omega) (by kernel_rfl) ga (fun _ => True) jo3 h1 (qv9 (j := 1) underlying35 fit rfl rfl)
    exact ⟨(n0, c1, l), rfl, h2⟩
theorem q55 {v : Value} {d : DataW H} {p : List MemPlace} {r : Reach} (hv : Value.okWide prog w r b0 24 v) (h : DataW.Trod enc prog w base spare q54 24 v d p) (fit : q53 prog 24 d) : ∃ m, qj9 w v m := by
  obtain ⟨v0, v1, y0, y1, n, rfl, rfl, _, h0, h1⟩ := open_agg2 underlying24 (by kernel_rfl) (by kernel_rfl) hv h; obtain ⟨n0, e0, _, _⟩ := DataW.trod_int underlying3 h0; simp only [List.cons.injEq, and_true] at e0; subst e0
  obtain ⟨l, h2, h3⟩ := j35 underlying22 (by kernel_rfl) (by omega) (by kernel_rfl) bB (fun x => qv8 w x.2.1 x.2.2) ja5 h1 (qv9 (j := 1) underlying24 fit rfl rfl)
  exact ⟨⟨n0, l.map fun x => ⟨x.1, x.2.2⟩⟩, v1, rfl, l, rfl, h2, h3⟩
end
def QQ (c : Cx) (Q : Exit → S → Prop) : Exit → Act → World → Prop := fun e a w => ∃ g s, Q e s ∧ Sim c g s a w
def AW (c : Cx) (code : Code) (Q : Exit → S → Prop) (s : S) : Prop := ∀ g a w, Sim c g s a w → code.wp c.P (QQ c Q) a w
def AL (c : Cx) (ops : Array Oper) (l : List Oper) (Q : Exit → S → Prop) (s : S) : Prop := ∀ g a w, Sim c g s a w → wpList c.P ops (QQ c Q) l a w
def wY (next : S → Prop) (Q : Exit → S → Prop) : Exit → S → Prop
  | .normal, s => next s
  | e, s => Q e s
def ug (id : Nat) (Q : Exit → S → Prop) : Exit → S → Prop
  | .exit id', s => if id' = id then Q .normal s else Q (.exit id') s
  | e, s => Q e s
section
variable {c : Cx} {Q Q' : Exit → S → Prop} {s : S}
theorem QQ.mono (h : ∀ e s, Q e s → Q' e s) {e : Exit} {a : Act} {w : World} (hq : QQ c Q e a w) : QQ c Q' e a w := by
  obtain ⟨g, s, h1, h2⟩ := hq; exact ⟨g, s, h e s h1, h2⟩
theorem AW.mono {x : Code} (h : AW c x Q s) (hq : ∀ e s, Q e s → Q' e s) : AW c x Q' s := fun g a w hs => wp_mono (h g a w hs) fun _ _ _ => QQ.mono hq
theorem AW.less {x : Code} {s' : S} (hl : Less s' s) (h : AW c x Q s') : AW c x Q s := fun g a w hs => h g a w (hs.less hl)
theorem AL.less {ops : Array Oper} {l : List Oper} {s' : S} (hl : Less s' s) (h : AL c ops l Q s') : AL c ops l Q s := fun g a w hs => h g a w (hs.less hl)
theorem qg {x y : Code} (h : AW c x (wY (AW c y Q) Q) s) : AW c (.seq x y) Q s := fun g a w hs => wp_seq (wp_mono (h g a w hs) fun e a' w' hq => by
  obtain ⟨g', s', h1, h2⟩ := hq
  cases e <;> first | exact h1 g' a' w' h2 | exact ⟨g', s', h1, h2⟩)
theorem qn {x y : Code} (M : S → Prop) (h : AW c x (wY (fun s => ∃ s', Less s' s ∧ M s') Q) s) (hM : ∀ s, M s → AW c y Q s) : AW c (.seq x y) Q s :=
  qg (h.mono fun e s hq => by
    cases e
    case normal => obtain ⟨s', h1, h2⟩ := hq; exact AW.less h1 (hM s' h2)
    all_goals exact hq)
theorem jo (h : Q .normal s) : AW c .skip Q s := fun g a w hs => wp_skip ⟨g, s, h, hs⟩
theorem qM (h : Q .ret s) : AW c .ret Q s := fun g a w hs => wp_ret ⟨g, s, h, hs⟩
theorem jp (h : Q (.exit id) s) : AW c (.exit id) Q s := fun g a w hs => wp_exit ⟨g, s, h, hs⟩
theorem jq {x : Code} (h : AW c x (ug id Q) s) : AW c (.block id x) Q s := fun g a w hs => wp_block (wp_mono (h g a w hs) fun e a' w' hq => by
  obtain ⟨g', s', h1, h2⟩ := hq
  cases e <;> try exact ⟨g', s', h1, h2⟩
  rename_i id'
  simp only [ug] at h1; simp only [Exit.inBlock]
  split <;> rename_i hh
  · rw [if_pos hh] at h1; exact ⟨g', s', h1, h2⟩
  · rw [if_neg hh] at h1; exact ⟨g', s', h1, h2⟩)
theorem VRep.p_eq {w : World} {g : Nat → Nat × Nat} {x y : Value} (h : VRep w q g (.d (.p x)) y) : y = x := by
  cases h with | d _ _ h => cases h; rfl
theorem j7 {t e : Code} {b : Bool} (hc : s.ev x = some (.d (.p (.bool b)))) (ht : b = true → AW c t Q s) (hf : b = false → AW c e Q s) : AW c (.cond x t e) Q s := fun g a w hs =>
  wp_cond_split (VRep.p_eq (hs.ev hc)) (fun h => ht h g a w hs) (fun h => hf h g a w hs)
theorem qz {t e : Code} {p : Prop} [Decidable p] (hc : s.ev x = some (.d (.p (.bool (decide p))))) (ht : p → AW c t Q s) (hf : ¬ p → AW c e Q s) : AW c (.cond x t e) Q s :=
  j7 hc (fun h => ht (of_decide_eq_true h)) (fun h => hf (of_decide_eq_false h))
theorem j8 {l : List Oper} (h : AL c l.toArray l Q s) : AW c (.region id l.toArray false) Q s := fun g a w hs => wp_region_lit (h g a w hs)
theorem jE {ops : Array Oper} (h : Q .normal s) : AL c ops [] Q s := fun g a w hs => ⟨g, s, h, hs⟩
theorem gS {p : Nat → Prop} (h : ∃ n, p n) : ∃ n, p n ∧ ∀ m, p m → n ≤ m := by
  obtain ⟨n, hn⟩ := h
  induction n using Nat.strongRecOn with
  | _ n ih =>
    by_cases h : ∃ m, m < n ∧ p m
    · obtain ⟨m, h1, h2⟩ := h
      exact ih m h1 h2
    · grind
open Classical in
theorem qb {x : Code} (I : S → Prop) (μ : S → Nat) (h0 : ∃ s', Less s' s ∧ I s')
    (round : ∀ s, I s → AW c x (wY (fun s' => ∃ s'', Less s'' s' ∧ I s'' ∧ μ s'' < μ s) Q) s) : AW c (.loop x) Q s := by
  intro g a w hs
  have key : ∀ a w, (∃ g s, I s ∧ Sim c g s a w) → ∃ n, (∃ g s, I s ∧ Sim c g s a w ∧ μ s = n) ∧ ∀ m, (∃ g s, I s ∧ Sim c g s a w ∧ μ s = m) → n ≤ m :=
    fun a w ⟨g, s, h1, h2⟩ => gS ⟨μ s, g, s, h1, h2, rfl⟩
  refine wp_loop (fun a w => ∃ g s, I s ∧ Sim c g s a w) (fun a w => if h : ∃ g s, I s ∧ Sim c g s a w then Classical.choose (key a w h) else 0) ?_ ?_
  · obtain ⟨s', h1, h2⟩ := h0
    exact ⟨g, s', h2, hs.less h1⟩
  · intro a w hI
    obtain ⟨⟨g, s, h1, h2, h3⟩, h4⟩ := Classical.choose_spec (key a w hI); refine wp_mono (round s h1 g a w h2) fun e a' w' hq => ?_; obtain ⟨g', s', h5, h6⟩ := hq
    cases e
    case normal =>
      obtain ⟨s'', h7, h8, h9⟩ := h5; have hI' : ∃ g s, I s ∧ Sim c g s a' w' := ⟨g', s'', h8, h6.less h7⟩; refine ⟨hI', ?_⟩; simp only [dif_pos hI, dif_pos hI']; have := (Classical.choose_spec (key a' w' hI')).2 (μ s'') ⟨g', s'', h8, h6.less h7, rfl⟩; omega
    all_goals exact ⟨g', s', h5, h6⟩
def vm (c : Cx) (o : Oper) (s : S) (N : S → Prop) : Prop := ∀ g a w, Sim c g s a w → ∀ (K : Act → World → Prop) (Q : Exit → Act → World → Prop),
  (∀ g' s' a' w', N s' → Sim c g' s' a' w' → K a' w') → o.wp c.P a w K Q
def StepM (c : Cx) (o : Oper) (s : S) (N : S → Prop) : Prop := ∀ g a w, Sim c g s a w → ∀ (K : Act → World → Prop) (Q : Exit → Act → World → Prop),
  (∀ g' s' a' w', N s' → Sim c g' s' a' w' → Below w.heap.size w w' → K a' w') → o.wp c.P a w K Q
def RD (c : Cx) (o : Oper) (s : S) (v : V) : Prop := ∀ g a w, Sim c g s a w → ∃ x, VRep w (qt c s.H g) g v x ∧ ∀ w', Below w.heap.size w w' → (execOp a.eval o).run c.P w' = .ok (.value x) w'
def RP (c : Cx) (o : Oper) (s : S) (v : V) : Prop := ∀ g a w, Sim c g s a w → ∃ x, VRep w (qt c s.H g) g v x ∧ ∀ w', (execOp a.eval o).run c.P w' = .ok (.value x) w'
theorem RP.rd {o : Oper} {v : V} (h : RP c o s v) : RD c o s v := fun g a w hs => by
  obtain ⟨x, h1, h2⟩ := h g a w hs
  exact ⟨x, h1, fun w' _ => h2 w'⟩
def dok (s : S) (o : Oper) : Bool := match o.dst with | some d => decide (d < s.n) | none => true
theorem zJ {s : S} {o : Oper} (h : dok s o = true) : ∀ k, o.dst = some k → k < s.n := by grind [dok]
theorem RD.stepM {o : Oper} {v : V} {N : S → Prop} (h : RD c o s v) (hd : dok s o = true) (hN : N (s.put o.dst v)) : StepM c o s N := by
  intro g a w hs K Q hK; obtain ⟨x, h1, h2⟩ := h g a w hs; unfold Oper.wp; rw [h2 w (Below.refl _ _)]; exact hK g _ _ _ hN (hs.put o.dst (zJ hd) h1) (Below.refl _ _)
theorem StepM.step {o : Oper} {N : S → Prop} (h : StepM c o s N) : vm c o s N := fun g a w hs K Q hK => h g a w hs K Q fun g' s' a' w' h1 h2 _ => hK g' s' a' w' h1 h2
theorem qN {ops : Array Oper} {o : Oper} {rest : List Oper} (hg : o.guard = none) (h : vm c o s (AL c ops rest Q)) : AL c ops (o :: rest) Q s := fun g a w hs =>
  wpList_plain hg fun K hK => h g a w hs K _ fun g' s' a' w' h1 h2 => hK a' w' (h1 g' a' w' h2)
theorem j9 {ops : Array Oper} {o : Oper} {rest : List Oper} (hg : o.guard = none) (h : StepM c o s (AL c ops rest Q)) : AL c ops (o :: rest) Q s := qN hg h.step
theorem AL.rd {ops : Array Oper} {o : Oper} {rest : List Oper} {v : V} (hg : o.guard = none) (hd : dok s o = true) (h : RD c o s v) (hN : AL c ops rest Q (s.put o.dst v)) : AL c ops (o :: rest) Q s :=
  qN hg (h.stepM hd hN).step
theorem qe {ops : Array Oper} {o : Oper} {rest : List Oper} {v : V} (hg : o.guard = none) (hd : dok s o = true) (h : RP c o s v) (hN : AL c ops rest Q (s.put o.dst v)) : AL c ops (o :: rest) Q s := AL.rd hg hd h.rd hN
def yld (ops : Array Oper) (s : S) (j : Nat) : Option Bool :=
  match (ops[j]?).bind (·.dst) with
  | some d => match fnd s.T d with
    | some (.d (.p (.bool b))) => some b
    | _ => none
  | none => none
theorem yn {ops : Array Oper} {b : Bool} {g : Nat → Nat × Nat} {a : Act} {w : World} (h : yld ops s j = some b) (hs : Sim c g s a w) : yielded ops a.tmps j = some b := by
  simp only [yld] at h
  split at h
  · rename_i d hd
    split at h
    · rename_i b' hb
      simp only [Option.some.injEq] at h; subst h; obtain ⟨x, h1, h2⟩ := hs.tmp d _ hb; have := VRep.p_eq h2; subst this; simp [yielded, hd, h1]
    · cases h
  · cases h
theorem jr {ops : Array Oper} {o : Oper} {rest : List Oper} {b : Bool} (hg : o.guard = some (j, b)) (hy : yld ops s j = some b) (h : vm c o s (AL c ops rest Q)) : AL c ops (o :: rest) Q s := fun g a w hs =>
  wpList_step fun K hK => by
    have hw : Region.wanted o (yielded ops a.tmps) = true := by simp [Region.wanted, hg, yn hy hs]
    rw [if_pos hw]
    exact h g a w hs K _ fun g' s' a' w' h1 h2 => hK a' w' (h1 g' a' w' h2)
theorem jF {ops : Array Oper} {o : Oper} {rest : List Oper} {b b' : Bool} (hg : o.guard = some (j, b)) (hy : yld ops s j = some b') (hb : (b' == b) = false) (hd : dok s o = true) (h : AL c ops rest Q (s.put o.dst .junk)) : AL c ops (o :: rest) Q s := fun g a w hs =>
  wpList_step fun K hK => by
    have hw : ¬ Region.wanted o (yielded ops a.tmps) = true := by
      simp only [Region.wanted, hg, yn hy hs]
      simpa using hb
    rw [if_neg hw]; exact hK _ _ (h g _ w (hs.put o.dst (zJ hd) (.junk _)))
end
abbrev V.i (n : Int) : V := .d (.p (.int .i64 n))
abbrev V.b (b : Bool) : V := .d (.p (.bool b))
abbrev V.s (s : ByteArray) : V := .d (.p (.string s))
abbrev V.nil : V := .d (.p (.slice none 0 0))
def Inf (P : Program) (t : TypeId) (sz bt : Nat) (z : Value) : Prop := (P.info? t).map (fun i => (i.size, i.bytes, i.zero)) = some (sz, bt, some z)
theorem Inf.out {P : Program} {t : TypeId} {sz : Nat} {z : Value} (h : Inf P t sz bt z) : ∃ i, P.info? t = some i ∧ i.size = sz ∧ i.bytes = bt ∧ i.zero = some z := by
  unfold Inf at h
  cases hi : P.info? t with
  | none => rw [hi] at h; cases h
  | some i =>
    rw [hi] at h; simp only [map_some, Option.some.injEq, Prod.mk.injEq] at h; exact ⟨i, rfl, h.1, h.2.1, h.2.2⟩
def wD : TypeDesc → Bool
  | .struct _ => true
  | .array _ _ => true
  | _ => false
theorem q12 {P : Program} {t : TypeId} {d : TypeDesc} (h : P.underlying t = some d) (w : World) : (isAgg t).run P w = .ok (wD d) w := by
  unfold isAgg; simp only [Sem.run_bind, run_underlying h, Result.andThen_ok]
  cases d <;> rfl
theorem vP {P : Program} {t : TypeId} {sz : Nat} {z : Value} (h : Inf P t sz bt z) (w : World) : (sizeOf t).run P w = .ok sz w := by
  obtain ⟨i, h1, h2, _⟩ := h.out; unfold sizeOf typeInfo; simp [h1, h2]
theorem u0 {P : Program} {t : TypeId} {sz : Nat} {z : Value} (h : Inf P t sz bt z) (w : World) : (zeroValue t).run P w = .ok z w := by
  obtain ⟨i, h1, h2, h3, h4⟩ := h.out; unfold zeroValue typeInfo; simp [h1, h4]
section
variable {c : Cx} {s : S} {o : Oper}
theorem vC {v : V} (ho : o.op = .move x) (hx : s.ev x = some v) : RP c o s v := fun g a w hs =>
  ⟨a.eval x, hs.ev hx, fun w' => by simp [execOp, ho]⟩
theorem yE {v : V} (ho : o.op = .assign x) (hx : s.ev x = some v) : RP c o s v := fun g a w hs =>
  ⟨a.eval x, hs.ev hx, fun w' => by simp [execOp, ho]⟩
theorem qb8 {y z : Operand} {b : Bool} {v : V} (ho : o.op = .pick x y z) (hx : s.ev x = some (.b b)) (hv : s.ev (if b then y else z) = some v) : RP c o s v := fun g a w hs =>
  ⟨a.eval (if b then y else z), hs.ev hv, fun w' => by
    have := VRep.p_eq (hs.ev hx)
    cases b <;> simp [execOp, ho, this, asBool]⟩
theorem gl {op : BinOp} {t t' : TypeId} {y : Operand} {u v r : Value} (ho : o.op = .binOp op t x y t') (hx : s.ev x = some (.d (.p u))) (hy : s.ev y = some (.d (.p v)))
    (hr : ∀ w, (do eqGuard op t x y u v; binOp op t u v : Sem Value).run c.P w = .ok r w) : RP c o s (.d (.p r)) := fun g a w hs =>
  ⟨r, .d _ _ (.p _), fun w' => by
    have h := hr w'; simp only [execOp, ho, VRep.p_eq (hs.ev hx), VRep.p_eq (hs.ev hy), Sem.run_bind] at h ⊢; rw [h]
    rfl⟩
theorem qo4 {n : Int} (h1 : -9223372036854775808 ≤ n) (h2 : n ≤ 9223372036854775807) : IntKind.i64.wrap n = n := by
  rw [IntKind.wrap_i64]; omega
theorem qw0 {t t' : TypeId} {y : Operand} {n : Int} (ho : o.op = .binOp .add t x y t') (hx : s.ev x = some (.i m)) (hy : s.ev y = some (.i n))
    (h1 : -9223372036854775808 ≤ m + n ∧ m + n ≤ 9223372036854775807) : RP c o s (.i (m + n)) :=
  gl ho hx hy fun w => by simp [eqGuard, binOp, Op.intArith, qo4 h1.1 h1.2]
theorem jh1 {t t' : TypeId} {y : Operand} {n : Int} (ho : o.op = .binOp .sub t x y t') (hx : s.ev x = some (.i m)) (hy : s.ev y = some (.i n))
    (h1 : -9223372036854775808 ≤ m - n ∧ m - n ≤ 9223372036854775807) : RP c o s (.i (m - n)) :=
  gl ho hx hy fun w => by simp [eqGuard, binOp, Op.intArith, qo4 h1.1 h1.2]
theorem qw1 {t t' : TypeId} {y : Operand} {n : Int} (ho : o.op = .binOp .eql t x y t') (hx : s.ev x = some (.d (.p (.int k m)))) (hy : s.ev y = some (.d (.p (.int k n)))) : RP c o s (.b (decide (m = n))) :=
  gl ho hx hy fun w => by simp [eqGuard, binOp, Op.intCmp]; rfl
theorem qO1 {t t' : TypeId} {y : Operand} {n : Int} (ho : o.op = .binOp .neq t x y t') (hx : s.ev x = some (.d (.p (.int k m)))) (hy : s.ev y = some (.d (.p (.int k n)))) : RP c o s (.b (decide (m ≠ n))) :=
  gl ho hx hy fun w => by
    simp [eqGuard, binOp, Op.intCmp]
    cases h : (m == n) <;> simp_all [bne]
theorem qO2 {t t' : TypeId} {y : Operand} {n : Int} (ho : o.op = .binOp .lss t x y t') (hx : s.ev x = some (.d (.p (.int k m)))) (hy : s.ev y = some (.d (.p (.int k n)))) : RP c o s (.b (decide (m < n))) :=
  gl ho hx hy fun w => by simp [eqGuard, binOp, Op.intCmp]
theorem jh2 {t t' : TypeId} {y : Operand} {n : Int} (ho : o.op = .binOp .leq t x y t') (hx : s.ev x = some (.d (.p (.int k m)))) (hy : s.ev y = some (.d (.p (.int k n)))) : RP c o s (.b (decide (m ≤ n))) :=
  gl ho hx hy fun w => by simp [eqGuard, binOp, Op.intCmp]
theorem jh3 {t t' : TypeId} {y : Operand} {n : Int} (ho : o.op = .binOp .gtr t x y t') (hx : s.ev x = some (.d (.p (.int k m)))) (hy : s.ev y = some (.d (.p (.int k n)))) : RP c o s (.b (decide (n < m))) :=
  gl ho hx hy fun w => by simp [eqGuard, binOp, Op.intCmp]
theorem qO3 {t t' : TypeId} {y : Operand} {n : Int} (ho : o.op = .binOp .geq t x y t') (hx : s.ev x = some (.d (.p (.int k m)))) (hy : s.ev y = some (.d (.p (.int k n)))) : RP c o s (.b (decide (n ≤ m))) :=
  gl ho hx hy fun w => by simp [eqGuard, binOp, Op.intCmp]
theorem qk0 {t : TypeId} {b : Bool} (ho : o.op = .unOp .not t x) (hx : s.ev x = some (.b b)) : RP c o s (.b (!b)) := fun g a w hs =>
  ⟨.bool (!b), .d _ _ (.p _), fun w' => by simp [execOp, ho, VRep.p_eq (hs.ev hx), Op.unary]⟩
theorem qw2 {i : Nat} {l : List V} {v : V} (ho : o.op = .extract x i) (hx : s.ev x = some (.tup l)) (hv : l[i]? = some v) : RP c o s v := fun g a w hs => by
  have h := hs.ev hx; generalize hy : a.eval x = y at h
  cases h with
  | tup _ cs zI h =>
    have zk : i < cs.length := by rw [← zI]; exact (List.getElem?_eq_some_iff.1 hv).1
    refine ⟨cs[i], h i v _ hv (List.getElem?_eq_getElem zk), fun w' => ?_⟩; simp [execOp, ho, hy, Instr.extract, List.getElem?_eq_getElem zk]
theorem un {fn : FuncId} {cap : Array Operand} {vs : List V} (ho : o.op = .makeFunc (.func fn) #[] cap) (hv : cap.toList.map s.ev = vs.map some) : RP c o s (.fn fn vs) := fun g a w hs => by
  have hl : vs.length = (cap.toList.map a.eval).length := by
    have := congrArg List.length hv
    simpa using this.symm
  refine ⟨.func (.func fn) #[] (cap.toList.map a.eval).toArray, .fn _ _ _ hl ?_, fun w' => ?_⟩
  · intro j u y h1 h2
    have h3 := congrArg (fun l => l[j]?) hv; simp only [List.getElem?_map, h1, map_some] at h3 h2
    cases h4 : cap.toList[j]? with
    | none => rw [h4] at h3; cases h3
    | some x =>
      rw [h4] at h3 h2; simp only [map_some, Option.some.injEq] at h3 h2; subst h2; exact hs.ev h3
  · simp [execOp, ho, Instr.makeFunc, ← Array.toList_map]
theorem gm {k : Nat} (ho : o.op = .nilCheck x) (hx : s.ev x = some (.ref r k)) : RP c o s (.ref r k) := fun g a w hs => by
  have h := hs.ev hx; refine ⟨a.eval x, h, fun w' => ?_⟩; generalize hy : a.eval x = y at h
  cases h
  simp [execOp, ho, hy]
theorem xe {t : TypeId} {k k' : Nat} {fs : Array Field} {fd : Field} {sz bt : Nat} {z : Value} (hu : c.P.underlying t = some (.struct fs)) (ho : o.op = .fieldAddr t x f) (hx : s.ev x = some (.ref r k))
    (hf : fs[f]? = some fd) (hi : Inf c.P fd.type sz bt z) (xz : sz ≠ 0) (hk : k + fd.offset = k') : RP c o s (.ref r k') := fun g a w hs => by
  have h := hs.ev hx; refine ⟨.pointer (some ⟨(g r).1, k', none⟩), .ref _ _, fun w' => ?_⟩; generalize hy : a.eval x = y at h
  cases h
  subst hk; simp [execOp, ho, hy, Instr.fieldAt, run_underlying hu, hf, Instr.sureAddr, fieldPlace, vP hi, xz, wN]
theorem gn {t : TypeId} {k : Nat} {row : List D} {fs : Array Field} {fd : Field} {sz bt : Nat} {z : Value} (hu : c.P.underlying t = some (.struct fs)) (ho : o.op = .fieldAddr t x f) (hx : s.ev x = some (.ad row))
    (hf : fs[f]? = some fd) (hi : Inf c.P fd.type sz bt z) (xz : sz ≠ 0) (hk : fd.offset = k) : RP c o s (.ad (row.drop k)) := fun g a w hs => by
  have h := hs.ev hx; generalize hy : a.eval x = y at h
  cases h with
  | ad _ b o' f' hq hc hr =>
    subst hk; refine ⟨.pointer (some ⟨b, o' + fd.offset, none⟩), .ad _ b _ (fun j => f' (fd.offset + j)) hq (fun j u hu => ?_) (fun j u hu => ?_), fun w' => ?_⟩
    · rw [Nat.add_assoc]; exact hc _ u (by simpa using hu)
    · exact hr _ u (by simpa using hu)
    · simp [execOp, ho, hy, Instr.fieldAt, run_underlying hu, hf, Instr.sureAddr, fieldPlace, vP hi, xz, wN]
theorem xO {t : TypeId} {d : TypeDesc} {k : Nat} {row : Row} {v : V} (hu : c.P.underlying t = some d) (hd : wD d = false) (ho : o.op = .load t x) (hx : s.ev x = some (.ref r k)) (hr : fnd s.H r = some row) (hn : row.nil = false) (hv : row.cells[k]? = some v) : RD c o s v := fun g a w hs => by
  have h := hs.ev hx; obtain ⟨arr, h1, _, h2⟩ := hs.obj r row hr hn; obtain ⟨y, h3, h4⟩ := h2 k v hv; refine ⟨y, h4, fun w' hb => ?_⟩; have zk : (g r).1 < w.heap.size := (Array.getElem?_eq_some_iff.1 h1).1; have ux : w'.cell? ⟨(g r).1, k, none⟩ = some y := (hb.cell (p := ⟨(g r).1, k, none⟩) zk).trans ((cell_of_row w _ _ _ _ _ h1).trans h3); generalize hy : a.eval x = z at h
  cases h
  simp [execOp, ho, hy, Instr.loadAt, Instr.sureAddr, loadVar, q12 hu, hd, ux]
theorem vE {t : TypeId} {d : TypeDesc} {row : List D} {v : D} (hu : c.P.underlying t = some d) (hd : wD d = false) (ho : o.op = .load t x) (hx : s.ev x = some (.ad row)) (hv : row[0]? = some v) : RD c o s (.d v) := fun g a w hs => by
  have h := hs.ev hx; generalize hy : a.eval x = z at h
  cases h with
  | ad _ b o' f hq hc hr =>
    refine ⟨f 0, .d _ _ (hr 0 v hv), fun w' hb => ?_⟩; have ux : w'.cell? ⟨b, o', none⟩ = some (f 0) := (hb.cell (p := ⟨b, o', none⟩) hq.2).trans (hc 0 v hv); simp [execOp, ho, hy, Instr.loadAt, Instr.sureAddr, loadVar, q12 hu, hd, ux]
theorem gX {P : Program} {t : TypeId} {d : TypeDesc} {sz : Nat} {z : Value} {w : World} {b o : Nat} {cs : List Value} (hu : P.underlying t = some d) (hd : wD d = true) (hi : Inf P t sz bt z) (hl : cs.length = sz)
    (h : ∀ j v, cs[j]? = some v → w.cell? ⟨b, o + j, none⟩ = some v) : (loadVar t ⟨b, o, none⟩).run P w = .ok (.agg cs.toArray) w := by
  have := run_loadCells_list (P := P) (w := w) ⟨b, o, none⟩ cs (fun j v hj => by rw [wN]; exact h j v hj)
  subst hl; simp [loadVar, q12 hu, hd, vP hi, this]
theorem vQ {t : TypeId} {d : TypeDesc} {k sz : Nat} {z : Value} {row : Row} {l : List V} (hu : c.P.underlying t = some d) (hd : wD d = true) (hi : Inf c.P t sz bt z) (ho : o.op = .load t x) (hx : s.ev x = some (.ref r k)) (hr : fnd s.H r = some row) (hn : row.nil = false)
    (hl : (row.cells.drop k).take sz = l) (zI : l.length = sz) : RD c o s (.agg l) := fun g a w hs => by
  have h := hs.ev hx; obtain ⟨arr, h1, _, h2⟩ := hs.obj r row hr hn; have hat : ∀ (j : Nat) (u : V), l[j]? = some u → row.cells[k + j]? = some u := by grind
  have zk : (g r).1 < w.heap.size := (Array.getElem?_eq_some_iff.1 h1).1; refine ⟨.agg ((List.range sz).map fun j => arr.getD (k + j) undef).toArray, .agg l _ (by simp [zI]) ?_, fun w' hb => ?_⟩
  · intro j u y hj hy
    obtain ⟨y', h3, h4⟩ := h2 _ u (hat j u hj); have hjs : j < sz := by rw [← zI]; exact (List.getElem?_eq_some_iff.1 hj).1
    simp only [List.getElem?_map, List.getElem?_range hjs, map_some, Option.some.injEq] at hy; rw [Array.getD_eq_getD_getElem?, h3] at hy; simp only [getD_some] at hy; subst hy; exact h4
  · have zv := gX (P := c.P) (w := w') (b := (g r).1) (o := k) (cs := (List.range sz).map fun j => arr.getD (k + j) undef) hu hd hi (by simp) (by
      intro j v hj; have hjs : j < sz := by simpa using (List.getElem?_eq_some_iff.1 hj).1
      simp only [List.getElem?_map, List.getElem?_range hjs, map_some, Option.some.injEq] at hj; obtain ⟨y', h3, h4⟩ := h2 _ l[j] (hat j l[j] (List.getElem?_eq_getElem (by omega))); rw [Array.getD_eq_getD_getElem?, h3] at hj; simp only [getD_some] at hj; subst hj
      exact (hb.cell (p := ⟨(g r).1, k + j, none⟩) zk).trans ((cell_of_row w _ _ _ _ _ h1).trans h3))
    generalize hy : a.eval x = y at h
    cases h
    simp [execOp, ho, hy, Instr.loadAt, Instr.sureAddr, zv]
theorem q07 {t : TypeId} {d : TypeDesc} {sz : Nat} {z : Value} {row l : List D} (hu : c.P.underlying t = some d) (hd : wD d = true) (hi : Inf c.P t sz bt z) (ho : o.op = .load t x) (hx : s.ev x = some (.ad row))
    (hl : row.take sz = l) (zI : l.length = sz) : RD c o s (.agg (l.map V.d)) := fun g a w hs => by
  have h := hs.ev hx; generalize hy : a.eval x = y at h
  cases h with
  | ad _ b o' f hq hc hr =>
    have hat : ∀ (j : Nat) (u : D), l[j]? = some u → row[j]? = some u := by grind
    refine ⟨.agg ((List.range sz).map f).toArray, .agg _ _ (by simp [zI]) ?_, fun w' hb => ?_⟩
    · intro j u y hj hy
      have hjs : j < sz := by have := (List.getElem?_eq_some_iff.1 hj).1; simp at this; omega
      simp only [List.getElem?_map, List.getElem?_range hjs, map_some, Option.some.injEq] at hy; subst hy; rw [List.getElem?_map] at hj
      cases hk : l[j]? with
      | none => rw [hk] at hj; cases hj
      | some u' =>
        rw [hk] at hj; simp only [map_some, Option.some.injEq] at hj; subst hj; exact .d _ _ (hr j u' (hat j u' hk))
    · have zv := gX (P := c.P) (w := w') (b := b) (o := o') (cs := (List.range sz).map f) hu hd hi (by simp) (by
        intro j v hj; have hjs : j < sz := by simpa using (List.getElem?_eq_some_iff.1 hj).1
        simp only [List.getElem?_map, List.getElem?_range hjs, map_some, Option.some.injEq] at hj; subst hj
        exact (hb.cell (p := ⟨b, o' + j, none⟩) hq.2).trans (hc j l[j] (hat j _ (List.getElem?_eq_getElem (by omega)))))
      simp [execOp, ho, hy, Instr.loadAt, Instr.sureAddr, zv]
theorem vj {t e : TypeId} {i : Operand} {sz n k : Nat} {z : Value} (hu : c.P.underlying t = some (.slice e)) (hi : Inf c.P e sz bt z) (ho : o.op = .indexAddr t x i) (hx : s.ev x = some (.own r sz n false)) (hy : s.ev i = some (.d (.p (.int kd n'))))
    (hk : n' = (k : Int)) (zk : k < n) : RP c o s (.ref r (k * sz)) := fun g a w hs => by
  have h := hs.ev hx; refine ⟨.pointer (some ⟨(g r).1, k * sz, none⟩), .ref _ _, fun w' => ?_⟩; generalize hyy : a.eval x = y at h
  cases h with
  | own _ _ _ hn vK =>
    subst hk; have xn : (k : Int) < n := by omega
    simp [execOp, ho, hyy, VRep.p_eq (hs.ev hy), Instr.indexAt, asIntOf, run_underlying hu, vP hi, xn, wN, zk]
theorem j12 {t e : TypeId} {i : Operand} {sz bt' k : Nat} {z : Value} {rows : List (List D)} {row : List D} (hu : c.P.underlying t = some (.slice e)) (hi : Inf c.P e sz bt z) (ho : o.op = .indexAddr t x i) (hx : s.ev x = some (.d (.sl sz bt' rows))) (hy : s.ev i = some (.d (.p (.int kd n'))))
    (hk : n' = (k : Int)) (hr : rows[k]? = some row) : RP c o s (.ad row) := fun g a w hs => by
  have h := hs.ev hx; generalize hyy : a.eval x = y at h
  cases h with
  | d _ _ h =>
    cases h with
    | sl _ _ _ ad cap b o' f _ ha hl hc vS =>
      have zT : rows ≠ [] := by rintro rfl; simp at hr
      obtain ⟨rfl, hq⟩ := ha zT; have zk : k < rows.length := (List.getElem?_eq_some_iff.1 hr).1; refine ⟨.pointer (some ⟨b, o' + k * sz, none⟩), .ad row b _ (f k) hq (fun j u hu => hc k j row u hr hu) (fun j u hu => vS k j row u hr hu), fun w' => ?_⟩; subst hk; have xn : (k : Int) < rows.length := by omega
      simp [execOp, ho, hyy, VRep.p_eq (hs.ev hy), Instr.indexAt, asIntOf, run_underlying hu, vP hi, xn, wN, zk]
theorem qe3 {ρ : Operand → Value} {t : TypeId} {x : Operand} {w : World} (ho : o.op = .call { callee := .builtin .len, args := #[x], argTypes := #[t] }) {n : Nat} (h : (Builtin.len_ #[t] o.type #[ρ x]).run c.P w = .ok (goInt n) w) : (execOp ρ o).run c.P w = .ok (.value (.int .i64 n)) w := by
  simp only [execOp, ho, resolve, invoke, builtin, Sem.run_bind, Sem.run_pure, Result.andThen_ok, map_toArray, map_cons, map_nil, h]; rfl
theorem ja6 {t e : TypeId} {x : Operand} {r sz n : Nat} {z : Bool} (hu : c.P.underlying t = some (.slice e)) (ho : o.op = .call { callee := .builtin .len, args := #[x], argTypes := #[t] }) (hx : s.ev x = some (.own r sz n z)) : RP c o s (.i (n : Int)) := fun g a w hs => by
  have h := hs.ev hx; refine ⟨.int .i64 n, .d _ _ (.p _), fun w' => qe3 ho ?_⟩; generalize a.eval x = y at h
  cases h <;> simp [Builtin.len_, run_underlying hu]
theorem jh4 {t e : TypeId} {x : Operand} {sz bt' : Nat} {rows : List (List D)} (hu : c.P.underlying t = some (.slice e)) (ho : o.op = .call { callee := .builtin .len, args := #[x], argTypes := #[t] }) (hx : s.ev x = some (.d (.sl sz bt' rows))) : RP c o s (.i (rows.length : Int)) := fun g a w hs => by
  have h := hs.ev hx; refine ⟨.int .i64 rows.length, .d _ _ (.p _), fun w' => qe3 ho ?_⟩; generalize a.eval x = y at h
  cases h with
  | d _ _ h => cases h; simp [Builtin.len_, run_underlying hu]
theorem ja7 {t : TypeId} {x : Operand} {b : ByteArray} (hu : c.P.underlying t = some .string) (ho : o.op = .call { callee := .builtin .len, args := #[x], argTypes := #[t] }) (hx : s.ev x = some (.s b)) : RP c o s (.i (b.size : Int)) := fun g a w hs => by
  refine ⟨.int .i64 b.size, .d _ _ (.p _), fun w' => qe3 ho ?_⟩; rw [VRep.p_eq (hs.ev hx)]; simp [Builtin.len_, run_underlying hu]
end
end Go.Proofs.YthiknkcigcglkaaGreatDoor
