/- The order of arcs as arrange tells it to slices.SortFunc: a closure that lays blocks and draws; nothing else. -/
import Derived.Test.YtjbldphpkkmdpaaBase
import Derived.Test.YtjbldphpkkmdpaaOrder
import Derived.Test.YtjbldphpkkmdpaaSrt
import Derived.Shelf.SlSortCmp.InsertionK
namespace Go.Proofs.Ytjbldphpkkmdpaa
open Go.RowKit
open Go.Sort (grow)
set_option linter.unusedSimpArgs false
set_option linter.unusedVariables false

def c3 (x y : Int) : Int := if x < y then -1 else if y < x then 1 else 0
def lx4 (a b : Int × Int × Int × Int) : Int := if a.1 < b.1 then -1 else if b.1 < a.1 then 1 else if a.2.1 < b.2.1 then -1 else if b.2.1 < a.2.1 then 1 else if a.2.2.1 < b.2.2.1 then -1 else if b.2.2.1 < a.2.2.1 then 1 else c3 a.2.2.2 b.2.2.2
def cfR (a b : Ar) : Int := lx4 (a.i, a.o, a.t, a.w) (b.i, b.o, b.t, b.w)
def cfW (a b : Ar) : Int := lx4 (a.o, a.i, a.t, a.w) (b.o, b.i, b.t, b.w)
theorem cfR_lt (a b : Ar) : decide (cfR a b < 0) = ahd a b := by
  rw [Bool.eq_iff_iff, decide_eq_true_iff, ahd_iff]
  unfold cfR lx4 c3
  simp only
  repeat' split
  all_goals omega
theorem cfW_lt (a b : Ar) : decide (cfW a b < 0) = ahd (flp a) (flp b) := by
  rw [← cfR_lt]; rfl

set_option maxHeartbeats 1000000 in
theorem cmp_at (x y : Int) (w : World) : Calls Try.prog 111 #[.int .i64 x, .int .i64 y] w fun e w' => e = .returned (.int .i64 (c3 x y)) ∧ w' = w := by
  have nan : ∀ (x : Int) (w : World), Calls Try.prog 125 #[.int .i64 x] w fun e w' => e = .returned (.bool false) ∧ w' = w := by
    intro x w
    go_enter Try.func125, Try.ntmps125
    go_wp2
    go_ret
    exact ⟨by simp, rfl⟩
  unfold c3
  by_cases h1 : x < y
  · rw [if_pos h1]
    go_enter Try.func111, Try.ntmps111
    go_wp2_with (go_at_call 125; refine (nan _ _).mono ?_; rintro e w1 ⟨rfl, rfl⟩)
    go_ret
    exact ⟨rfl, rfl⟩
  · rw [if_neg h1]
    by_cases h2 : y < x
    · rw [if_pos h2]
      go_enter Try.func111, Try.ntmps111
      go_wp2_with (go_at_call 125; refine (nan _ _).mono ?_; rintro e w1 ⟨rfl, rfl⟩)
      go_ret
      exact ⟨rfl, rfl⟩
    · rw [if_neg h2]
      go_enter Try.func111, Try.ntmps111
      go_wp2_with (go_at_call 125; refine (nan _ _).mono ?_; rintro e w1 ⟨rfl, rfl⟩)
      go_ret
      exact ⟨rfl, rfl⟩
def lexL : List Int → List Int → Int
  | x :: xs, y :: ys => if c3 x y = 0 then lexL xs ys else c3 x y
  | _, _ => 0
theorem c3_zero {x y : Int} (h : c3 x y = 0) : x = y := by
  unfold c3 at h
  split at h
  · omega
  · split at h <;> omega
theorem c3_self (x : Int) : c3 x x = 0 := by simp [c3]
theorem lexL_self : ∀ l : List Int, lexL l l = 0
  | [] => rfl
  | x :: l => by rw [lexL, if_pos (c3_self x), lexL_self l]
theorem lexL_at : ∀ {xs ys : List Int} {k : Nat} {x y : Int}, xs.take k = ys.take k → xs[k]? = some x → ys[k]? = some y → c3 x y ≠ 0 → lexL xs ys = c3 x y
  | a :: xs, b :: ys, 0, x, y, _, hx, hy, h => by
    simp at hx hy
    subst hx hy
    rw [lexL, if_neg h]
  | a :: xs, b :: ys, k + 1, x, y, ht, hx, hy, h => by
    simp only [List.take_succ_cons, List.cons.injEq] at ht
    obtain ⟨rfl, ht⟩ := ht
    rw [lexL, if_pos (c3_self a)]
    exact lexL_at ht (by simpa using hx) (by simpa using hy) h
  | [], _, k, x, y, _, hx, _, _ => by simp at hx
  | _ :: _, [], k, x, y, _, _, hy, _ => by simp at hy
def keyL (k : Int × Int × Int × Int) : List Int := [k.1, k.2.1, k.2.2.1, k.2.2.2]
theorem lexL_key (a b : Int × Int × Int × Int) : lexL (keyL a) (keyL b) = lx4 a b := by
  unfold keyL lx4 lexL lexL lexL lexL lexL c3
  repeat' split
  all_goals first | rfl | omega | (exfalso; simp_all; done) | simp_all
def Row4 (w : World) (b : Nat) (l : List Int) : Prop := ∀ (k : Nat) (x : Int), l[k]? = some x → w.cell? ⟨b, k, none⟩ = some (.int .i64 x)

set_option maxHeartbeats 1000000 in
theorem cmps_at (n : Nat) (bx by' : Nat) (xs ys : List Int) (w : World) (hn1 : xs.length = n) (hn2 : ys.length = n) (hn : n ≤ 4) (hx : Row4 w bx xs) (hy : Row4 w by' ys) :
    Calls Try.prog 78 #[.slice (some ⟨bx, 0, none⟩) n n, .slice (some ⟨by', 0, none⟩) n n] w fun e w' => e = .returned (.int .i64 (lexL xs ys)) ∧ w' = w := by
  have HX := Lib.hid hx
  have HY := Lib.hid hy
  have H1 := Lib.hid hn1
  have H2 := Lib.hid hn2
  clear hx hy hn1 hn2
  go_enter Try.func78, Try.ntmps78
  go_wp2_with fail
  go_loopw [11] (fun i wr => ∃ k : Nat, k ≤ n ∧ i = .int .i64 k ∧ xs.take k = ys.take k ∧ wr = w) (fun i _ => n - (intOf i).toNat)
  case atStart => exact ⟨0, Nat.zero_le _, rfl, rfl, rfl⟩
  case round =>
    obtain ⟨k, hk, rfl, ht, rfl⟩ := hrel
    have HT := Lib.hid ht
    clear ht
    by_cases hlt : k < n
    · obtain ⟨x, hx⟩ : ∃ x, xs[k]? = some x := ⟨_, List.getElem?_eq_getElem (by rw [H1.out]; exact hlt)⟩
      obtain ⟨y, hy⟩ : ∃ y, ys[k]? = some y := ⟨_, List.getElem?_eq_getElem (by rw [H2.out]; exact hlt)⟩
      have cx := HX.out k x hx
      have cy := HY.out k y hy
      have Hx := Lib.hid hx
      have Hy := Lib.hid hy
      clear hx hy
      have hcon := fun W => cmp_at x y W
      have hz := fun h : c3 x y = 0 => c3_zero h
      have hne := fun h : c3 x y ≠ 0 => lexL_at HT.out Hx.out Hy.out h
      have Hz := Lib.hid hz
      have Hne := Lib.hid hne
      clear hz hne
      generalize c3 x y = z at hcon Hz Hne
      by_cases hz0 : z = 0
      · have HE := Lib.hid (Hz.out hz0)
        clear Hz Hne
        subst hz0
        go_wp2_with (go_at_call 111; refine (hcon _).mono ?_; rintro e w1 ⟨rfl, rfl⟩)
        go_roundw
        case rel =>
          refine ⟨k + 1, by omega, by go_num, ?_, by first | rfl | trivial⟩
          rw [List.take_add_one, List.take_add_one, Hx.out, Hy.out, HT.out, HE.out]
        case measure => simp [intOf]; omega
      · go_wp2_with (go_at_call 111; refine (hcon _).mono ?_; rintro e w1 ⟨rfl, rfl⟩)
        go_ret
        exact ⟨by rw [Hne.out hz0]; rfl, rfl⟩
    · go_wp2_with fail
      go_ret
      have e : xs = ys := by
        have h := HT.out
        rwa [List.take_of_length_le (by rw [H1.out]; omega), List.take_of_length_le (by rw [H2.out]; omega)] at h
      exact ⟨by rw [e, lexL_self]; rfl, rfl⟩

abbrev arcV (a : Ar) : Value := .agg #[.int .i64 a.i, .int .i64 a.o, .int .i64 a.w, .int .i64 a.t]
abbrev keyV (k : Int × Int × Int × Int) : Value := .agg #[.int .i64 k.1, .int .i64 k.2.1, .int .i64 k.2.2.1, .int .i64 k.2.2.2]
/-- A key: what it computes, and that it lays two blocks. -/
def KeyAt (P : Program) (f : FuncId) (key : Ar → Int × Int × Int × Int) : Prop := ∀ (a : Ar) (w : World), Calls P f #[arcV a] w fun e w' => e = .returned (keyV (key a)) ∧ ∃ o1 o2, w' = (w.alloc o1).alloc o2
theorem heap_alloc2 (w : World) (o1 o2 : Obj) : ((w.alloc o1).alloc o2).heap[w.heap.size + 1]? = some o2 := by
  show ((w.heap.push o1).push o2)[w.heap.size + 1]? = some o2
  rw [Array.getElem?_push, if_pos (by simp)]
theorem readKey_at : KeyAt Try.prog 36 (fun a => (a.i, a.o, a.t, a.w)) := by
  intro a w
  go_enter Try.func36, Try.ntmps36
  go_wp2
  (try simp only [Exit.inBlock, Exit.then]); refine bodyPost_ret (results_cell_row rfl _ _ (w.heap.size + 1) 99 #[.int .i64 a.i, .int .i64 a.o, .int .i64 a.t, .int .i64 a.w] (0, 0) _ rfl (heap_alloc2 _ _ _) Try.underlying99 rfl (by kernel_rfl)) rfl ?_
  exact ⟨rfl, _, _, rfl⟩
theorem writeKey_at : KeyAt Try.prog 43 (fun a => (a.o, a.i, a.t, a.w)) := by
  intro a w
  go_enter Try.func43, Try.ntmps43
  go_wp2
  (try simp only [Exit.inBlock, Exit.then]); refine bodyPost_ret (results_cell_row rfl _ _ (w.heap.size + 1) 99 #[.int .i64 a.o, .int .i64 a.i, .int .i64 a.t, .int .i64 a.w] (0, 0) _ rfl (heap_alloc2 _ _ _) Try.underlying99 rfl (by kernel_rfl)) rfl ?_
  exact ⟨rfl, _, _, rfl⟩
end Go.Proofs.Ytjbldphpkkmdpaa
