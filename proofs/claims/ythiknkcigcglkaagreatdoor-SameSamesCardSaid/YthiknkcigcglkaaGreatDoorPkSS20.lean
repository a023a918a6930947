/- Part 20 of what the law SameSames rests on. -/
import Derived.Test.YthiknkcigcglkaaGreatDoorPkSS13
import Derived.Test.YthiknkcigcglkaaGreatDoorPkSS16
namespace Go.Proofs.YthiknkcigcglkaaGreatDoor
open Go.RowKit
open Go.Proofs.Tryz
open Bool (false_eq_true)
set_option linter.unusedSimpArgs false
set_option linter.unusedVariables false
set_option maxRecDepth 100000
set_option maxHeartbeats 8000000
open Go.Sort (HoldsK grow SWO)
theorem jY7 (bx n : Nat) (xs : List Int) (w : World) (hn1 : xs.length = n) (hn : n ≤ 4) (hx : qh6 w bx xs) :
    Calls prog 69 #[.slice (some ⟨bx, 0, none⟩) n n] w fun e w' => e = .returned (.int .i64 (orI xs)) ∧ w' = w := by
  have HX := Lib.hid hx; have H1 := Lib.hid hn1; clear hx hn1
  go_enter func69, ntmps69
  go_wp2_with fail
  go_loopw [8] (fun i wr => ∃ k : Nat, k ≤ n ∧ i = .int .i64 k ∧ orI (xs.drop k) = orI xs ∧ wr = w) (fun i _ => n - (intOf i).toNat)
  case atStart => exact ⟨0, Nat.zero_le _, rfl, rfl, rfl⟩
  case round =>
    obtain ⟨k, hk, rfl, ht, rfl⟩ := hrel; have HT := Lib.hid ht; clear ht
    by_cases zk : k < n
    · obtain ⟨x, hx⟩ : ∃ x, xs[k]? = some x := ⟨_, List.getElem?_eq_getElem (by rw [H1.out]; exact zk)⟩
      have cx := HX.out k x hx; have Hx := Lib.hid hx; clear hx
      by_cases hz0 : x = 0
      · have Hs := Lib.hid (qR4 Hx.out hz0)
        subst hz0
        go_wp2_with fail
        go_roundw
        case rel => exact ⟨k + 1, by omega, by go_num, by rw [← Hs.out]; exact HT.out, by first | rfl | trivial⟩
        case measure => simp [intOf]; omega
      have He := Lib.hid ((j38 Hx.out hz0).symm.trans HT.out)
      go_wp2_with fail
      go_ret
      exact ⟨by rw [← He.out]; rfl, rfl⟩
    have He := Lib.hid ((j39 (l := xs) (k := k) (by rw [H1.out]; omega)).symm.trans HT.out)
    go_wp2_with fail
    go_ret
    exact ⟨by rw [← He.out]; rfl, rfl⟩
structure uC where
  i : Nat
  o : Nat
  hi : i ≤ 1000000000
  ho : o ≤ 1000000000
instance : Inhabited uC := ⟨⟨0, 0, by omega, by omega⟩⟩
def eL (x : uC) : Int × Int := ((x.i : Int), (x.o : Int))
def cfL (x y : uC) : Int := orI [(x.i : Int) - (y.i : Int), (x.o : Int) - (y.o : Int)]
theorem jw7 (w : World) (b : Nat) (u v : Int) (t : TypeId) (f : Nat × Nat) (hb : b = w.heap.size) : qh6 (w.alloc (.cells #[.int .i64 u, .int .i64 v] t f)) b [u, v] := by
  subst hb; intro k x hx
  have hb : (w.alloc (.cells #[.int .i64 u, .int .i64 v] t f)).heap[w.heap.size]? = some (.cells #[.int .i64 u, .int .i64 v] t f) := by
    show (w.heap.push _)[w.heap.size]? = _
    simp
  simp only [World.cell?, hb, Option.isSome_none, false_eq_true, if_false]
  match k, hx with
  | 0, hx => simp at hx; subst hx; rfl
  | 1, hx => simp at hx; subst hx; rfl
  | k + 2, hx => simp at hx
theorem jf1 (x y : uC) (w : World) : Calls prog 98 #[.agg #[.int .i64 x.i, .int .i64 x.o], .agg #[.int .i64 y.i, .int .i64 y.o]] w fun e w' => e = .returned (.int .i64 (cfL x y)) ∧ ∃ q os', w' = grow (w.drewN q) os' := by
  obtain ⟨xi, xo, h1, h2⟩ := x; obtain ⟨yi, yo, h3, h4⟩ := y; unfold cfL; simp only
  have hor := fun W b h => jY7 b 2 [(xi : Int) - (yi : Int), (xo : Int) - (yo : Int)] W rfl zg h
  generalize orI [(xi : Int) - (yi : Int), (xo : Int) - (yo : Int)] = z at hor
  go_enter func98, ntmps98
  go_wp2_with (go_at_call 69; refine (hor _ _ (by exact jw7 _ _ _ _ _ _ zx)).mono ?_; rintro e w1 ⟨rfl, rfl⟩)
  go_ret
  refine ⟨rfl, ?_⟩; simp only [Sort.alloc_eq_grow, Sort.grow_grow]; exact ⟨0, _, rfl⟩
theorem gu (x y : uC) : ltOf cfL x y = decide (x.i < y.i ∨ x.i = y.i ∧ x.o < y.o) := by
  unfold ltOf cfL orI orI orI; rw [Bool.eq_iff_iff, decide_eq_true_iff, decide_eq_true_iff]
  split
  · split <;> omega
  omega
theorem jH7 : SWO (ltOf cfL) := ⟨fun a => by rw [gu]; simp, fun a b x h1 h2 => by rw [gu] at h1 h2 ⊢; simp at h1 h2 ⊢; omega, fun a b x h1 h2 => by rw [gu] at h1 h2 ⊢; simp at h1 h2 ⊢; omega⟩
theorem jH8 {x y : uC} (h1 : ltOf cfL x y = false) (h2 : ltOf cfL y x = false) : x = y := by
  rw [gu] at h1 h2; simp at h1 h2; obtain ⟨xi, xo, _, _⟩ := x; obtain ⟨yi, yo, _, _⟩ := y; simp only at h1 h2; obtain rfl : xi = yi := by omega
  obtain rfl : xo = yo := by omega
  rfl
end Go.Proofs.YthiknkcigcglkaaGreatDoor
