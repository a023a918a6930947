/- What the functions on weights and twins answer, each over every world. No condition but that the integers are 64 bits wide. -/
import Derived.Test.YtophgeegofaioaaBase
namespace Go.Proofs.Ytophgeegofaioaa
open Go.RowKit
set_option linter.unusedSimpArgs false
set_option linter.unusedVariables false

theorem weight_may (x : Int) (w : World) : Calls Try.prog 40 #[.int .i64 x] w fun e w' => e = .returned (.bool (decide (0 ≤ x ∧ x ≤ 1000000001))) ∧ w = w' := by
  go_enter Try.func40, Try.ntmps40
  go_wp2
  all_goals
    go_ret
    refine ⟨ret1b ?_, rfl⟩
    rw [Bool.eq_iff_iff]
    simp
    omega

theorem ref_IsWeight (x : Int) (w : World) : Calls Try.prog 41 #[.int .i64 x] w fun e w' => e = .returned (.bool (decide (0 ≤ x ∧ x ≤ 1000000001))) ∧ w = w' := by
  go_enter Try.func41, Try.ntmps41
  go_wp2
  all_goals
    go_ret
    refine ⟨ret1b ?_, rfl⟩
    rw [Bool.eq_iff_iff]
    simp
    omega

theorem ref_In (n lo hi : Int) (w : World) : Calls Try.prog 54 #[.int .i64 n, .int .i64 lo, .int .i64 hi] w fun e w' => e = .returned (.bool (decide (lo ≤ n ∧ n ≤ hi))) ∧ w = w' := by
  go_enter Try.func54, Try.ntmps54
  go_wp2
  all_goals
    go_ret
    refine ⟨ret1b ?_, rfl⟩
    rw [Bool.eq_iff_iff]
    simp
    omega

def timesV (x y : Int) : Int := if (0 ≤ x ∧ x ≤ 1000000001) ∧ 0 ≤ y ∧ y ≤ 1000000001 then (if x = 1000000001 ∨ y = 1000000001 then 1000000001 else if x + y > 1000000000 then 0 else x + y) else 0
def timesE (x y : Int) : Int := if (0 ≤ x ∧ x ≤ 1000000001) ∧ 0 ≤ y ∧ y ≤ 1000000001 then (if x = 1000000001 ∨ y = 1000000001 then 0 else if x + y > 1000000000 then 4 else 0) else 2

theorem weight_Times (x y : Int) (w : World) : Calls Try.prog 18 #[.int .i64 x, .int .i64 y] w fun e w' => e = .returned (.tuple #[.int .i64 (timesV x y), .int .i64 (timesE x y)]) ∧ w = w' := by
  by_cases hx : 0 ≤ x ∧ x ≤ 1000000001 <;> by_cases hy : 0 ≤ y ∧ y ≤ 1000000001
  all_goals
    go_enter Try.func18, Try.ntmps18
    go_wp2_with (go_at_call 40; refine (weight_may _ _).mono ?_; rintro e w' ⟨rfl, rfl⟩)
    all_goals
      go_ret2
      go_tidy
      refine ⟨ret2ii ?_ ?_, rfl⟩
      all_goals
        simp only [timesV, timesE]
        (repeat' split) <;> first | omega | (simp_all; done) | (simp_all; omega)

theorem ref_Joined (x y : Int) (w : World) : Calls Try.prog 19 #[.int .i64 x, .int .i64 y] w fun e w' => e = .returned (.tuple #[.int .i64 (timesV x y), .int .i64 (timesE x y)]) ∧ w = w' := by
  by_cases hx : 0 ≤ x ∧ x ≤ 1000000001 <;> by_cases hy : 0 ≤ y ∧ y ≤ 1000000001
  all_goals
    go_enter Try.func19, Try.ntmps19
    go_wp2_with (go_at_call 41; refine (ref_IsWeight _ _).mono ?_; rintro e w' ⟨rfl, rfl⟩)
    all_goals
      go_ret2
      go_tidy
      refine ⟨ret2ii ?_ ?_, rfl⟩
      all_goals
        simp only [timesV, timesE]
        (repeat' split) <;> first | omega | (simp_all; done) | (simp_all; omega)

def overV (x y : Int) : Int := if ((0 ≤ x ∧ x ≤ 1000000001) ∧ 0 ≤ y ∧ y ≤ 1000000001) ∧ y ≠ 1000000001 ∧ y ≤ x then (if x = 1000000001 then 1000000001 else x - y) else 0
def overE (x y : Int) : Int := if (0 ≤ x ∧ x ≤ 1000000001) ∧ 0 ≤ y ∧ y ≤ 1000000001 then (if y ≠ 1000000001 ∧ y ≤ x then 0 else 12) else 2

theorem weight_Over (x y : Int) (w : World) : Calls Try.prog 20 #[.int .i64 x, .int .i64 y] w fun e w' => e = .returned (.tuple #[.int .i64 (overV x y), .int .i64 (overE x y)]) ∧ w = w' := by
  by_cases hx : 0 ≤ x ∧ x ≤ 1000000001 <;> by_cases hy : 0 ≤ y ∧ y ≤ 1000000001
  all_goals
    go_enter Try.func20, Try.ntmps20
    go_wp2_with (go_at_call 40; refine (weight_may _ _).mono ?_; rintro e w' ⟨rfl, rfl⟩)
    all_goals
      go_ret2
      go_tidy
      refine ⟨ret2ii ?_ ?_, rfl⟩
      all_goals
        simp only [overV, overE]
        (repeat' split) <;> first | omega | (simp_all; done) | (simp_all; omega)

theorem ref_Left (x y : Int) (w : World) : Calls Try.prog 21 #[.int .i64 x, .int .i64 y] w fun e w' => e = .returned (.tuple #[.int .i64 (overV x y), .int .i64 (overE x y)]) ∧ w = w' := by
  by_cases hx : 0 ≤ x ∧ x ≤ 1000000001 <;> by_cases hy : 0 ≤ y ∧ y ≤ 1000000001
  all_goals
    go_enter Try.func21, Try.ntmps21
    go_wp2_with (go_at_call 41; refine (ref_IsWeight _ _).mono ?_; rintro e w' ⟨rfl, rfl⟩)
    all_goals
      go_ret2
      go_tidy
      refine ⟨ret2ii ?_ ?_, rfl⟩
      all_goals
        simp only [overV, overE]
        (repeat' split) <;> first | omega | (simp_all; done) | (simp_all; omega)

def leastW (xs : List Int) : Int := xs.foldl min 1000000001

theorem min_if (a x : Int) : min a x = if x < a then x else a := by split <;> omega
theorem leastW_snoc (xs : List Int) (x : Int) : leastW (xs ++ [x]) = if x < leastW xs then x else leastW xs := by
  rw [← min_if]
  simp [leastW]

theorem weight_lesser (v : Value) (xs : List Int) (w : World) (h : IntsAt w v xs) : Calls Try.prog 42 #[v] w fun e w' => e = .returned (.int .i64 (leastW xs)) ∧ w = w' := by
  obtain ⟨a, len, cap, rfl, hl, H, Hl⟩ := IntsAt.opens h
  clear h
  go_enter Try.func42, Try.ntmps42
  go_wp2
  go_loop [3, 8] (fun t i => ∃ k : Nat, k ≤ len ∧ i = .int .i64 k ∧ t = .int .i64 (leastW (xs.take k))) (fun _ i => len - (intOf i).toNat)
  case atStart => exact ⟨0, Nat.zero_le _, rfl, rfl⟩
  case round =>
    obtain ⟨k, hk, rfl, rfl⟩ := hrel
    by_cases hlt : k < len
    · obtain ⟨b, o, x, rfl, hx, hcell⟩ := IntsAt.at H.out hlt
      have Hx := Lib.hid hx
      clear hx
      go_wp2
      all_goals
        go_round
        case rel => exact ⟨k + 1, by omega, by go_num, by rw [take_snoc Hx.out, leastW_snoc]⟩
        case measure => simp [intOf]; omega
    · go_wp2
      go_ret
      have : k = len := by omega
      exact ⟨ret1i (by rw [List.take_of_length_le (by rw [Hl.out]; omega)]), rfl⟩

def plusV (x y : Int) : Int := if (0 ≤ x ∧ x ≤ 1000000001) ∧ 0 ≤ y ∧ y ≤ 1000000001 then min x y else 0
def plusE (x y : Int) : Int := if (0 ≤ x ∧ x ≤ 1000000001) ∧ 0 ≤ y ∧ y ≤ 1000000001 then 0 else 2

theorem ints_two (w : World) (x y : Int) (e : TypeId) : IntsAt (w.alloc (.cells #[.int .i64 x, .int .i64 y] e)) (.slice (some ⟨w.heap.size, 0, none⟩) 2 2) [x, y] := by
  refine ⟨_, 2, rfl, by simp, (fun h => by cases h), fun i hi => ?_⟩
  have hi : i < 2 := hi
  rcases (show i = 0 ∨ i = 1 by omega) with rfl | rfl
  · refine ⟨_, _, x, rfl, rfl, fun j hj => ?_⟩
    obtain rfl : j = 0 := by omega
    rw [cell_of_row _ w.heap.size _ _ e (0, 0) (heap_alloc_new w _)]
    rfl
  · refine ⟨_, _, y, rfl, rfl, fun j hj => ?_⟩
    obtain rfl : j = 0 := by omega
    rw [cell_of_row _ w.heap.size _ _ e (0, 0) (heap_alloc_new w _)]
    rfl

theorem weight_Plus (x y : Int) (w : World) : Calls Try.prog 22 #[.int .i64 x, .int .i64 y] w fun e w' => e = .returned (.tuple #[.int .i64 (plusV x y), .int .i64 (plusE x y)]) ∧ Below w.heap.size w w' := by
  by_cases hx : 0 ≤ x ∧ x ≤ 1000000001 <;> by_cases hy : 0 ≤ y ∧ y ≤ 1000000001
  all_goals
    go_enter Try.func22, Try.ntmps22
    go_wp2_with (first | (go_at_call 40; refine (weight_may _ _).mono ?_; rintro e w' ⟨rfl, rfl⟩) | (go_at_call 42; refine (weight_lesser _ [x, y] _ (ints_two w x y _)).mono ?_; rintro e w' ⟨rfl, rfl⟩))
    all_goals
      go_ret2
      go_tidy
      refine ⟨ret2ii ?_ ?_, by first | exact Below.refl _ _ | exact (Below.refl _ _).alloc (Nat.le_refl _) _⟩
      all_goals
        simp only [plusV, plusE, leastW, List.foldl_cons, List.foldl_nil]
        (repeat' split) <;> first | omega | (simp_all; done) | (simp_all; omega)

theorem ref_Added (x y : Int) (w : World) : Calls Try.prog 23 #[.int .i64 x, .int .i64 y] w fun e w' => e = .returned (.tuple #[.int .i64 (plusV x y), .int .i64 (plusE x y)]) ∧ w = w' := by
  by_cases hx : 0 ≤ x ∧ x ≤ 1000000001 <;> by_cases hy : 0 ≤ y ∧ y ≤ 1000000001
  all_goals
    go_enter Try.func23, Try.ntmps23
    go_wp2_with (go_at_call 41; refine (ref_IsWeight _ _).mono ?_; rintro e w' ⟨rfl, rfl⟩)
    all_goals
      go_ret2
      go_tidy
      refine ⟨ret2ii ?_ ?_, rfl⟩
      all_goals
        simp only [plusV, plusE]
        (repeat' split) <;> first | omega | (simp_all; done) | (simp_all; omega)

def allW (xs : List Int) : Bool := xs.all fun x => decide (0 ≤ x ∧ x ≤ 1000000001)
def sumV (xs : List Int) : Int := if xs.length ≤ 400 ∧ allW xs = true then leastW xs else 0
def sumE (xs : List Int) : Int := if xs.length ≤ 400 then (if allW xs = true then 0 else 2) else 1

theorem allW_bad {xs : List Int} {k : Nat} {x : Int} (h : xs[k]? = some x) (hx : ¬ (0 ≤ x ∧ x ≤ 1000000001)) : allW xs = false := by
  rw [Bool.eq_false_iff]
  intro ha
  have := (List.all_eq_true.1 ha) x (List.mem_of_getElem? h)
  exact hx (by simpa using this)

theorem allW_snoc {xs : List Int} {x : Int} (h : allW xs = true) (hx : 0 ≤ x ∧ x ≤ 1000000001) : allW (xs ++ [x]) = true := by
  simp only [allW, List.all_append, Bool.and_eq_true] at h ⊢
  exact ⟨h, by simp [hx]⟩

theorem weight_Sum (v : Value) (xs : List Int) (w : World) (h : IntsAt w v xs) : Calls Try.prog 27 #[v] w fun e w' => e = .returned (.tuple #[.int .i64 (sumV xs), .int .i64 (sumE xs)]) ∧ w = w' := by
  obtain ⟨a, len, cap, rfl, hl, H, Hl⟩ := IntsAt.opens h
  clear h
  by_cases hbig : 400 < len
  · go_enter Try.func27, Try.ntmps27
    go_wp2_with fail
    go_ret2
    exact ⟨ret2ii (by rw [sumV, Hl.out, if_neg (by omega)]) (by rw [sumE, Hl.out, if_neg (by omega)]), rfl⟩
  · go_enter Try.func27, Try.ntmps27
    go_wp2_with fail
    go_loop [11] (fun i => ∃ k : Nat, k ≤ len ∧ i = .int .i64 k ∧ allW (xs.take k) = true) (fun i => len - (intOf i).toNat)
    case atStart => exact ⟨0, Nat.zero_le _, rfl, rfl⟩
    case round =>
      obtain ⟨k, hk, rfl, hall⟩ := hrel
      have Hall := Lib.hid hall
      clear hall
      by_cases hlt : k < len
      · obtain ⟨b, o, x, rfl, hx, hcell⟩ := IntsAt.at H.out hlt
        have Hx := Lib.hid hx
        clear hx
        by_cases hmx : 0 ≤ x ∧ x ≤ 1000000001
        · go_wp2_with (go_at_call 40; refine (weight_may _ _).mono ?_; rintro e w' ⟨rfl, rfl⟩)
          go_round
          case rel => exact ⟨k + 1, by omega, by go_num, by rw [take_snoc Hx.out]; exact allW_snoc Hall.out hmx⟩
          case measure => simp [intOf]; omega
        · go_wp2_with (go_at_call 40; refine (weight_may _ _).mono ?_; rintro e w' ⟨rfl, rfl⟩)
          all_goals
            go_ret2
            have hb := allW_bad Hx.out hmx
            exact ⟨ret2ii (by rw [sumV, hb, if_neg (by simp)]) (by rw [sumE, hb, Hl.out, if_pos (by omega), if_neg (by simp)]), rfl⟩
      · have Ht : Hid (xs.take k = xs) := List.take_of_length_le (by rw [Hl.out]; omega)
        go_wp2_with (go_at_call 42; refine (weight_lesser _ _ _ H.out).mono ?_; rintro e w' ⟨rfl, rfl⟩)
        go_ret2
        have ha := Hall.out
        rw [Ht.out] at ha
        exact ⟨ret2ii (by rw [sumV, ha, Hl.out, if_pos ⟨by omega, rfl⟩]) (by rw [sumE, ha, Hl.out, if_pos (by omega), if_pos rfl]), rfl⟩

theorem plusV_step {l : List Int} {x : Int} (h : allW l = true) (hx : 0 ≤ x ∧ x ≤ 1000000001) : plusV (leastW l) x = leastW (l ++ [x]) ∧ plusE (leastW l) x = 0 ∧ 0 ≤ leastW l ∧ leastW l ≤ 1000000001 := by
  have hl : 0 ≤ leastW l ∧ leastW l ≤ 1000000001 := by
    have gen : ∀ (l : List Int) (a : Int), allW l = true → 0 ≤ a ∧ a ≤ 1000000001 → 0 ≤ l.foldl min a ∧ l.foldl min a ≤ 1000000001 := by
      intro l
      induction l with
      | nil => intro a _ ha; simpa using ha
      | cons y r ih =>
        intro a hl ha
        simp only [allW, List.all_cons, Bool.and_eq_true, decide_eq_true_eq] at hl
        simp only [List.foldl_cons]
        exact ih _ hl.2 (by omega)
    exact gen l _ h (by omega)
  refine ⟨?_, ?_, hl⟩
  · rw [leastW_snoc, plusV, if_pos (And.intro hl hx), min_if]
  · rw [plusE, if_pos (And.intro hl hx)]

theorem plusE_bad {a x : Int} (hx : ¬ (0 ≤ x ∧ x ≤ 1000000001)) : plusE a x = 2 := by
  rw [plusE, if_neg (fun h => hx h.2)]

theorem ref_LeastOf (v : Value) (xs : List Int) (w : World) (h : IntsAt w v xs) : Calls Try.prog 28 #[v] w fun e w' => e = .returned (.tuple #[.int .i64 (sumV xs), .int .i64 (sumE xs)]) ∧ w = w' := by
  obtain ⟨a, len, cap, rfl, hl, H, Hl⟩ := IntsAt.opens h
  clear h
  by_cases hbig : 400 < len
  · go_enter Try.func28, Try.ntmps28
    go_wp2_with fail
    go_ret2
    exact ⟨ret2ii (by rw [sumV, Hl.out, if_neg (by omega)]) (by rw [sumE, Hl.out, if_neg (by omega)]), rfl⟩
  · go_enter Try.func28, Try.ntmps28
    go_wp2_with fail
    go_loop [4, 5] (fun t i => ∃ k : Nat, k ≤ len ∧ i = .int .i64 k ∧ t = .int .i64 (leastW (xs.take k)) ∧ allW (xs.take k) = true) (fun _ i => len - (intOf i).toNat)
    case atStart => exact ⟨0, Nat.zero_le _, rfl, rfl, rfl⟩
    case round =>
      obtain ⟨k, hk, rfl, rfl, hall⟩ := hrel
      have Hall := Lib.hid hall
      clear hall
      by_cases hlt : k < len
      · obtain ⟨b, o, x, rfl, hx, hcell⟩ := IntsAt.at H.out hlt
        have Hx := Lib.hid hx
        clear hx
        by_cases hmx : 0 ≤ x ∧ x ≤ 1000000001
        · have hs := plusV_step Hall.out hmx
          have he := hs.2.1
          have Hs := Lib.hid hs.1
          clear hs
          go_wp2_with (go_at_call 23; refine (ref_Added _ _ _).mono ?_; rintro e w' ⟨rfl, rfl⟩)
          go_round
          case rel => exact ⟨k + 1, by omega, by go_num, by rw [take_snoc Hx.out, Hs.out], by rw [take_snoc Hx.out]; exact allW_snoc Hall.out hmx⟩
          case measure => simp [intOf]; omega
        · have he := plusE_bad (a := leastW (xs.take k)) hmx
          go_wp2_with (go_at_call 23; refine (ref_Added _ _ _).mono ?_; rintro e w' ⟨rfl, rfl⟩)
          go_ret2
          have hb := allW_bad Hx.out hmx
          exact ⟨ret2ii (by rw [sumV, hb, if_neg (by simp)]) (by rw [sumE, hb, Hl.out, if_pos (by omega), if_neg (by simp)]), rfl⟩
      · have Ht : Hid (xs.take k = xs) := List.take_of_length_le (by rw [Hl.out]; omega)
        go_wp2_with fail
        go_ret2
        have ha := Hall.out
        rw [Ht.out] at ha
        exact ⟨ret2ii (by rw [sumV, ha, Ht.out, Hl.out, if_pos ⟨by omega, rfl⟩]) (by rw [sumE, ha, Hl.out, if_pos (by omega), if_pos rfl]), rfl⟩
end Go.Proofs.Ytophgeegofaioaa
