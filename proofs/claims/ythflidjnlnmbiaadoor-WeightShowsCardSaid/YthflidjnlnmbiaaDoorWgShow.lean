/- weight.Show and the document's one. -/
import Derived.Test.YthflidjnlnmbiaaDoorAmDec
import Derived.Test.YthflidjnlnmbiaaDoorItoa
import Derived.Test.YthflidjnlnmbiaaDoorAmLaw
import Derived.Test.YthflidjnlnmbiaaDoorBase
namespace Go.Proofs.YthflidjnlnmbiaaDoor
open Go.RowKit
open Go.Sort (grow)
set_option linter.unusedSimpArgs false
set_option linter.unusedVariables false
set_option maxRecDepth 100000

def shOk (x : Int) : Prop := 0 ≤ x ∧ x ≤ 1000000001
instance (x : Int) : Decidable (shOk x) := by unfold shOk; infer_instance
def shS (x : Int) : ByteArray := if shOk x then (if x = 1000000001 then ⟨#[105, 110, 102]⟩ else decS x.toNat) else ⟨#[]⟩
def shE (x : Int) : Int := if shOk x then 0 else 2
theorem grow_below (w : World) (k : Nat) (os : Array Obj) : Below w.heap.size w (grow (w.drewN k) os) :=
  ⟨rfl, rfl, rfl, by simp [grow, World.drewN], fun k hk => by simp [grow, World.drewN, Array.getElem?_append_left hk]⟩
theorem may_Show (x : Int) (w : World) : Calls Tryd.prog 19 #[.int .i64 x] w fun e w' => e = .returned (.bool (decide (0 ≤ x ∧ x ≤ 1000000001))) ∧ w = w' := by
  go_enter Tryd.func19, Tryd.ntmps19
  go_wp2
  all_goals
    go_ret
    refine ⟨ret1b ?_, rfl⟩
    rw [Bool.eq_iff_iff]
    simp
    omega
theorem in_Show (n low high : Int) (w : World) : Calls Tryd.prog 35 #[.int .i64 n, .int .i64 low, .int .i64 high] w fun e w' => e = .returned (.bool (decide (low ≤ n ∧ n ≤ high))) ∧ w = w' := by
  go_enter Tryd.func35, Tryd.ntmps35
  go_wp2
  all_goals
    go_ret
    refine ⟨ret1b ?_, rfl⟩
    rw [Bool.eq_iff_iff]
    simp
    omega
theorem isWeight_Show (x : Int) (w : World) : Calls Tryd.prog 21 #[.int .i64 x] w fun e w' => e = .returned (.bool (decide (0 ≤ x ∧ x ≤ 1000000001))) ∧ w = w' := by
  go_enter Tryd.func21, Tryd.ntmps21
  go_wp2_with (go_at_call 35; refine (in_Show _ _ _ _).mono ?_; rintro e w' ⟨rfl, rfl⟩)
  all_goals
    go_ret
    refine ⟨ret1b ?_, rfl⟩
    rw [Bool.eq_iff_iff]
    simp
    omega
theorem dec_call (x : Int) (h0 : 0 ≤ x) (h1 : x ≤ 1000000001) (w : World) : Calls Tryd.prog 22 #[.int .i64 x] w fun e w' => e = .returned (.string (decS x.toNat)) ∧ Below w.heap.size w w' := by
  have h := am_Dec x.toNat (by omega)
  rw [show ((x.toNat : Nat) : Int) = x by omega] at h
  have hx : VReps w (fun b => ¬ False) (fun _ => (0, 0)) [.i x] [.int .i64 x] := reps_cons rep_int reps_nil
  exact (h w (fun _ => False) (fun _ => (0, 0)) [.int .i64 x] (fun _ h => h.elim) hx).mono fun e w' ⟨v, y, h1, h2, _, h4, h5⟩ => by
    subst h2
    rw [h1, VRep.p_eq h4]
    exact ⟨rfl, h5⟩
theorem weight_Show (x : Int) (w : World) (htab : Lib.TabIs Tryd.prog w "internal/strconv.uint64pow10" .u64 Lib.pow10Tab) : Calls Tryd.prog 7 #[.int .i64 x] w fun e w' => e = .returned (.tuple #[.string (shS x), .int .i64 (shE x)]) ∧ Below w.heap.size w w' := by
  by_cases hx : shOk x
  · have hx2 : 0 ≤ x ∧ x ≤ 1000000001 := hx
    have hi : (⟨(Lib.itoa x).toArray⟩ : ByteArray) = decS x.toNat := by unfold Lib.itoa decS; rw [if_neg (by omega)]
    have h2 : shE x = 0 := by unfold shE; rw [if_pos hx]
    by_cases hi2 : x = 1000000001
    · have h1 : shS x = ⟨#[105, 110, 102]⟩ := by unfold shS; rw [if_pos hx, if_pos hi2]
      rw [h1, h2]
      go_enter Tryd.func7, Tryd.ntmps7
      go_wp2_with (first | (go_at_call 19; refine (may_Show _ _).mono ?_; rintro e w' ⟨rfl, rfl⟩) | (go_at_call 20; refine (itoa_call _ (by omega) (by omega) _ htab).mono ?_; rintro e w' ⟨rfl, k, os, rfl⟩))
      all_goals go_ret2
      all_goals go_tidy
      all_goals first | exact ⟨rfl, Below.refl _ _⟩ | (exfalso; simp_all; done) | (exfalso; simp_all; omega)
    · have h1 : shS x = decS x.toNat := by unfold shS; rw [if_pos hx, if_neg hi2]
      rw [h1, h2]
      go_enter Tryd.func7, Tryd.ntmps7
      go_wp2_with (first | (go_at_call 19; refine (may_Show _ _).mono ?_; rintro e w' ⟨rfl, rfl⟩) | (go_at_call 20; refine (itoa_call _ (by omega) (by omega) _ htab).mono ?_; rintro e w' ⟨rfl, k, os, rfl⟩))
      all_goals go_ret2
      all_goals go_tidy
      all_goals first | exact ⟨rfl, grow_below _ _ _⟩ | (exfalso; simp_all; done) | (exfalso; simp_all; omega)
  · have hx2 : ¬ (0 ≤ x ∧ x ≤ 1000000001) := hx
    have h1 : shS x = ⟨#[]⟩ := by unfold shS; rw [if_neg hx]
    have h2 : shE x = 2 := by unfold shE; rw [if_neg hx]
    rw [h1, h2]
    go_enter Tryd.func7, Tryd.ntmps7
    go_wp2_with (go_at_call 19; refine (may_Show _ _).mono ?_; rintro e w' ⟨rfl, rfl⟩)
    all_goals go_ret2
    all_goals go_tidy
    all_goals first | exact ⟨rfl, Below.refl _ _⟩ | (exfalso; simp_all; done) | (exfalso; simp_all; omega)
theorem ref_Shown (x : Int) (w : World) : Calls Tryd.prog 8 #[.int .i64 x] w fun e w' => e = .returned (.tuple #[.string (shS x), .int .i64 (shE x)]) ∧ Below w.heap.size w w' := by
  by_cases hx : shOk x
  · have hx2 : 0 ≤ x ∧ x ≤ 1000000001 := hx
    have h2 : shE x = 0 := by unfold shE; rw [if_pos hx]
    by_cases hi2 : x = 1000000001
    · have h1 : shS x = ⟨#[105, 110, 102]⟩ := by unfold shS; rw [if_pos hx, if_pos hi2]
      rw [h1, h2]
      go_enter Tryd.func8, Tryd.ntmps8
      go_wp2_with (first | (go_at_call 21; refine (isWeight_Show _ _).mono ?_; rintro e w' ⟨rfl, rfl⟩) | (go_at_call 22; refine (dec_call _ (by omega) (by omega) _).mono ?_; rintro e w' ⟨rfl, hbel⟩))
      all_goals go_ret2
      all_goals go_tidy
      all_goals first | exact ⟨rfl, Below.refl _ _⟩ | (exfalso; simp_all; done) | (exfalso; simp_all; omega)
    · have h1 : shS x = decS x.toNat := by unfold shS; rw [if_pos hx, if_neg hi2]
      rw [h1, h2]
      go_enter Tryd.func8, Tryd.ntmps8
      go_wp2_with (first | (go_at_call 21; refine (isWeight_Show _ _).mono ?_; rintro e w' ⟨rfl, rfl⟩) | (go_at_call 22; refine (dec_call _ (by omega) (by omega) _).mono ?_; rintro e w' ⟨rfl, hbel⟩))
      all_goals go_ret2
      all_goals go_tidy
      all_goals first | exact ⟨rfl, hbel⟩ | (exfalso; simp_all; done) | (exfalso; simp_all; omega)
  · have hx2 : ¬ (0 ≤ x ∧ x ≤ 1000000001) := hx
    have h1 : shS x = ⟨#[]⟩ := by unfold shS; rw [if_neg hx]
    have h2 : shE x = 2 := by unfold shE; rw [if_neg hx]
    rw [h1, h2]
    go_enter Tryd.func8, Tryd.ntmps8
    go_wp2_with (go_at_call 21; refine (isWeight_Show _ _).mono ?_; rintro e w' ⟨rfl, rfl⟩)
    all_goals go_ret2
    all_goals go_tidy
    all_goals first | exact ⟨rfl, Below.refl _ _⟩ | (exfalso; simp_all; done) | (exfalso; simp_all; omega)
end Go.Proofs.YthflidjnlnmbiaaDoor
