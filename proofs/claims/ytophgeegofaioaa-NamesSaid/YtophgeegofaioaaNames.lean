/- The law Names, for every input: the call returns true and what its arguments read as is as it was. No condition. -/
import Derived.Test.YtophgeegofaioaaOpen
import Derived.Test.YtophgeegofaioaaCommon
namespace Go.Proofs.Ytophgeegofaioaa
section
open Go.RowKit
set_option linter.unusedSimpArgs false
set_option linter.unusedVariables false
theorem row_get (w : World) (xs : List Int) (e : TypeId) (row : Array Value) (h : row = (xs.map (Value.int .i64)).toArray) : ∀ k x, xs[k]? = some x → (w.alloc (.cells row e)).cell? ⟨w.heap.size, k, none⟩ = some (.int .i64 x) := by
  intro k x hk
  rw [cell_of_row _ w.heap.size k row e (0, 0) (heap_alloc_new w _), h]
  simp [hk]

theorem row_ints (w : World) (xs : List Int) (e : TypeId) (row : Array Value) (h : row = (xs.map (Value.int .i64)).toArray) (n : Nat) (hn : n = xs.length) (hs : xs.length ≤ 1000) (g : Nat) (hg : g = w.heap.size) : IntsAt (w.alloc (.cells row e)) (.slice (some ⟨g, 0, none⟩) n n) xs := by
  subst hg
  refine ⟨_, n, by rw [hn], by omega, (fun h => by cases h), fun i hi => ⟨_, _, xs[i], rfl, List.getElem?_eq_getElem hi, fun j hj => ?_⟩⟩
  obtain rfl : j = 0 := by omega
  have := row_get w xs e row h i xs[i] (List.getElem?_eq_getElem hi)
  simpa [intCells] using this

def errNos : List Int := [0, 1, 2, 3, 4, 5, 6, 7, 8, 9, 10, 11, 12, 13, 14]
def kindNos : List Int := [1, 2, 3, 4, 5, 6, 7, 8, 9, 10, 11, 12, 13, 14, 15]
def limNos : List Int := [1000000000, 1000000001, 0, 1000, 60, 400, 12, 20000, 8000, 12, 100, 20, 2000, 30, 10, 12, 12, 50, 800]
theorem errNos_get (k : Nat) (h : k < 15) : errNos[k]? = some (k : Int) := by
  have : ∀ k : Fin 15, errNos[k.1]? = some (k.1 : Int) := by decide
  exact this ⟨k, h⟩
theorem kindNos_get (k : Nat) (h : k < 15) : kindNos[k]? = some ((k : Int) + 1) := by
  have : ∀ k : Fin 15, kindNos[k.1]? = some ((k.1 : Int) + 1) := by decide
  exact this ⟨k, h⟩

set_option maxHeartbeats 1000000 in
theorem law_Names (w : World) : Calls Try.prog 3 #[] w fun e w' => e = .returned (.bool true) ∧ Below w.heap.size w w' := by
  have C1 := Lib.hid (fun k hk => row_get w errNos 22 _ rfl k _ (errNos_get k hk))
  have C2 := Lib.hid (fun (w1 : World) k hk => row_get w1 kindNos 3 _ rfl k _ (kindNos_get k hk))
  go_enter Try.func3, Try.ntmps3
  go_wp2_with fail
  go_loop [2] (fun i => ∃ k : Nat, k ≤ 15 ∧ i = .int .i64 k) (fun i => 15 - (intOf i).toNat)
  case atStart => exact ⟨0, by omega, rfl⟩
  case round =>
    obtain ⟨k, hk, rfl⟩ := hrel
    by_cases hlt : k < 15
    · have c1 := C1.out k hlt
      simp only [errNos, List.map_cons, List.map_nil] at c1
      go_wp2_with fail
      go_round
      case rel => exact ⟨k + 1, by omega, by go_num⟩
      case measure => simp [intOf]; omega
    · clear C1
      obtain rfl : k = 15 := by omega
      generalize hw : w.alloc (.cells _ 22) = w1
      have B1 : Below w.heap.size w w1 := by rw [← hw]; exact (Below.refl _ _).alloc (Nat.le_refl _) _
      clear hw
      go_wp2_with fail
      go_loop [4] (fun i => ∃ k : Nat, k ≤ 15 ∧ i = .int .i64 k) (fun i => 15 - (intOf i).toNat)
      case atStart => exact ⟨0, by omega, rfl⟩
      case round =>
        obtain ⟨k, hk, rfl⟩ := hrel
        by_cases hlt : k < 15
        · have c1 := C2.out w1 k hlt
          simp only [kindNos, List.map_cons, List.map_nil] at c1
          go_wp2_with fail
          go_round
          case rel => exact ⟨k + 1, by omega, by go_num⟩
          case measure => simp [intOf]; omega
        · clear C2
          obtain rfl : k = 15 := by omega
          generalize hw : w1.alloc (.cells _ 3) = w2
          have B2 : Below w.heap.size w w2 := by rw [← hw]; exact B1.alloc B1.size _
          clear hw
          go_wp2_with fail
          refine (law_sameInts _ _ limNos limNos _ ?_ ?_).mono ?_
          · exact (row_ints w2 limNos _ _ rfl 19 rfl (by decide) _ (by simp)).mono ((Below.refl _ _).alloc (Nat.le_refl _) _)
          · exact row_ints _ limNos _ _ rfl 19 rfl (by decide) _ (by simp)
          rintro e w3 ⟨rfl, n, rfl⟩
          go_wp2_with fail
          go_ret
          exact ⟨by simp, by
            refine Below.drewN ?_ _
            exact (B2.alloc B2.size _).alloc (by have := B2.size; simp; omega) _⟩
end
end Go.Proofs.Ytophgeegofaioaa

namespace Go.Proofs.Ytophgeegofaioaa.lawNames
open Go.ChangeShapes Go.WideShapes Go.ChangeAt Go.RowKit
open Go.ChangeMaps (open_string shut_string)
set_option linter.unusedVariables false
set_option linter.unusedSimpArgs false

set_option maxRecDepth 100000 in
theorem lifted (os : Os) (started : os.Started) (H : Type) (enc : TypeId × Value → H) :
    ReturnsInHanded {} Try.checked os 3 .any (Rows.namesSpec.pre6 enc Try.prog Try.f3 Rows.namesRow.domain false) (Rows.namesSpec.post enc Try.prog Try.f3 false true false false) := by
  refine returnsInHanded_of_change_sized (C := Try.checked) own started (by kernel_rfl) Try.func3
    (ChangeSpec.witness6 (enc := enc) (C := Try.checked) false ⟨#[], #[], []⟩ 8 (by kernel_rfl) (by kernel_rfl) (by kernel_rfl) (by kernel_rfl)) ?_
  intro W base args ds gs before hval0 hW hcnd hsz0 _
  have hval : ∀ (j : Nat) t v, Try.f3.params[j]? = some t → args[j]? = some v → Value.okWide Try.prog W .any base t v := hval0
  have hsz : (DataW.weightsEach Try.prog (Try.f3.params.toList ++ Rows.namesSpec.plain.varTypes Try.prog) (ds ++ gs)).all (· ≤ reachBytes) = true := hsz0
  have hW' := hW
  obtain ⟨p, q, hA0, hV, rfl, hfz, hnd⟩ := hW
  have hA : DataW.TrodAll enc Try.prog W 0 (fun _ => true) true Try.f3.params.toList args.toList ds p := hA0
  rw [Try.params3] at hA hval hsz
  obtain ⟨hargs, rfl, rfl⟩ := trodAll_nil hA
  obtain rfl : args = #[] := by cases args; simp_all
  obtain ⟨rfl, rfl⟩ := trodVars_none hV
  refine (law_Names  W ).mono fun e W' ⟨he, bel⟩ => ?_
  subst he
  exact ⟨_, rfl, _, _, _, [], _, [], hW', trodAll_mk1 (shut_bool Try.underlying4 _), trodAll_mk0, rfl, bel.frame _, fun h => by cases h⟩

theorem over : Rows.namesRow.holds Try.pinned (OpenSpec.ofChange Rows.namesSpec) :=
  OpenClaim.holds_of_wide 3 Try.f3 rfl rfl rfl rfl rfl rfl rfl ⟨rfl, rfl, rfl, rfl, rfl⟩ rfl rfl rfl rfl rfl (by kernel_rfl) Try.func3 (by kernel_rfl)
    (of_decide_eq_true (by kernel_rfl)) (by unfold Func.isWrapper; rw [if_neg (of_decide_eq_false (by kernel_rfl))]; exact ⟨rfl, rfl⟩)
    (fun os started H enc _ => lifted os started H enc)

theorem proved : Rows.NamesSaid := over
end Go.Proofs.Ytophgeegofaioaa.lawNames
