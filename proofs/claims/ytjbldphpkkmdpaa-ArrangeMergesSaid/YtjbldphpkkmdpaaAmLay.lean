/- slices.SortFunc at arcs: how the kit's contract lies at this program (printed by the kit's lay-plain.mjs, gen/genlay.py); the two orders of arrange. -/
import Derived.Shelf.SlSortCmp.NoneTotal
import Derived.Test.YtjbldphpkkmdpaaAmSort
import Derived.Test.YtjbldphpkkmdpaaAmCmp
namespace Go.Proofs.Ytjbldphpkkmdpaa
open Go.Shelf Go.RowKit
open Go.Sort (HoldsK grow SWO)
set_option linter.unusedSimpArgs false
set_option linter.unusedVariables false
def sortArc_ren : Go.Shelf.Ren := ⟨fun | 6 => 34 | 15 => 76 | 14 => 75 | 28 => 109 | 29 => 110 | 20 => 101 | 21 => 102 | 22 => 103 | 23 => 104 | 24 => 105 | 25 => 106 | 26 => 107 | 27 => 108 | 46 => 120 | 47 => 121 | 48 => 122 | 49 => 123 | 50 => 124 | 57 => 127 | n => n, fun | 22 => 50 | 24 => 56 | 25 => 57 | 3 => 3 | 39 => 97 | 0 => 0 | 53 => 131 | 55 => 133 | 4 => 4 | 46 => 125 | 45 => 124 | 50 => 68 | 5 => 5 | 9 => 9 | 66 => 140 | 70 => 144 | 76 => 146 | 77 => 147 | n => n, fun | n => n⟩
theorem sortArc : Go.Proofs.SlLaysF0.n6 Try.prog sortArc_ren := {
  mixed := by kernel_rfl
  f6 := ⟨Try.f34.name, by decide, Try.func34.trans (congrArg some (by kernel_rfl))⟩
  f14 := ⟨Try.f75.name, by decide, Try.func75.trans (congrArg some (by kernel_rfl))⟩
  f15 := Try.func76.trans (congrArg some (by kernel_rfl))
  f20 := ⟨Try.f101.name, by decide, Try.func101.trans (congrArg some (by kernel_rfl))⟩
  f21 := ⟨Try.f102.name, by decide, Try.func102.trans (congrArg some (by kernel_rfl))⟩
  f22 := ⟨Try.f103.name, by decide, Try.func103.trans (congrArg some (by kernel_rfl))⟩
  f23 := ⟨Try.f104.name, by decide, Try.func104.trans (congrArg some (by kernel_rfl))⟩
  f24 := ⟨Try.f105.name, by decide, Try.func105.trans (congrArg some (by kernel_rfl))⟩
  f25 := ⟨Try.f106.name, by decide, Try.func106.trans (congrArg some (by kernel_rfl))⟩
  f26 := ⟨Try.f107.name, by decide, Try.func107.trans (congrArg some (by kernel_rfl))⟩
  f27 := ⟨Try.f108.name, by decide, Try.func108.trans (congrArg some (by kernel_rfl))⟩
  f28 := Try.func109.trans (congrArg some (by kernel_rfl))
  f29 := Try.func110.trans (congrArg some (by kernel_rfl))
  f46 := ⟨Try.f120.name, by decide, Try.func120.trans (congrArg some (by kernel_rfl))⟩
  f47 := Try.func121.trans (congrArg some (by kernel_rfl))
  f48 := Try.func122.trans (congrArg some (by kernel_rfl))
  f49 := ⟨Try.f123.name, by decide, Try.func123.trans (congrArg some (by kernel_rfl))⟩
  f50 := ⟨Try.f124.name, by decide, Try.func124.trans (congrArg some (by kernel_rfl))⟩
  f57 := ⟨Try.f127.name, by decide, Try.func127.trans (congrArg some (by kernel_rfl))⟩
  t0 := Try.underlying0
  a0 := Try.isAgg0
  z0 := Try.sizeOf0
  v0 := Try.zeroValue0
  t3 := Try.underlying3
  a3 := Try.isAgg3
  z3 := Try.sizeOf3
  v3 := Try.zeroValue3
  t4 := Try.underlying4
  a4 := Try.isAgg4
  z4 := Try.sizeOf4
  v4 := Try.zeroValue4
  t5 := Try.underlying5
  a5 := Try.isAgg5
  z5 := Try.sizeOf5
  v5 := Try.zeroValue5
  t9 := Try.underlying9
  a9 := Try.isAgg9
  z9 := Try.sizeOf9
  v9 := Try.zeroValue9
  t22 := Try.underlying50
  a22 := Try.isAgg50
  z22 := Try.sizeOf50
  v22 := Try.zeroValue50
  t25 := Try.underlying57
  a25 := Try.isAgg57
  z25 := Try.sizeOf57
  v25 := Try.zeroValue57
  t39 := Try.underlying97
  a39 := Try.isAgg97
  z39 := Try.sizeOf97
  v39 := Try.zeroValue97
  t45 := Try.underlying124
  a45 := Try.isAgg124
  z45 := Try.sizeOf124
  v45 := Try.zeroValue124
  t46 := Try.underlying125
  a46 := Try.isAgg125
  z46 := Try.sizeOf125
  v46 := Try.zeroValue125
  t50 := Try.underlying68
  a50 := Try.isAgg68
  z50 := Try.sizeOf68
  v50 := Try.zeroValue68
  t53 := Try.underlying131
  a53 := Try.isAgg131
  z53 := Try.sizeOf131
  v53 := Try.zeroValue131
  t55 := Try.underlying133
  a55 := Try.isAgg133
  z55 := Try.sizeOf133
  v55 := Try.zeroValue133
  t66 := Try.underlying140
  a66 := Try.isAgg140
  z66 := Try.sizeOf140
  v66 := Try.zeroValue140
  t70 := Try.underlying144
  a70 := Try.isAgg144
  z70 := Try.sizeOf144
  v70 := Try.zeroValue144
  t76 := Try.underlying146
  a76 := Try.isAgg146
  z76 := Try.sizeOf146
  v76 := Try.zeroValue146
  t77 := Try.underlying147
  a77 := Try.isAgg147
  z77 := Try.sizeOf147
  v77 := Try.zeroValue147 }

theorem enc1 (x : Ar) : ∀ v ∈ encAr x, v.oneCell' = true := by
  intro v hv
  simp only [encAr, List.mem_cons, List.not_mem_nil, or_false] at hv
  rcases hv with rfl | rfl | rfl | rfl <;> rfl
theorem swo_of {lt : Ar → Ar → Bool} (hT : Tot lt) (h2 : ∀ a b x, lt a b = true → lt b x = true → lt a x = true) : SWO lt := ⟨hT.irr, fun a b x => h2 a b x, fun a b x => hT.tr a b x⟩
theorem ltR : ltOf cfR = ahd := by funext a b; exact cfR_lt a b
theorem ltW : ltOf cfW = fun a b => ahd (flp a) (flp b) := by funext a b; exact cfW_lt a b
theorem sort_eq {lt : Ar → Ar → Bool} (hT : Tot lt) {l r : List Ar} (hs : Sd lt r) (hp : r.Perm l) : l.mergeSort (fun x y => !lt y x) = r := by
  refine sd_uniq hT ?_ hs ((List.mergeSort_perm _ _).trans hp.symm)
  have h := List.pairwise_mergeSort (le := fun x y => !lt y x) (fun a b x h1 h2 => by
    simp only [Bool.not_eq_true'] at h1 h2 ⊢
    exact hT.tr _ _ _ h2 h1) (fun a b => by
    cases h : lt b a with
    | false => simp
    | true => simp [hT.asy _ _ h]) l
  exact h.imp fun h => by simpa using h
theorem srtR : SrtC Try.prog 34 cfR inO := by
  refine ⟨fun g cb blk cap d w eg hcmp hH hblk hsz => ?_, fun p cap fv w => ?_, inO_len⟩
  · have h := AnyQ.slices_SortFunc_total sortArc 4 Try.isAgg56 Try.sizeOf56 encAr (fun _ => rfl) enc1 cfR (by rw [ltR]; exact swo_of tot_ahd fun _ _ _ => ahd_trans1) g cb blk 0 cap d w eg hcmp hH hblk hsz (by rw [ltR]; exact fun _ _ => ahd_total)
    refine Calls.mono h ?_
    rintro e w' ⟨rfl, n, os, rfl⟩
    refine ⟨rfl, n, os, ?_⟩
    rw [ltR, sort_eq tot_ahd (inO_sd _) (inO_perm _)]
  · exact AnyF.slices_SortFunc_none sortArc p cap fv w
theorem srtW : SrtC Try.prog 34 cfW inF := by
  refine ⟨fun g cb blk cap d w eg hcmp hH hblk hsz => ?_, fun p cap fv w => ?_, fun l => (inF_perm l).length_eq⟩
  · have h := AnyQ.slices_SortFunc_total sortArc 4 Try.isAgg56 Try.sizeOf56 encAr (fun _ => rfl) enc1 cfW (by rw [ltW]; exact swo_of tot_flp fun _ _ _ => ahd_trans1) g cb blk 0 cap d w eg hcmp hH hblk hsz (by rw [ltW]; exact tot_flp.one)
    refine Calls.mono h ?_
    rintro e w' ⟨rfl, n, os, rfl⟩
    refine ⟨rfl, n, os, ?_⟩
    rw [ltW, sort_eq tot_flp (inF_sd _) (inF_perm _)]
  · exact AnyF.slices_SortFunc_none sortArc p cap fv w
end Go.Proofs.Ytjbldphpkkmdpaa
