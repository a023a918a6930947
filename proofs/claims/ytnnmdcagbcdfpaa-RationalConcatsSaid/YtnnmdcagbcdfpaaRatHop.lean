/- The builder of package rational: an empty arc; ends that become empty arcs; is there room? -/
import Derived.Test.YtnnmdcagbcdfpaaBld2
import Derived.Test.YtnnmdcagbcdfpaaRatPlain
namespace Go.Proofs.Ytnnmdcagbcdfpaa
open Go.RowKit
set_option linter.unusedSimpArgs false
set_option linter.unusedVariables false

set_option maxRecDepth 100000 in
set_option maxHeartbeats 4000000 in
theorem rational_hop (X : Nat) (s : Int) (sv : Value) (l : List St) (f to wt : Int) (k : Nat) (hf : f = k) (x : St) (w : World) (hX : Blk w X #[.int .i64 s, sv] 70) (hB : BldM w (X + 1) sv l) (hx : l[k]? = some x)
    (hl : l.length ≤ 2000) (hxl : x.arcs.length ≤ 1000) :
    Calls Try.prog 61 #[.pointer (some ⟨X, 0, none⟩), .int .i64 f, .int .i64 to, .int .i64 wt] w fun e w' => e = .returned (.tuple #[]) ∧
      Blk w' X #[.int .i64 s, sv] 70 ∧ BldM w' (X + 1) sv (l.set k ⟨x.fin, x.arcs ++ [⟨0, 0, wt, to⟩]⟩) ∧ Below X w w' := by
  subst hf
  obtain ⟨ts, hB, rfl⟩ := hB
  rw [forgets_len] at hl
  have hk : k < ts.length := by have := (List.getElem?_eq_some_iff.1 hx).1; rwa [forgets_len] at this
  obtain ⟨av, htx⟩ := forgets_get hx
  obtain ⟨fin, arcs⟩ := x
  simp only at htx hxl ⊢
  obtain ⟨g, cap, rfl, hg1, hg2, c0, c1, f0, f1⟩ := hB.block htx
  have hown := hB.arcs _ (List.mem_of_getElem? htx)
  simp only at hown c0 c1
  obtain ⟨av1, av2, rfl⟩ := hown.slice
  have Hown := Lib.hid hown
  have HB := Lib.hid hB
  have Htx := Lib.hid htx
  have HX := Lib.hid hX
  have hXl := hX.lt
  have x1 := HX.out.cell 1 rfl
  have xf1 := HX.out.free 1
  clear hB hx htx hX hown
  go_enter Try.func61, Try.ntmps61
  go_wp2_with fail
  refine region_any_w (fun w' => w'.cell? ⟨X, 1, none⟩ = some (.slice (some ⟨g, 0, none⟩) ts.length cap) ∧ w'.cell? ⟨g, k * 2 + 1, none⟩ = some (.slice av1 arcs.length av2) ∧ w'.frozen? ⟨g, k * 2 + 1, none⟩ = false) 22 23 rfl (by kernel_rfl) ⟨x1, c1, f1⟩ (fun wd hwd hS => ?_)
  have bd : Below w.heap.size w wd := by rw [hwd]; exact (by repeat' (first | (with_reducible exact Below.refl _ _) | (with_reducible assumption) | (with_reducible refine Below.dr ?_ _) | (with_reducible refine Below.d1 ?_) | (with_reducible refine Below.al ?_ _) | (with_reducible refine Below.tr ?_ (by assumption)) | (with_reducible refine Below.drewN ?_ _) | (with_reducible refine Below.drew ?_) | (with_reducible refine Below.alloc ?_ ?_ _) | (with_reducible refine Below.setCell ?_ ?_ _) | (with_reducible refine Below.trans ?_ (Below.mono (by assumption) ?_)) | omega | (simp; done) | (simp; omega) | (simp [*]; done)))
  have Bd := Lib.hid bd
  have hsd := bd.size
  clear hwd bd x1 xf1 c0 c1 f0 f1
  (refine any_take 0 (v := ?_) (by kernel_rfl) rfl rfl (by kernel_rfl) (by kernel_rfl) (by kernel_rfl) (fun _ _ _ h => h) (Or.inl ⟨by rfl, ?_⟩) (by assumption) ?_; rotate_left; (focus (intro w' hS'; (try dsimp only at hS'); go_split_ands; go_simp; try with_reducible rfl)); try simp only [Act.put, List.setIfInBounds_toArray, List.set_cons_zero, List.set_cons_succ])
  (refine any_take 1 (v := ?_) (by kernel_rfl) rfl rfl (by kernel_rfl) (by kernel_rfl) (by kernel_rfl) (fun _ _ _ h => h) (Or.inl ⟨by rfl, ?_⟩) (by assumption) ?_; rotate_left; (focus (intro w' hS'; (try dsimp only at hS'); go_split_ands; go_simp; try with_reducible rfl)); try simp only [Act.put, List.setIfInBounds_toArray, List.set_cons_zero, List.set_cons_succ])
  (refine any_take 2 (v := ?_) (by kernel_rfl) rfl rfl (by kernel_rfl) (by kernel_rfl) (by kernel_rfl) (fun _ _ _ h => h) (Or.inl ⟨by rfl, ?_⟩) (by assumption) ?_; rotate_left; (focus (intro w' hS'; (try dsimp only at hS'); go_split_ands; go_simp; try with_reducible rfl)); try simp only [Act.put, List.setIfInBounds_toArray, List.set_cons_zero, List.set_cons_succ])
  (refine any_take 3 (v := ?_) (by kernel_rfl) rfl rfl (by kernel_rfl) (by kernel_rfl) (by kernel_rfl) (fun _ _ _ h => h) (Or.inl ⟨by rfl, ?_⟩) (by assumption) ?_; rotate_left; (focus (intro w' hS'; (try dsimp only at hS'); go_split_ands; go_simp; try with_reducible rfl)); try simp only [Act.put, List.setIfInBounds_toArray, List.set_cons_zero, List.set_cons_succ])
  (refine any_take 4 (v := ?_) (by kernel_rfl) rfl rfl (by kernel_rfl) (by kernel_rfl) (by kernel_rfl) (fun _ _ _ h => h) (Or.inl ⟨by rfl, ?_⟩) (by assumption) ?_; rotate_left; (focus (intro w' hS'; (try dsimp only at hS'); go_split_ands; go_simp; try with_reducible rfl)); try simp only [Act.put, List.setIfInBounds_toArray, List.set_cons_zero, List.set_cons_succ])
  (refine any_take 5 (v := ?_) (by kernel_rfl) rfl rfl (by kernel_rfl) (by kernel_rfl) (by kernel_rfl) (fun _ _ _ h => h) (Or.inl ⟨by rfl, ?_⟩) (by assumption) ?_; rotate_left; (focus (intro w' hS'; (try dsimp only at hS'); go_split_ands; go_simp; try with_reducible rfl)); try simp only [Act.put, List.setIfInBounds_toArray, List.set_cons_zero, List.set_cons_succ])
  (refine any_take 6 (v := ?_) (by kernel_rfl) rfl rfl (by kernel_rfl) (by kernel_rfl) (by kernel_rfl) (fun _ _ _ h => h) (Or.inl ⟨by rfl, ?_⟩) (by assumption) ?_; rotate_left; (focus (intro w' hS'; (try dsimp only at hS'); go_split_ands; go_simp; try with_reducible rfl)); try simp only [Act.put, List.setIfInBounds_toArray, List.set_cons_zero, List.set_cons_succ])
  (refine any_take 7 (v := ?_) (by kernel_rfl) rfl rfl (by kernel_rfl) (by kernel_rfl) (by kernel_rfl) (fun _ _ _ h => h) (Or.inl ⟨by rfl, ?_⟩) (by assumption) ?_; rotate_left; (focus (intro w' hS'; (try dsimp only at hS'); go_split_ands; go_simp; try with_reducible rfl)); try simp only [Act.put, List.setIfInBounds_toArray, List.set_cons_zero, List.set_cons_succ])
  (refine any_take 8 (v := ?_) (by kernel_rfl) rfl rfl (by kernel_rfl) (by kernel_rfl) (by kernel_rfl) (fun _ _ _ h => h) (Or.inl ⟨by rfl, ?_⟩) (by assumption) ?_; rotate_left; (focus (intro w' hS'; (try dsimp only at hS'); go_split_ands; go_simp; try with_reducible rfl)); try simp only [Act.put, List.setIfInBounds_toArray, List.set_cons_zero, List.set_cons_succ])
  (refine any_take 9 (v := ?_) (by kernel_rfl) rfl rfl (by kernel_rfl) (by kernel_rfl) (by kernel_rfl) (fun _ _ _ h => h) (Or.inl ⟨by rfl, ?_⟩) (by assumption) ?_; rotate_left; (focus (intro w' hS'; (try dsimp only at hS'); go_split_ands; go_simp; try with_reducible rfl)); try simp only [Act.put, List.setIfInBounds_toArray, List.set_cons_zero, List.set_cons_succ])
  (refine any_take 10 (v := ?_) (by kernel_rfl) rfl rfl (by kernel_rfl) (by kernel_rfl) (by kernel_rfl) (fun _ _ _ h => h) (Or.inl ⟨by rfl, ?_⟩) (by assumption) ?_; rotate_left; (focus (intro w' hS'; (try dsimp only at hS'); go_split_ands; go_simp; try with_reducible rfl)); try simp only [Act.put, List.setIfInBounds_toArray, List.set_cons_zero, List.set_cons_succ])
  (refine any_take 11 (v := ?_) (by kernel_rfl) rfl rfl (by kernel_rfl) (by kernel_rfl) (by kernel_rfl) (fun _ _ _ h => h) (Or.inl ⟨by rfl, ?_⟩) (by assumption) ?_; rotate_left; (focus (intro w' hS'; (try dsimp only at hS'); go_split_ands; go_simp; try with_reducible rfl)); try simp only [Act.put, List.setIfInBounds_toArray, List.set_cons_zero, List.set_cons_succ])
  (refine any_take 12 (v := ?_) (by kernel_rfl) rfl rfl (by kernel_rfl) (by kernel_rfl) (by kernel_rfl) (fun _ _ _ h => h) (Or.inl ⟨by rfl, ?_⟩) (by assumption) ?_; rotate_left; (focus (intro w' hS'; (try dsimp only at hS'); go_split_ands; go_simp; try with_reducible rfl)); try simp only [Act.put, List.setIfInBounds_toArray, List.set_cons_zero, List.set_cons_succ])
  (refine any_take 13 (v := ?_) (by kernel_rfl) rfl rfl (by kernel_rfl) (by kernel_rfl) (by kernel_rfl) (fun _ _ _ h => h) (Or.inl ⟨by rfl, ?_⟩) (by assumption) ?_; rotate_left; (focus (intro w' hS'; (try dsimp only at hS'); go_split_ands; go_simp; try with_reducible rfl)); try simp only [Act.put, List.setIfInBounds_toArray, List.set_cons_zero, List.set_cons_succ])
  (refine any_take 14 (v := ?_) (by kernel_rfl) rfl rfl (by kernel_rfl) (by kernel_rfl) (by kernel_rfl) (fun _ _ _ h => h) (Or.inl ⟨by rfl, ?_⟩) (by assumption) ?_; rotate_left; (focus (intro w' hS'; (try dsimp only at hS'); go_split_ands; go_simp; try with_reducible rfl)); try simp only [Act.put, List.setIfInBounds_toArray, List.set_cons_zero, List.set_cons_succ])
  (refine any_take 15 (v := ?_) (by kernel_rfl) rfl rfl (by kernel_rfl) (by kernel_rfl) (by kernel_rfl) (fun _ _ _ h => h) (Or.inl ⟨by rfl, ?_⟩) (by assumption) ?_; rotate_left; (focus (intro w' hS'; (try dsimp only at hS'); go_split_ands; go_simp; try with_reducible rfl)); try simp only [Act.put, List.setIfInBounds_toArray, List.set_cons_zero, List.set_cons_succ])
  (refine any_take 16 (v := ?_) (by kernel_rfl) rfl rfl (by kernel_rfl) (by kernel_rfl) (by kernel_rfl) (fun _ _ _ h => h) (Or.inl ⟨by rfl, ?_⟩) (by assumption) ?_; rotate_left; (focus (intro w' hS'; (try dsimp only at hS'); go_split_ands; go_simp; try with_reducible rfl)); try simp only [Act.put, List.setIfInBounds_toArray, List.set_cons_zero, List.set_cons_succ])
  (refine any_take 17 (v := ?_) (by kernel_rfl) rfl rfl (by kernel_rfl) (by kernel_rfl) (by kernel_rfl) (fun _ _ _ h => h) (Or.inl ⟨by rfl, ?_⟩) (by assumption) ?_; rotate_left; (focus (intro w' hS'; (try dsimp only at hS'); go_split_ands; go_simp; try with_reducible rfl)); try simp only [Act.put, List.setIfInBounds_toArray, List.set_cons_zero, List.set_cons_succ])
  refine any_one 18 (by kernel_rfl) rfl (fun K hK => ?_)
  rw [if_pos (by rfl)]
  go_simp
  refine any_hand hK (fun _ => ⟨cell_al hS.1 _, cell_al hS.2.1 _, frozen_al hS.2.1 hS.2.2 _⟩) (fun hx => ?_)
  clear hx hK K hS
  refine any_one 19 (by kernel_rfl) rfl (fun K hK => ?_)
  have bW : Below w.heap.size w (wd.alloc (.cells #[.int .i64 0, .int .i64 0, .int .i64 wt, .int .i64 to] 59)) := Below.al Bd.out _
  refine step_append_n rfl _ _ 53 rfl (X + 1) 59 4 32 (.agg #[.int .i64 0, .int .i64 0, .int .i64 0, .int .i64 0]) Try.underlying53 (by kernel_rfl) rfl (by omega) (by omega) arCells arCells_len _ arcs arcs.length rfl rfl (World.ownsRow.below Hown.out bW) (⟨0, 0, wt, to⟩ : Ar) (arCells_one _) ⟨wd.heap.size, 0, none⟩ 1 rfl (new_row_cells' _ (arCells ⟨0, 0, wt, to⟩) _ _ (by simp)) (by omega) (by simp; omega) ?_
  intro v3 w3 own3 hv3 gr3
  have hput := HB.out.putArc Htx.out rfl bW own3 hv3 gr3 (by omega) (by omega)
  clear own3 gr3 bW
  obtain ⟨g3, cap3, rfl, -, -⟩ := hv3
  obtain ⟨hB3, b3, d1, e1⟩ := hput
  have X3 := Lib.hid (HX.out.under b3 (by omega))
  have HB3 := Lib.hid hB3
  have HB4 := Lib.hid b3
  have hS : w3.cell? ⟨X, 1, none⟩ = some (.slice (some ⟨g, 0, none⟩) ts.length cap) ∧ w3.cell? ⟨g, k * 2 + 1, none⟩ = some (.slice av1 arcs.length av2) ∧ w3.frozen? ⟨g, k * 2 + 1, none⟩ = false := ⟨X3.out.cell 1 rfl, d1, e1⟩
  clear hB3 b3
  refine any_hand hK (fun _ => hS) (fun hx => ?_)
  clear hx hK K
  refine any_one 20 (by kernel_rfl) rfl (fun K hK => ?_)
  rw [if_pos (by rfl)]
  go_simp
  refine any_hand hK (fun _ => hS) (fun hx => ?_)
  clear hx hK K
  refine any_one 21 (by kernel_rfl) rfl (fun K hK => ?_)
  rw [if_pos (by rfl)]
  go_simp
  refine any_hand hK (fun _ => hS) (fun hx => ?_)
  clear hx hK K
  clear hS
  refine any_one 22 (by kernel_rfl) rfl (fun K hK => ?_)
  rw [if_pos (by rfl)]
  go_simp
  refine any_hand hK (fun h => absurd rfl h) (fun hx => ?_)
  clear hx hK K
  refine any_done (by kernel_rfl) ?_
  go_wp2_with fail
  go_end0
  refine ⟨rfl, X3.out.other (by simp; omega) _, ⟨_, HB3.out, by rw [forgets_set]⟩, (HB4.out.mono (by omega)).setCell (by simp; omega) _⟩

def looseL (l : List St) (f k : Nat) (to : Int) : List St := l.mapIdx fun i s => if f ≤ i ∧ i < f + k then looseSt to s else s
theorem looseL_len (l : List St) (f k : Nat) (to : Int) : (looseL l f k to).length = l.length := by simp [looseL]
theorem looseL_zero (l : List St) (f : Nat) (to : Int) : looseL l f 0 to = l := by
  apply List.ext_getElem?
  intro i
  simp only [looseL, List.getElem?_mapIdx]
  cases h : l[i]? with
  | none => rfl
  | some s => simp only [Option.map_some, Option.some.injEq]; rw [if_neg (by omega)]
theorem looseL_at {l : List St} {f k : Nat} {to : Int} {s : St} (h : l[f + k]? = some s) : (looseL l f k to)[f + k]? = some s := by
  simp only [looseL, List.getElem?_mapIdx, h, Option.map_some, Option.some.injEq]
  rw [if_neg (by omega)]
theorem looseL_succ {l : List St} {f k : Nat} {to : Int} {s : St} (h : l[f + k]? = some s) : looseL l f (k + 1) to = (looseL l f k to).set (f + k) (looseSt to s) := by
  apply List.ext_getElem?
  intro i
  rw [List.getElem?_set]
  have hlt := (List.getElem?_eq_some_iff.1 h).1
  simp only [looseL, List.getElem?_mapIdx, List.length_mapIdx]
  by_cases hi : f + k = i
  · subst hi
    rw [if_pos rfl, if_pos hlt, h]
    simp only [Option.map_some, Option.some.injEq]
    rw [if_pos (by omega)]
  · rw [if_neg hi]
    cases h2 : l[i]? with
    | none => rfl
    | some t =>
      simp only [Option.map_some, Option.some.injEq]
      by_cases h3 : f ≤ i ∧ i < f + k
      · rw [if_pos h3, if_pos (by omega)]
      · rw [if_neg h3, if_neg (by omega)]
theorem set_self {l : List St} {i : Nat} {s : St} (h : l[i]? = some s) : l.set i s = l := by
  obtain ⟨hi, rfl⟩ := List.getElem?_eq_some_iff.1 h
  exact List.set_getElem_self hi

set_option maxRecDepth 100000 in
set_option maxHeartbeats 4000000 in
theorem rational_loose (X : Nat) (s : Int) (sv : Value) (l : List St) (f : Int) (fr many : Nat) (hf : f = fr) (to : Int) (w : World) (hX : Blk w X #[.int .i64 s, sv] 70) (hB : BldM w (X + 1) sv l)
    (hl : l.length ≤ 1500) (hfm : fr + many ≤ l.length) (hxl : ∀ x ∈ l, x.arcs.length ≤ 900) :
    Calls Try.prog 65 #[.pointer (some ⟨X, 0, none⟩), .int .i64 f, .int .i64 many, .int .i64 to] w fun e w' => e = .returned (.tuple #[]) ∧
      Blk w' X #[.int .i64 s, sv] 70 ∧ BldM w' (X + 1) sv (looseL l fr many to) ∧ Below X w w' := by
  subst hf
  have HX := Lib.hid hX
  have HB := Lib.hid hB
  have HXL := Lib.hid hxl
  have hXl := hX.lt
  have x1 := HX.out.cell 1 rfl
  clear hX hB hxl
  go_enter Try.func65, Try.ntmps65
  go_wp2_with fail
  go_loopw [8] (fun i wr => ∃ k : Nat, k ≤ many ∧ i = .int .i64 ((fr : Int) + k) ∧ Blk wr X #[.int .i64 s, sv] 70 ∧ BldM wr (X + 1) sv (looseL l fr k to) ∧ Below X w wr) (fun i _ => many - ((intOf i).toNat - fr))
  case atStart => exact ⟨0, Nat.zero_le _, by simp, HX.out, by rw [looseL_zero]; exact HB.out, Below.refl _ _⟩
  case round =>
    obtain ⟨wz, rfl⟩ : ∃ wz : World, wz = wr := ⟨_, rfl⟩
    obtain ⟨k, hk, rfl, hO, hB, hbel⟩ := hrel
    have O := Lib.hid hO
    have hXz := hO.lt
    have Hbel := Lib.hid hbel
    clear x1 hO hbel
    by_cases hlt : k < many
    · obtain ⟨x, hx⟩ : ∃ x, l[fr + k]? = some x := ⟨_, List.getElem?_eq_getElem (by omega)⟩
      have Hx := Lib.hid hx
      have hxa := HXL.out x (List.mem_of_getElem? hx)
      obtain ⟨ts, hB, hts⟩ := hB
      obtain ⟨av, htx⟩ := forgets_get (ts := ts) (i := fr + k) (s := x) (by rw [hts]; exact looseL_at hx)
      have hlen : ts.length = l.length := by rw [← forgets_len, hts, looseL_len]
      obtain ⟨g, cap, hsv, hg1, hg2, c0, c1, f0, f1⟩ := hB.block htx
      subst hsv
      have HB2 := Lib.hid hB
      have Hts := Lib.hid hts
      have Htx := Lib.hid htx
      have hkl : fr + k < ts.length := (List.getElem?_eq_some_iff.1 htx).1
      have x1 := O.out.cell 1 rfl
      have hcast : ((fr : Int) + (k : Int)) = ((fr + k : Nat) : Int) := by omega
      have Hcast := Lib.hid hcast
      have Hlen := Lib.hid hlen
      clear hx hB hts htx c1 f1 hcast hlen
      rw [Hcast.out]
      obtain ⟨q, hq⟩ : ∃ q, fr + k = q := ⟨_, rfl⟩
      have Hq := Lib.hid hq
      rw [hq] at Htx Hx c0 f0 hkl ⊢
      clear hq
      obtain ⟨fin, arcs⟩ := x
      simp only at c0 hxa Htx
      have hqm : fr ≤ q ∧ q < fr + many := by have := Hq.out; omega
      by_cases hfin : fin = 1000000001
      · subst hfin
        go_wp2_with fail
        go_roundw
        case rel => exact ⟨k + 1, by omega, by have := Hq.out; simp; omega, O.out, ⟨ts, HB2.out, by rw [Hts.out, looseL_succ (by rw [Hq.out]; exact Hx.out)]; exact (set_self (by unfold looseSt; simp only [if_true]; exact looseL_at (by rw [Hq.out]; exact Hx.out))).symm⟩, Hbel.out⟩
        case measure => have := Hq.out; simp [intOf]; omega
      · have hfb : (fin == 1000000001) = false := by simp [hfin]
        have HF := Lib.hid hfin
        clear hfin
        have hB3 := HB2.out.setFin Htx.out (g := g) rfl 1000000001
        have HB3 := Lib.hid hB3
        have O3 := Lib.hid (O.out.other (p := ⟨g, q * 2, none⟩) (by simp; omega) (.int .i64 1000000001))
        have b3' : Below X w (wz.setCell ⟨g, q * 2, none⟩ (.int .i64 1000000001)) := Below.setCell Hbel.out (by simp; omega) _
        have b3 := Lib.hid b3'
        clear b3'
        clear hB3
        by_cases hto : to < 0
        · go_wp2_with fail
          go_roundw
          case rel => exact ⟨k + 1, by omega, by have := Hq.out; simp; omega, O3.out, ⟨_, HB3.out, by
            rw [forgets_set, Hts.out, looseL_succ (by rw [Hq.out]; exact Hx.out), Hq.out]
            unfold looseSt hopsL
            simp only [if_neg HF.out, if_pos hto, List.append_nil]⟩, b3.out⟩
          case measure => have := Hq.out; simp [intOf]; omega
        · have hto2 : 0 ≤ to := by omega
          go_wp2_with (go_at_call 61; refine (rational_hop X s _ _ _ _ _ q rfl ⟨1000000001, arcs⟩ _ O3.out ⟨_, HB3.out, rfl⟩ (by rw [forgets_set, List.getElem?_set_self (by rw [forgets_len]; exact hkl)]) (by rw [forgets_len, List.length_set, Hlen.out]; omega) (by simp only; omega)).mono ?_; rintro e w4 ⟨rfl, X4, B4, b4⟩)
          go_roundw
          case rel => exact ⟨k + 1, by omega, by have := Hq.out; simp; omega, X4, by
            rw [looseL_succ (by rw [Hq.out]; exact Hx.out), Hq.out]
            rw [forgets_set, Hts.out, List.set_set] at B4
            unfold looseSt hopsL
            simpa only [if_neg HF.out, if_neg (show ¬ to < 0 by omega), Int.add_zero] using B4, b3.out.trans b4⟩
          case measure => have := Hq.out; simp [intOf]; omega
    · obtain rfl : k = many := by omega
      go_wp2_with fail
      go_end0
      exact ⟨rfl, O.out, hB, Hbel.out⟩

set_option maxHeartbeats 1000000 in
theorem rational_built (X : Nat) (s : Int) (sv : Value) (l : List St) (w : World) (hX : Blk w X #[.int .i64 s, sv] 70) (hB : BldM w (X + 1) sv l) (hl : l.length ≤ 2000) :
    Calls Try.prog 62 #[.pointer (some ⟨X, 0, none⟩)] w fun e w' => ∃ mv, e = .returned (.tuple #[mv, .int .i64 (builtE ⟨s, l⟩)]) ∧ MachNew w' (X + 1) mv (builtM ⟨s, l⟩) ∧ Below w.heap.size w w' := by
  obtain ⟨ts, hB, rfl⟩ := hB
  rw [forgets_len] at hl
  obtain ⟨sv1, sv2, hsv⟩ := hB.own.slice
  subst hsv
  have hM : MachNew w (X + 1) (.agg #[.int .i64 s, .slice sv1 ts.length sv2]) ⟨s, forgets ts⟩ := ⟨_, ts, rfl, hB, rfl, by omega⟩
  have HM := Lib.hid hM
  have HX := Lib.hid hX
  have x0 := HX.out.cell 0 rfl; have x1 := HX.out.cell 1 rfl; have xf0 := HX.out.free 0; have xf1 := HX.out.free 1; have xz := HX.out.lt
  clear hB hM hX
  obtain ⟨E, hE⟩ : ∃ E, machE ⟨s, forgets ts⟩ = E := ⟨_, rfl⟩
  have HE := Lib.hid hE
  clear hE
  by_cases hz : E = 0
  · subst hz
    have h1 : builtE ⟨s, forgets ts⟩ = 0 := by unfold builtE; rw [if_pos HE.out]
    have h2 : builtM ⟨s, forgets ts⟩ = ⟨s, forgets ts⟩ := by unfold builtM; rw [if_pos HE.out]
    rw [h1, h2]
    clear h1 h2
    go_enter Try.func62, Try.ntmps62
    go_wp2_with fail
    refine (core_Check_as 0 _ ⟨s, forgets ts⟩ _ (HM.out.at.mono (by repeat' (first | (with_reducible exact Below.refl _ _) | (with_reducible assumption) | (with_reducible refine Below.dr ?_ _) | (with_reducible refine Below.d1 ?_) | (with_reducible refine Below.al ?_ _) | (with_reducible refine Below.tr ?_ (by assumption)) | (with_reducible refine Below.drewN ?_ _) | (with_reducible refine Below.drew ?_) | (with_reducible refine Below.alloc ?_ ?_ _) | (with_reducible refine Below.setCell ?_ ?_ _) | (with_reducible refine Below.trans ?_ (Below.mono (by assumption) ?_)) | omega | (simp; done) | (simp; omega) | (simp [*]; done)))) HE.out).mono ?_
    rintro e w1 ⟨rfl, b1⟩
    have R1 := (Blk.new w _ _).to b1
    have X1 := (HX.out.al _).to b1
    clear x0 x1 xf0 xf1
    have r0 := R1.cell 0 rfl; have r1 := R1.cell 1 rfl; have rf0 := R1.free 0; have rf1 := R1.free 1; have rz := R1.lt
    have x0 := X1.cell 0 rfl; have x1 := X1.cell 1 rfl; have xf0 := X1.free 0; have xf1 := X1.free 1; have xz := X1.lt
    have hb1 : Below w.heap.size w w1 := (by repeat' (first | (with_reducible exact Below.refl _ _) | (with_reducible assumption) | (with_reducible refine Below.dr ?_ _) | (with_reducible refine Below.d1 ?_) | (with_reducible refine Below.al ?_ _) | (with_reducible refine Below.tr ?_ (by assumption)) | (with_reducible refine Below.drewN ?_ _) | (with_reducible refine Below.drew ?_) | (with_reducible refine Below.alloc ?_ ?_ _) | (with_reducible refine Below.setCell ?_ ?_ _) | (with_reducible refine Below.trans ?_ (Below.mono (by assumption) ?_)) | omega | (simp; done) | (simp; omega) | (simp [*]; done)))
    go_wp2_with fail
    have R3 := (R1.set 0 (.int .i64 s)).set 1 (.slice sv1 ts.length sv2)
    have hb3 : Below w.heap.size w ((w1.setCell ⟨w.heap.size, 0, none⟩ (.int .i64 s)).setCell ⟨w.heap.size, 1, none⟩ (.slice sv1 ts.length sv2)) := (hb1.setCell (by simp) _).setCell (by simp) _
    refine bodyPost_ret (v := .tuple #[.agg #[.int .i64 s, .slice sv1 ts.length sv2], .int .i64 0]) ?_ rfl ⟨_, rfl, HM.out.below hb3, hb3⟩
    have z0 := R3.cell 0 rfl; have z1 := R3.cell 1 rfl; have zf0 := R3.free 0; have zf1 := R3.free 1; have zz := R3.lt
    simp [results, Try.results62, go_sem, z0, z1]
  · have h1 : builtE ⟨s, forgets ts⟩ = 5 := by unfold builtE; rw [HE.out]; exact if_neg hz
    have h2 : builtM ⟨s, forgets ts⟩ = ⟨0, []⟩ := by unfold builtM; rw [HE.out]; exact if_neg hz
    rw [h1, h2]
    have hEb : (E != 0) = true := by simp [hz]
    clear h1 h2 hz
    go_enter Try.func62, Try.ntmps62
    go_wp2_with fail
    refine (core_Check_as E _ ⟨s, forgets ts⟩ _ (HM.out.at.mono (by repeat' (first | (with_reducible exact Below.refl _ _) | (with_reducible assumption) | (with_reducible refine Below.dr ?_ _) | (with_reducible refine Below.d1 ?_) | (with_reducible refine Below.al ?_ _) | (with_reducible refine Below.tr ?_ (by assumption)) | (with_reducible refine Below.drewN ?_ _) | (with_reducible refine Below.drew ?_) | (with_reducible refine Below.alloc ?_ ?_ _) | (with_reducible refine Below.setCell ?_ ?_ _) | (with_reducible refine Below.trans ?_ (Below.mono (by assumption) ?_)) | omega | (simp; done) | (simp; omega) | (simp [*]; done)))) HE.out).mono ?_
    rintro e w1 ⟨rfl, b1⟩
    have R1 := (Blk.new w _ _).to b1
    clear x0 x1 xf0 xf1
    have r0 := R1.cell 0 rfl; have r1 := R1.cell 1 rfl; have rf0 := R1.free 0; have rf1 := R1.free 1; have rz := R1.lt
    have hb1 : Below w.heap.size w w1 := (by repeat' (first | (with_reducible exact Below.refl _ _) | (with_reducible assumption) | (with_reducible refine Below.dr ?_ _) | (with_reducible refine Below.d1 ?_) | (with_reducible refine Below.al ?_ _) | (with_reducible refine Below.tr ?_ (by assumption)) | (with_reducible refine Below.drewN ?_ _) | (with_reducible refine Below.drew ?_) | (with_reducible refine Below.alloc ?_ ?_ _) | (with_reducible refine Below.setCell ?_ ?_ _) | (with_reducible refine Below.trans ?_ (Below.mono (by assumption) ?_)) | omega | (simp; done) | (simp; omega) | (simp [*]; done)))
    go_wp2_with fail
    have R3 := (R1.set 0 (.int .i64 0)).set 1 (.slice none 0 0)
    refine bodyPost_ret (v := .tuple #[.agg #[.int .i64 0, .slice none 0 0], .int .i64 5]) ?_ rfl ⟨_, rfl, MachNew.nil _ _ _, (hb1.setCell (by simp) _).setCell (by simp) _⟩
    have z0 := R3.cell 0 rfl; have z1 := R3.cell 1 rfl; have zf0 := R3.free 0; have zf1 := R3.free 1; have zz := R3.lt
    simp [results, Try.results62, go_sem, z0, z1]
end Go.Proofs.Ytnnmdcagbcdfpaa
