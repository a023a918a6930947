/- Part 7 of what the law SameSames rests on. -/
import Derived.Test.YthiknkcigcglkaaGreatDoorPkSS6
namespace Go.Proofs.YthiknkcigcglkaaGreatDoor
open Go.RowKit
open Go.Proofs.Tryz
open List (length_map mem_of_getElem? take_of_length_le)
set_option linter.unusedSimpArgs false
set_option linter.unusedVariables false
set_option maxRecDepth 100000
set_option maxHeartbeats 8000000
theorem vX (n lo hi : Int) : Fn prog 67 [.i n, .i lo, .i hi] (fun v => v = .b (decide (lo ≤ n ∧ n ≤ hi))) := by
 refine qc 15 fun w0 out => ?_
 by_cases h1 : lo ≤ n
 ·by_cases h2 : n ≤ hi
  ·skip
   refine uq ?_; exact ⟨[_], ⟨rfl, trivial⟩, by simp [zZ, h1, h2], zU2⟩
  skip; refine uq ?_; exact ⟨[_], ⟨rfl, trivial⟩, by simp [zZ, h1, h2], zU2⟩
 skip; refine uq ?_; exact ⟨[_], ⟨rfl, trivial⟩, by simp [zZ, h1], zU2⟩
theorem gr (m : zr) (xZ : m.states.length ≤ 60) : Fn prog 66 [mV m] (fun v => v = .i (xp m.states)) := by
 refine qD m 0 rfl fun _ wm => ?_; obtain ⟨st, sts⟩ := m; simp only at xZ wm ⊢; obtain ⟨len, hl⟩ : ∃ n, sts.length = n := ⟨_, rfl⟩; rw [hl] at xZ; refine qc 22 fun w0 out => ?_; refine W7 ?_; refine ve ?_
 refine qb (fun s' => ∃ k : Nat, k ≤ len ∧ xp (sts.take k) ≤ k * 4398046511104 ∧ s' = ⟨22, [(1, .ref 1 0), (3, .i (xp (sts.take k))), (4, .i k)], [(1, ⟨24, [.i st, .d (zq sts)], false, 0⟩)], []⟩) (fun s' => len - s'.nat 4) ⟨_, ?_, 0, by omega, by simp [xp], rfl⟩ ?_
 ·exact q8
 rintro s' ⟨k, hk, hs, rfl⟩
 by_cases zk : k < len
 ·obtain ⟨x, hx⟩ := zl hl zk
  obtain ⟨la, xr⟩ : ∃ n, x.arcs.length = n := ⟨_, rfl⟩; have yO := wm x (mem_of_getElem? hx); have vl : xp (sts.take (k + 1)) = xp (sts.take k) + la := by rw [x5 hx, q81, xr]
  iterate 29 refine Dv ?_
  refine ⟨_, ?_, ⟨k + 1, by omega, by omega, rfl⟩, ?_⟩
  ·rw [vl]; exact q8
  exact zM
 skip; refine uq ?_; exact ⟨[_], ⟨rfl, trivial⟩, by rw [qH2 hl zk]; rfl, zU2⟩
theorem uG (x : Int) : Fn prog 68 [.i x] (fun v => v = .b (decide (0 ≤ x ∧ x ≤ 1000000001))) := by
 refine qc 9 fun w0 out => ?_
 by_cases h1 : x = 1000000001
 ·skip
  refine xS ?_; exact ⟨[_], ⟨rfl, trivial⟩, by simp [zZ, h1], zU2⟩
 skip; refine xB ?_
 (refine qj (post := ?pc3) rfl rfl (zS (args := [_, _, _]) ?hc3 ⟨func67, rfl, rfl, rfl, rfl⟩ rfl rfl rfl rfl) ?_; (case hc3 => (exact vX _ _ _)); rintro _ rfl -; try dsimp only)
 refine zW ?_; refine ⟨[_], ⟨rfl, trivial⟩, ?_, by simp [zZ, V.pure, V.has]⟩; simp only [zZ, V.b, V.d.injEq, D.p.injEq, Value.bool.injEq, decide_eq_decide]; omega
theorem wz (m : zr) : Fn prog 30 [mV m] (fun v => v = .i (zn m)) := by
 refine qD m 0 rfl fun hsl wm => ?_; obtain ⟨st, sts⟩ := m; simp only at hsl wm ⊢; obtain ⟨len, hl⟩ : ∃ n, sts.length = n := ⟨_, rfl⟩; rw [hl] at hsl; refine qc 77 fun w0 out => ?_
 by_cases xZ : 60 < len
 ·skip
  refine W7 ?_
  iterate 23 refine Dv ?_
  exact ⟨[_], ⟨rfl, trivial⟩, by rw [q44 (.inl (by rw [hl]; exact xZ))]; rfl, zU2⟩
 by_cases vw : 400 < xp sts
 ·skip
  refine q33 ?_
  (refine qj (post := ?pc5) rfl rfl (zS (args := [_]) ?hc5 ⟨func66, rfl, rfl, rfl, rfl⟩ rfl rfl rfl rfl) ?_; (case hc5 => (exact gr ⟨st, sts⟩ (by simp only; omega))); rintro _ rfl -; try dsimp only)
  refine xB ?_; exact ⟨[_], ⟨rfl, trivial⟩, by rw [q44 (.inr vw)]; rfl, zU2⟩
 by_cases xR : -1 ≤ st ∧ st ≤ (len : Int) - 1
 ·skip
  refine q33 ?_
  (refine qj (post := ?pc6) rfl rfl (zS (args := [_]) ?hc6 ⟨func66, rfl, rfl, rfl, rfl⟩ rfl rfl rfl rfl) ?_; (case hc6 => (exact gr ⟨st, sts⟩ (by simp only; omega))); rintro _ rfl -; try dsimp only)
  refine xu ?_; refine qh (post := ?pc7) rfl (zS (args := [_, _, _]) ?hc7 ⟨func67, rfl, rfl, rfl, rfl⟩ rfl rfl rfl rfl) ?_
  case hc7 => first | (refine Fn.decT (vX _ _ _) ?_; omega) | (refine Fn.decF (vX _ _ _) ?_; omega) | exact vX _ _ _
  rintro _ rfl -; refine qf0 ?_; refine qb (fun s' => ∃ k : Nat, k ≤ len ∧ (sts.take k).all (uK len) = true ∧ s' = ⟨77, [(1, .ref 1 0), (3, .i len), (4, .i k)], [(1, ⟨24, [.i st, .d (zq sts)], false, 0⟩)], []⟩) (fun s' => len - s'.nat 4) ⟨_, ?_, 0, by omega, by simp, rfl⟩ ?_
  ·exact q8
  rintro s' ⟨k, hk, xE, rfl⟩
  by_cases zk : k < len
  ·obtain ⟨x, hx⟩ := zl hl zk
   obtain ⟨la, xr⟩ : ∃ n, x.arcs.length = n := ⟨_, rfl⟩; have yO := wm x (mem_of_getElem? hx)
   by_cases hf : 0 ≤ x.fin ∧ x.fin ≤ 1000000001
   ·skip
    refine yB ?_; refine qh (post := ?pc8) rfl (zS (args := [_]) ?hc8 ⟨func68, rfl, rfl, rfl, rfl⟩ rfl rfl rfl rfl) ?_
    case hc8 => first | (refine Fn.decT (uG _) ?_; omega) | (refine Fn.decF (uG _) ?_; omega) | exact uG _
    rintro _ rfl -; refine zQ ?_; refine uy ?_; refine qb (fun s' => ∃ j : Nat, j ≤ la ∧ (x.arcs.take j).all (xl len) = true ∧ s' = ⟨77, [(1, .ref 1 0), (3, .i len), (4, .i k), (5, .d (zU x.arcs)), (6, .i j)], [(1, ⟨24, [.i st, .d (zq sts)], false, 0⟩)], []⟩) (fun s' => la - s'.nat 6) ⟨_, ?_, 0, by omega, by simp, rfl⟩ ?_
    ·exact q8
    rintro s' ⟨j, hj, jB7, rfl⟩
    by_cases hlj : j < la
    ·obtain ⟨y, hy⟩ := zl xr hlj
     by_cases x6 : (0 ≤ y.i ∧ y.i ≤ 1000) ∧ (0 ≤ y.o ∧ y.o ≤ 1000) ∧ (0 ≤ y.w ∧ y.w ≤ 1000000000) ∧ 0 ≤ y.t ∧ y.t ≤ (len : Int) - 1
     ·obtain ⟨h1, h2, h3, h4⟩ := x6
      refine W66 ?_; refine zC ?_; refine qh (post := ?pc9) rfl (zS (args := [_, _, _]) ?hc9 ⟨func67, rfl, rfl, rfl, rfl⟩ rfl rfl rfl rfl) ?_
      case hc9 => first | (refine Fn.decT (vX _ _ _) ?_; omega) | (refine Fn.decF (vX _ _ _) ?_; omega) | exact vX _ _ _
      rintro _ rfl -; refine W25 ?_
      (refine qj (post := ?pc10) rfl rfl (zS (args := [_, _, _]) ?hc10 ⟨func67, rfl, rfl, rfl, rfl⟩ rfl rfl rfl rfl) ?_; (case hc10 => (refine Fn.decT (vX _ _ _) ?_; omega)); rintro _ rfl -; try dsimp only)
      refine zC ?_
      (refine qj (post := ?pc11) rfl rfl (zS (args := [_, _, _]) ?hc11 ⟨func67, rfl, rfl, rfl, rfl⟩ rfl rfl rfl rfl) ?_; (case hc11 => (refine Fn.decT (vX _ _ _) ?_; omega)); rintro _ rfl -; try dsimp only)
      refine x8 ?_
      (refine qj (post := ?pc12) rfl rfl (zS (args := [_, _, _]) ?hc12 ⟨func67, rfl, rfl, rfl, rfl⟩ rfl rfl rfl rfl) ?_; (case hc12 => (refine Fn.decT (vX _ _ _) ?_; omega)); rintro _ rfl -; try dsimp only)
      refine ve ?_; refine ⟨_, ?_, ⟨j + 1, by omega, q16 hy jB7 (qf3 zg), rfl⟩, ?_⟩
      ·exact q8
      exact zM
     have hE : zn ⟨st, sts⟩ = 2 := gq hl xZ vw hx (jr1 hy (j36 zg)); rw [hE]
     by_cases h1 : 0 ≤ y.i ∧ y.i ≤ 1000
     ·by_cases h2 : 0 ≤ y.o ∧ y.o ≤ 1000
      ·by_cases h3 : 0 ≤ y.w ∧ y.w ≤ 1000000000
       ·have h4 : ¬ (0 ≤ y.t ∧ y.t ≤ (len : Int) - 1) := fun h4 => x6 ⟨h1, h2, h3, h4⟩
        clear x6; refine W66 ?_; refine zC ?_; refine qh (post := ?pc13) rfl (zS (args := [_, _, _]) ?hc13 ⟨func67, rfl, rfl, rfl, rfl⟩ rfl rfl rfl rfl) ?_
        case hc13 => first | (refine Fn.decT (vX _ _ _) ?_; omega) | (refine Fn.decF (vX _ _ _) ?_; omega) | exact vX _ _ _
        rintro _ rfl -; refine W25 ?_
        (refine qj (post := ?pc14) rfl rfl (zS (args := [_, _, _]) ?hc14 ⟨func67, rfl, rfl, rfl, rfl⟩ rfl rfl rfl rfl) ?_; (case hc14 => (refine Fn.decT (vX _ _ _) ?_; omega)); rintro _ rfl -; try dsimp only)
        refine zC ?_
        (refine qj (post := ?pc15) rfl rfl (zS (args := [_, _, _]) ?hc15 ⟨func67, rfl, rfl, rfl, rfl⟩ rfl rfl rfl rfl) ?_; (case hc15 => (refine Fn.decT (vX _ _ _) ?_; omega)); rintro _ rfl -; try dsimp only)
        refine x8 ?_
        (refine qj (post := ?pc16) rfl rfl (zS (args := [_, _, _]) ?hc16 ⟨func67, rfl, rfl, rfl, rfl⟩ rfl rfl rfl rfl) ?_; (case hc16 => (refine Fn.decF (vX _ _ _) ?_; omega)); rintro _ rfl -; try dsimp only)
        refine xB ?_; exact ⟨[_], ⟨rfl, trivial⟩, rfl, zU2⟩
       clear x6; refine W66 ?_; refine zC ?_; refine qh (post := ?pc17) rfl (zS (args := [_, _, _]) ?hc17 ⟨func67, rfl, rfl, rfl, rfl⟩ rfl rfl rfl rfl) ?_
       case hc17 => first | (refine Fn.decT (vX _ _ _) ?_; omega) | (refine Fn.decF (vX _ _ _) ?_; omega) | exact vX _ _ _
       rintro _ rfl -; refine W25 ?_
       (refine qj (post := ?pc18) rfl rfl (zS (args := [_, _, _]) ?hc18 ⟨func67, rfl, rfl, rfl, rfl⟩ rfl rfl rfl rfl) ?_; (case hc18 => (refine Fn.decT (vX _ _ _) ?_; omega)); rintro _ rfl -; try dsimp only)
       refine zC ?_
       (refine qj (post := ?pc19) rfl rfl (zS (args := [_, _, _]) ?hc19 ⟨func67, rfl, rfl, rfl, rfl⟩ rfl rfl rfl rfl) ?_; (case hc19 => (refine Fn.decF (vX _ _ _) ?_; omega)); rintro _ rfl -; try dsimp only)
       refine yW ?_; exact ⟨[_], ⟨rfl, trivial⟩, rfl, zU2⟩
      clear x6; refine W66 ?_; refine zC ?_; refine qh (post := ?pc21) rfl (zS (args := [_, _, _]) ?hc21 ⟨func67, rfl, rfl, rfl, rfl⟩ rfl rfl rfl rfl) ?_
      case hc21 => first | (refine Fn.decT (vX _ _ _) ?_; omega) | (refine Fn.decF (vX _ _ _) ?_; omega) | exact vX _ _ _
      rintro _ rfl -; refine W25 ?_
      (refine qj (post := ?pc22) rfl rfl (zS (args := [_, _, _]) ?hc22 ⟨func67, rfl, rfl, rfl, rfl⟩ rfl rfl rfl rfl) ?_; (case hc22 => (refine Fn.decF (vX _ _ _) ?_; omega)); rintro _ rfl -; try dsimp only)
      iterate 22 refine Dv ?_
      exact ⟨[_], ⟨rfl, trivial⟩, rfl, zU2⟩
     clear x6; refine W66 ?_; refine zC ?_; refine qh (post := ?pc25) rfl (zS (args := [_, _, _]) ?hc25 ⟨func67, rfl, rfl, rfl, rfl⟩ rfl rfl rfl rfl) ?_
     case hc25 => first | (refine Fn.decT (vX _ _ _) ?_; omega) | (refine Fn.decF (vX _ _ _) ?_; omega) | exact vX _ _ _
     rintro _ rfl -; refine zQ ?_
     iterate 27 refine Dv ?_
     exact ⟨[_], ⟨rfl, trivial⟩, rfl, zU2⟩
    skip; refine vF ?_; have hA : x.arcs.all (xl len) = true := by rwa [take_of_length_le zg] at jB7
    refine ⟨_, ?_, ⟨k + 1, by omega, q16 hx xE (qf4 (by simp [vy]; omega) hA), rfl⟩, ?_⟩
    ·exact q8
    exact zM
   have hE : zn ⟨st, sts⟩ = 2 := gq hl xZ vw hx (qQ0 (by simp [vy]; omega)); rw [hE]; refine yB ?_; refine qh (post := ?pc29) rfl (zS (args := [_]) ?hc29 ⟨func68, rfl, rfl, rfl, rfl⟩ rfl rfl rfl rfl) ?_
   case hc29 => first | (refine Fn.decT (uG _) ?_; omega) | (refine Fn.decF (uG _) ?_; omega) | exact uG _
   rintro _ rfl -; refine zQ ?_; refine x8 ?_; exact ⟨[_], ⟨rfl, trivial⟩, rfl, zU2⟩
  skip; refine wn ?_; exact ⟨[_], ⟨rfl, trivial⟩, by rw [qx1 hl xZ vw zg zk xE]; rfl, zU2⟩
 skip; refine q33 ?_
 (refine qj (post := ?pc30) rfl rfl (zS (args := [_]) ?hc30 ⟨func66, rfl, rfl, rfl, rfl⟩ rfl rfl rfl rfl) ?_; (case hc30 => (exact gr ⟨st, sts⟩ (by simp only; omega))); rintro _ rfl -; try dsimp only)
 refine xu ?_; refine qh (post := ?pc31) rfl (zS (args := [_, _, _]) ?hc31 ⟨func67, rfl, rfl, rfl, rfl⟩ rfl rfl rfl rfl) ?_
 case hc31 => first | (refine Fn.decT (vX _ _ _) ?_; omega) | (refine Fn.decF (vX _ _ _) ?_; omega) | exact vX _ _ _
 rintro _ rfl -; refine zQ ?_; refine x8 ?_; exact ⟨[_], ⟨rfl, trivial⟩, by rw [qa4 hl xZ vw zg]; rfl, zU2⟩
theorem vH (x : Int) : Fn prog 61 [.i x] (fun v => v = .b (decide (0 ≤ x ∧ x ≤ 1000000000))) := by
 refine qc 9 fun w0 out => ?_
 by_cases h1 : 0 ≤ x
 ·by_cases h2 : x ≤ 1000000000
  ·skip
   refine xS ?_; exact ⟨[_], ⟨rfl, trivial⟩, by simp [zZ, h1, h2], zU2⟩
  skip; refine xS ?_; exact ⟨[_], ⟨rfl, trivial⟩, by simp [zZ, h1, h2], zU2⟩
 skip; refine xS ?_; exact ⟨[_], ⟨rfl, trivial⟩, by simp [zZ, h1], zU2⟩
theorem yP (x : Int) : Fn prog 101 [.i x] (fun v => v = .b (decide (0 ≤ x ∧ x ≤ 1000))) := by
 refine qc 9 fun w0 out => ?_
 by_cases h1 : 0 ≤ x
 ·by_cases h2 : x ≤ 1000
  ·skip
   refine xS ?_; exact ⟨[_], ⟨rfl, trivial⟩, by simp [zZ, h1, h2], zU2⟩
  skip; refine xS ?_; exact ⟨[_], ⟨rfl, trivial⟩, by simp [zZ, h1, h2], zU2⟩
 skip; refine xS ?_; exact ⟨[_], ⟨rfl, trivial⟩, by simp [zZ, h1], zU2⟩
theorem jP0 (y : Ar) (n : Int) : Fn prog 64 [.agg ((arD y).map V.d), .i n] (fun v => v = .b (xl n y)) := by
 refine qc 32 fun w0 out => ?_
 by_cases x6 : (0 ≤ y.i ∧ y.i ≤ 1000) ∧ (0 ≤ y.o ∧ y.o ≤ 1000) ∧ (0 ≤ y.w ∧ y.w ≤ 1000000000) ∧ 0 ≤ y.t ∧ y.t < n
 ·rw [qf3 x6]
  obtain ⟨h1, h2, h3, h4, h5⟩ := x6; refine W41 ?_; refine xX ?_; refine qh (post := ?pc59) rfl (wf (args := [_]) ?hc59 ⟨func101, rfl, rfl, rfl, rfl⟩ rfl rfl rfl rfl) ?_
  case hc59 => (refine Fn.decT (yP _) ?_; omega)
  rintro _ rfl -; refine W25 ?_
  (refine qj (post := ?pc60) rfl rfl (wf (args := [_]) ?hc60 ⟨func101, rfl, rfl, rfl, rfl⟩ rfl rfl rfl rfl) ?_; (case hc60 => ((refine Fn.decT (yP _) ?_; omega))); rintro _ rfl -; try dsimp only)
  refine zW ?_
  (refine qj (post := ?pc61) rfl rfl (zS (args := [_]) ?hc61 ⟨func61, rfl, rfl, rfl, rfl⟩ rfl rfl rfl rfl) ?_; (case hc61 => (refine Fn.decT (vH _) ?_; omega)); rintro _ rfl -; try dsimp only)
  refine uq ?_; exact ⟨[_], ⟨rfl, trivial⟩, rfl, zU2⟩
 rw [j36 x6]
 by_cases h1 : 0 ≤ y.i ∧ y.i ≤ 1000
 ·by_cases h2 : 0 ≤ y.o ∧ y.o ≤ 1000
  ·by_cases h3 : 0 ≤ y.w ∧ y.w ≤ 1000000000
   ·by_cases h4 : 0 ≤ y.t
    ·have h5 : ¬ y.t < n := fun h5 => x6 ⟨h1, h2, h3, h4, h5⟩
     clear x6; refine W41 ?_; refine xX ?_; refine qh (post := ?pc62) rfl (wf (args := [_]) ?hc62 ⟨func101, rfl, rfl, rfl, rfl⟩ rfl rfl rfl rfl) ?_
     case hc62 => (refine Fn.decT (yP _) ?_; omega)
     rintro _ rfl -; refine W25 ?_
     (refine qj (post := ?pc63) rfl rfl (wf (args := [_]) ?hc63 ⟨func101, rfl, rfl, rfl, rfl⟩ rfl rfl rfl rfl) ?_; (case hc63 => ((refine Fn.decT (yP _) ?_; omega))); rintro _ rfl -; try dsimp only)
     refine zW ?_
     (refine qj (post := ?pc64) rfl rfl (zS (args := [_]) ?hc64 ⟨func61, rfl, rfl, rfl, rfl⟩ rfl rfl rfl rfl) ?_; (case hc64 => (refine Fn.decT (vH _) ?_; omega)); rintro _ rfl -; try dsimp only)
     refine uq ?_; exact ⟨[_], ⟨rfl, trivial⟩, rfl, zU2⟩
    clear x6; refine W41 ?_; refine xX ?_; refine qh (post := ?pc65) rfl (wf (args := [_]) ?hc65 ⟨func101, rfl, rfl, rfl, rfl⟩ rfl rfl rfl rfl) ?_
    case hc65 => (refine Fn.decT (yP _) ?_; omega)
    rintro _ rfl -; refine W25 ?_
    (refine qj (post := ?pc66) rfl rfl (wf (args := [_]) ?hc66 ⟨func101, rfl, rfl, rfl, rfl⟩ rfl rfl rfl rfl) ?_; (case hc66 => ((refine Fn.decT (yP _) ?_; omega))); rintro _ rfl -; try dsimp only)
    refine zW ?_
    (refine qj (post := ?pc67) rfl rfl (zS (args := [_]) ?hc67 ⟨func61, rfl, rfl, rfl, rfl⟩ rfl rfl rfl rfl) ?_; (case hc67 => (refine Fn.decT (vH _) ?_; omega)); rintro _ rfl -; try dsimp only)
    refine uq ?_; exact ⟨[_], ⟨rfl, trivial⟩, rfl, zU2⟩
   clear x6; refine W41 ?_; refine xX ?_; refine qh (post := ?pc68) rfl (wf (args := [_]) ?hc68 ⟨func101, rfl, rfl, rfl, rfl⟩ rfl rfl rfl rfl) ?_
   case hc68 => (refine Fn.decT (yP _) ?_; omega)
   rintro _ rfl -; refine W25 ?_
   (refine qj (post := ?pc69) rfl rfl (wf (args := [_]) ?hc69 ⟨func101, rfl, rfl, rfl, rfl⟩ rfl rfl rfl rfl) ?_; (case hc69 => ((refine Fn.decT (yP _) ?_; omega))); rintro _ rfl -; try dsimp only)
   refine zW ?_
   (refine qj (post := ?pc70) rfl rfl (zS (args := [_]) ?hc70 ⟨func61, rfl, rfl, rfl, rfl⟩ rfl rfl rfl rfl) ?_; (case hc70 => (refine Fn.decF (vH _) ?_; omega)); rintro _ rfl -; try dsimp only)
   refine uq ?_; exact ⟨[_], ⟨rfl, trivial⟩, rfl, zU2⟩
  clear x6; refine W41 ?_; refine xX ?_; refine qh (post := ?pc71) rfl (wf (args := [_]) ?hc71 ⟨func101, rfl, rfl, rfl, rfl⟩ rfl rfl rfl rfl) ?_
  case hc71 => (refine Fn.decT (yP _) ?_; omega)
  rintro _ rfl -; refine W25 ?_
  (refine qj (post := ?pc72) rfl rfl (wf (args := [_]) ?hc72 ⟨func101, rfl, rfl, rfl, rfl⟩ rfl rfl rfl rfl) ?_; (case hc72 => ((refine Fn.decF (yP _) ?_; omega))); rintro _ rfl -; try dsimp only)
  iterate 20 refine Dv ?_
  exact ⟨[_], ⟨rfl, trivial⟩, rfl, zU2⟩
 clear x6; refine W41 ?_; refine xX ?_; refine qh (post := ?pc74) rfl (wf (args := [_]) ?hc74 ⟨func101, rfl, rfl, rfl, rfl⟩ rfl rfl rfl rfl) ?_
 case hc74 => (refine Fn.decF (yP _) ?_; omega)
 rintro _ rfl -; refine zQ ?_
 iterate 25 refine Dv ?_
 exact ⟨[_], ⟨rfl, trivial⟩, rfl, zU2⟩
theorem qH9 (y : Ar) (n : Int) : Fn prog 63 [.agg ((arD y).map V.d), .ad [.p (.int .i64 n)]] (fun v => v = .b (!xl n y)) := by
 refine qc 8 fun w0 out => ?_; refine W41 ?_; refine zC ?_; refine qa (jP0 _ _) ?_; refine W25 ?_; exact ⟨[_], ⟨rfl, trivial⟩, rfl, zU2⟩
theorem qR6 (l : List Ar) (n : Int) : Fn prog 100 [.d (zU l), .fn 63 [.ad [.p (.int .i64 n)]]] (fun v => ∃ i : Int, v = .i i ∧ (decide (0 ≤ i) = !l.all (xl n))) := by
 refine Fn.sl 0 rfl fun hb => ?_; obtain ⟨len, hn⟩ : ∃ n, l.length = n := ⟨_, rfl⟩; rw [length_map, hn] at hb; refine qc 19 fun w0 out => ?_; refine ve ?_; refine qb (fun s' => ∃ k : Nat, k ≤ len ∧ (l.take k).all (xl n) = true ∧ s' = ⟨19, [(0, .d (zU l)), (1, .fn 63 [.ad [.p (.int .i64 n)]]), (7, .i len), (8, .i k)], [], []⟩) (fun s' => len - s'.nat 8) ⟨_, ?_, 0, by omega, by simp, rfl⟩ ?_
 ·exact q8
 rintro s' ⟨k, hk, xE, rfl⟩
 by_cases zk : k < len
 ·obtain ⟨x, hx⟩ := zl hn zk
  by_cases x6 : xl n x = true
  ·skip
   refine yB ?_; refine qh (post := ?pc78) rfl (wf (args := [_]) ?hc78 ⟨func63, rfl, rfl, rfl, rfl⟩ rfl rfl rfl rfl) ?_
   case hc78 => exact (qH9 _ _)
   rintro _ rfl -; refine q62 ?_; simp only [x6, Bool.not_true]; refine zY ?_; refine ⟨_, ?_, ⟨k + 1, by omega, q16 hx xE x6, rfl⟩, ?_⟩
   ·exact q8
   exact zM
  have jP1 : xl n x = false := by simpa using x6
  have wm : l.all (xl n) = false := qc4 hx jP1; refine yB ?_; refine qh (post := ?pc79) rfl (wf (args := [_]) ?hc79 ⟨func63, rfl, rfl, rfl, rfl⟩ rfl rfl rfl rfl) ?_
  case hc79 => exact (qH9 _ _)
  rintro _ rfl -; refine q62 ?_; simp only [jP1, Bool.not_false]; refine zY ?_; exact ⟨[_], ⟨rfl, trivial⟩, ⟨k, rfl, by simp [wm]⟩, zU2⟩
 have hA : l.all (xl n) = true := by rwa [take_of_length_le zg] at xE
 refine ve ?_; exact ⟨[_], ⟨rfl, trivial⟩, ⟨-1, rfl, by simp [hA]⟩, zU2⟩
theorem uS (l : List Ar) (n : Int) : Fn prog 62 [.d (zU l), .fn 63 [.ad [.p (.int .i64 n)]]] (fun v => v = .b (!l.all (xl n))) := by
 refine qc 9 fun w0 out => ?_; refine zY ?_; refine qh (post := ?pc80) rfl (zS (args := [_, _]) ?hc80 ⟨func100, rfl, rfl, rfl, rfl⟩ rfl rfl rfl rfl) ?_
 case hc80 => exact qR6 _ _
 rintro _ ⟨i, rfl, hi⟩ -; refine zQ ?_; refine qe rfl rfl (qO3 rfl rfl rfl) ?_; refine xd ?_; exact ⟨[_], ⟨rfl, trivial⟩, by rw [← hi]; rfl, zU2⟩
theorem we (m : zr) : Fn prog 27 [mV m] (fun v => v = .i (zn m)) := by
 refine qD m 0 rfl fun hsl wm => ?_; obtain ⟨st, sts⟩ := m; simp only at hsl wm ⊢; obtain ⟨len, hl⟩ : ∃ n, sts.length = n := ⟨_, rfl⟩; rw [hl] at hsl; refine qc 59 fun w0 out => ?_
 by_cases xZ : 60 < len
 ·skip
  refine qf2 ?_; refine q9 rfl (zp (l := [.i 0]) 3 zz rfl rfl rfl rfl) ?_; refine W79 ?_; exact ⟨[_], ⟨rfl, trivial⟩, by rw [q44 (.inl (by rw [hl]; exact xZ))]; rfl, zU2⟩
 skip; refine qf2 ?_; refine q9 rfl (zp (l := [.i 0]) 3 zz rfl rfl rfl rfl) ?_; refine q32 ?_; refine uy ?_
 refine qb (fun s' => ∃ k : Nat, k ≤ len ∧ xp (sts.take k) ≤ k * 4398046511104 ∧ s' = ⟨59, [(1, .ref 1 0), (3, .ref 3 0), (4, .i (xp (sts.take k))), (15, .d (zq sts)), (16, .i len), (17, .i k)], [(1, ⟨24, [.i st, .d (zq sts)], false, 0⟩), (3, ⟨3, [.i len], false, 0⟩)], []⟩) (fun s' => len - s'.nat 17) ⟨_, ?_, 0, by omega, by simp [xp], rfl⟩ ?_
 ·exact q8
 rintro s' ⟨k, hk, hs, rfl⟩
 by_cases zk : k < len
 ·obtain ⟨x, hx⟩ := zl hl zk
  obtain ⟨la, xr⟩ : ∃ n, x.arcs.length = n := ⟨_, rfl⟩; have yO := wm x (mem_of_getElem? hx); have vl : xp (sts.take (k + 1)) = xp (sts.take k) + la := by rw [x5 hx, q81, xr]
  refine xu ?_; refine q9 rfl (zp (l := [.i 0, .nil]) 6 xD rfl rfl rfl rfl) ?_; refine vF ?_; refine ⟨_, ?_, ⟨k + 1, by omega, by omega, rfl⟩, ?_⟩
  ·rw [vl]; exact q8
  exact zM
 rw [qH2 hl zk]
 by_cases vw : 400 < xp sts
 ·skip
  refine yW ?_; exact ⟨[_], ⟨rfl, trivial⟩, by rw [q44 (.inr vw)]; rfl, zU2⟩
 by_cases xR : -1 ≤ st
 ·by_cases ka8 : st < (len : Int)
  ·skip
   iterate 35 refine Dv ?_
   refine qb (fun s' => ∃ k : Nat, k ≤ len ∧ (sts.take k).all (uK len) = true ∧ s' = ⟨59, [(1, .ref 1 0), (3, .ref 3 0), (39, .d (zq sts)), (40, .i len), (41, .i k)], [(1, ⟨24, [.i st, .d (zq sts)], false, 0⟩), (3, ⟨3, [.i len], false, 0⟩)], []⟩) (fun s' => len - s'.nat 41) ⟨_, ?_, 0, by omega, by simp, rfl⟩ ?_
   ·exact q8
   clear zk hk hs k; rintro s' ⟨k, hk, xE, rfl⟩
   by_cases zk : k < len
   ·obtain ⟨x, hx⟩ := zl hl zk
    by_cases hf : 0 ≤ x.fin ∧ x.fin ≤ 1000000001
    ·have hf1 : vy x.fin = true := by simp [vy]; omega
     by_cases hA : x.arcs.all (xl len) = true
     ·by_cases hf2 : 0 ≤ x.fin ∧ x.fin ≤ 1000000000
      ·skip
       refine W76 ?_; refine zY ?_; refine qh (post := ?pc81) rfl (zS (args := [_]) ?hc81 ⟨func61, rfl, rfl, rfl, rfl⟩ rfl rfl rfl rfl) ?_
       case hc81 => first | (refine Fn.decT (vH _) ?_; omega) | (refine Fn.decF (vH _) ?_; omega) | exact vH _
       rintro _ rfl -; refine qe9 ?_; refine qe rfl rfl (un (vs := [_]) rfl rfl) ?_; refine qh (post := ?pc82) rfl (gB (args := ?ac82) (us := [_, _]) ?hc82 ?qc82 ⟨func62, rfl, rfl, rfl, rfl⟩ rfl rfl rfl ?rc82 rfl) ?_
       case hc82 => exact uS x.arcs len
       case qc82 => (intro v hv; first | (subst hv; first | trivial | (simp [V.plain]; done)) | (obtain ⟨_, rfl, _⟩ := hv; first | trivial | (simp [V.plain]; done)))
       case rc82 => exact .cons (.refl _ (by simp [V.pure, V.has])) (.cons (Ro.fns (.cons (.ref 3 0 _ [.p (.int .i64 len)] rfl rfl rfl) .nil)) .nil)
       rintro _ rfl -; refine q62 ?_; simp only [hA, Bool.not_true]; refine zY ?_; refine ⟨_, ?_, ⟨k + 1, by omega, q16 hx xE (qf4 hf1 hA), rfl⟩, ?_⟩
       ·exact q8
       exact zM
      skip; refine W76 ?_; refine zY ?_; refine qh (post := ?pc83) rfl (zS (args := [_]) ?hc83 ⟨func61, rfl, rfl, rfl, rfl⟩ rfl rfl rfl rfl) ?_
      case hc83 => first | (refine Fn.decT (vH _) ?_; omega) | (refine Fn.decF (vH _) ?_; omega) | exact vH _
      rintro _ rfl -; refine qe9 ?_; refine qe rfl rfl (un (vs := [_]) rfl rfl) ?_; refine qh (post := ?pc84) rfl (gB (args := ?ac84) (us := [_, _]) ?hc84 ?qc84 ⟨func62, rfl, rfl, rfl, rfl⟩ rfl rfl rfl ?rc84 rfl) ?_
      case hc84 => exact uS x.arcs len
      case qc84 => (intro v hv; first | (subst hv; first | trivial | (simp [V.plain]; done)) | (obtain ⟨_, rfl, _⟩ := hv; first | trivial | (simp [V.plain]; done)))
      case rc84 => exact .cons (.refl _ (by simp [V.pure, V.has])) (.cons (Ro.fns (.cons (.ref 3 0 _ [.p (.int .i64 len)] rfl rfl rfl) .nil)) .nil)
      rintro _ rfl -; refine q62 ?_; simp only [hA, Bool.not_true]; refine zY ?_; refine ⟨_, ?_, ⟨k + 1, by omega, q16 hx xE (qf4 hf1 hA), rfl⟩, ?_⟩
      ·exact q8
      exact zM
     have hA' : x.arcs.all (xl len) = false := by simpa using hA
     by_cases hf2 : 0 ≤ x.fin ∧ x.fin ≤ 1000000000
     ·have hE : zn ⟨st, sts⟩ = 2 := gq hl xZ vw hx (qH1 hA')
      rw [hE]; refine W76 ?_; refine zY ?_; refine qh (post := ?pc85) rfl (zS (args := [_]) ?hc85 ⟨func61, rfl, rfl, rfl, rfl⟩ rfl rfl rfl rfl) ?_
      case hc85 => first | (refine Fn.decT (vH _) ?_; omega) | (refine Fn.decF (vH _) ?_; omega) | exact vH _
      rintro _ rfl -; refine qe9 ?_; refine qe rfl rfl (un (vs := [_]) rfl rfl) ?_; refine qh (post := ?pc86) rfl (gB (args := ?ac86) (us := [_, _]) ?hc86 ?qc86 ⟨func62, rfl, rfl, rfl, rfl⟩ rfl rfl rfl ?rc86 rfl) ?_
      case hc86 => exact uS x.arcs len
      case qc86 => (intro v hv; first | (subst hv; first | trivial | (simp [V.plain]; done)) | (obtain ⟨_, rfl, _⟩ := hv; first | trivial | (simp [V.plain]; done)))
      case rc86 => exact .cons (.refl _ (by simp [V.pure, V.has])) (.cons (Ro.fns (.cons (.ref 3 0 _ [.p (.int .i64 len)] rfl rfl rfl) .nil)) .nil)
      rintro _ rfl -; refine q62 ?_; simp only [hA', Bool.not_false]; refine zC ?_; exact ⟨[_], ⟨rfl, trivial⟩, rfl, zU2⟩
     have hE : zn ⟨st, sts⟩ = 2 := gq hl xZ vw hx (qH1 hA'); rw [hE]; refine W76 ?_; refine zY ?_; refine qh (post := ?pc87) rfl (zS (args := [_]) ?hc87 ⟨func61, rfl, rfl, rfl, rfl⟩ rfl rfl rfl rfl) ?_
     case hc87 => first | (refine Fn.decT (vH _) ?_; omega) | (refine Fn.decF (vH _) ?_; omega) | exact vH _
     rintro _ rfl -; refine qe9 ?_; refine qe rfl rfl (un (vs := [_]) rfl rfl) ?_; refine qh (post := ?pc88) rfl (gB (args := ?ac88) (us := [_, _]) ?hc88 ?qc88 ⟨func62, rfl, rfl, rfl, rfl⟩ rfl rfl rfl ?rc88 rfl) ?_
     case hc88 => exact uS x.arcs len
     case qc88 => (intro v hv; first | (subst hv; first | trivial | (simp [V.plain]; done)) | (obtain ⟨_, rfl, _⟩ := hv; first | trivial | (simp [V.plain]; done)))
     case rc88 => exact .cons (.refl _ (by simp [V.pure, V.has])) (.cons (Ro.fns (.cons (.ref 3 0 _ [.p (.int .i64 len)] rfl rfl rfl) .nil)) .nil)
     rintro _ rfl -; refine q62 ?_; simp only [hA', Bool.not_false]; refine zC ?_; exact ⟨[_], ⟨rfl, trivial⟩, rfl, zU2⟩
    have hE : zn ⟨st, sts⟩ = 2 := gq hl xZ vw hx (qQ0 (by simp [vy]; omega)); rw [hE]; refine W76 ?_; refine zY ?_; refine qh (post := ?pc89) rfl (zS (args := [_]) ?hc89 ⟨func61, rfl, rfl, rfl, rfl⟩ rfl rfl rfl rfl) ?_
    case hc89 => first | (refine Fn.decT (vH _) ?_; omega) | (refine Fn.decF (vH _) ?_; omega) | exact vH _
    rintro _ rfl -; refine qe9 ?_; exact ⟨[_], ⟨rfl, trivial⟩, rfl, zU2⟩
   skip; refine ve ?_; exact ⟨[_], ⟨rfl, trivial⟩, by rw [qx1 hl xZ vw zg zk xE]; rfl, zU2⟩
  skip; refine bL ?_; exact ⟨[_], ⟨rfl, trivial⟩, by rw [qa4 hl xZ vw zg]; rfl, zU2⟩
 skip; refine bL ?_; exact ⟨[_], ⟨rfl, trivial⟩, by rw [qa4 hl xZ vw zg]; rfl, zU2⟩
def clB (m : zr) (L : List Bool) (q : Nat) : Prop := (yc m q → L[q]? = some true) ∧ (∀ p, L[p]? = some true → uR m p q → L[q]? = some true)
theorem jP2 (m : zr) : ∀ x, Rch (yc m) (uR m) x → x < m.states.length := by
 intro x hx
 cases hx with
 | init q h => obtain ⟨s, h, _⟩ := h; exact (List.getElem?_eq_some_iff.1 h).1
 | step q p h e => obtain ⟨s, a, h1, _⟩ := e; exact (List.getElem?_eq_some_iff.1 h1).1
theorem jc7 (m : zr) : Fn prog 87 [mV m] (fun v => (zn m ≠ 0 ∧ v = .tup [.nil, .i (zn m)]) ∨ (zn m = 0 ∧ v = .tup [.d (y6 (yU m)), .i (zn m)])) := by
 refine qD m 0 rfl fun hb wm => ?_
 by_cases h0 : zn m = 0
 ·have hA : yU m = gj (yc m) (uR m) m.states.length := by unfold yU; rw [if_pos h0]
  have w3 := jP2 m; obtain ⟨xZ, vw, xR, hz⟩ := xj h0; obtain ⟨st, sts⟩ := m; simp only at xZ vw xR hz hb wm hA w3; obtain ⟨n, hn⟩ : ∃ n, sts.length = n := ⟨_, rfl⟩; rw [hn] at xZ xR hz hb hA w3; refine qc 68 fun w0 out => ?_; refine qs6 ?_; refine qa (Fn.eqi (wz ⟨st, sts⟩) h0) ?_; refine zQ ?_; refine jN4 ?_; refine x8 ?_
  refine qb (fun s' => ∃ (k : Nat) (L : List Bool), k ≤ n + 1 ∧ Rnd (yc ⟨st, sts⟩) (uR ⟨st, sts⟩) n k (fun _ => True) L ∧ s' = ⟨68, [(1, .ref 1 0), (5, .i n), (6, .own 19 1 n false), (7, .i k)], [(1, ⟨24, [.i st, .d (zq sts)], false, 0⟩), (19, ⟨4, L.map V.b, false, 1⟩)], []⟩) (fun s' => n + 1 - s'.nat 7) ⟨_, ?_, 0, List.replicate n false, by omega, Rnd.start fun _ => trivial, rfl⟩ ?_
  ·exact q8
  rintro s' ⟨k, L, hk, hR, rfl⟩
  by_cases zk : k ≤ n
  ·skip
   refine vF ?_
   refine qb (fun s' => ∃ (q : Nat) (L : List Bool), q ≤ n ∧ Rnd (yc ⟨st, sts⟩) (uR ⟨st, sts⟩) n k (fun L => ∀ q', q' < q → clB ⟨st, sts⟩ L q') L ∧ s' = ⟨68, [(1, .ref 1 0), (5, .i n), (6, .own 19 1 n false), (7, .i k), (8, .i q)], [(1, ⟨24, [.i st, .d (zq sts)], false, 0⟩), (19, ⟨4, L.map V.b, false, 1⟩)], []⟩) (fun s' => n - s'.nat 8) ⟨_, ?_, 0, L, by omega, hR.skip fun _ q' h => absurd h zg, rfl⟩ ?_
   ·exact q8
   rintro s' ⟨q, L, hq, hR, rfl⟩
   by_cases hlq : q < n
   ·obtain ⟨x, hx⟩ := zl hn hlq
    obtain ⟨la, xr⟩ : ∃ n, x.arcs.length = n := ⟨_, rfl⟩; have yO := wm x (mem_of_getElem? hx); rw [xr] at yO; refine ve ?_
    refine qn (fun s' => ∃ L : List Bool, Rnd (yc ⟨st, sts⟩) (uR ⟨st, sts⟩) n k (fun L => (∀ q', q' < q → clB ⟨st, sts⟩ L q') ∧ (yc ⟨st, sts⟩ q → L[q]? = some true)) L ∧ s' = ⟨68, [(1, .ref 1 0), (5, .i n), (6, .own 19 1 n false), (7, .i k), (8, .i q)], [(1, ⟨24, [.i st, .d (zq sts)], false, 0⟩), (19, ⟨4, L.map V.b, false, 1⟩)], []⟩) ?_ ?_
    ·skip
     by_cases hqs : x.fin = 1000000001
     ·apply qg
      refine xu ?_; refine ⟨_, ?_, L, hR.skip (fun h => ⟨h, fun ⟨s, h1, h2⟩ => ?_⟩), rfl⟩
      ·exact q8
      grind
     have hlL : q < L.length := by rw [hR.1]; exact hlq
     refine vF ?_; refine qs2 ?_; refine Dv ?_
     refine ⟨_, ?_, L.set q true, hR.set hlq (.inl ⟨x, hx, hqs⟩) (fun h1 h2 => ⟨h2, fun _ => h1⟩), rfl⟩
     exact q8
    rintro s' ⟨L, hR, rfl⟩; refine zW ?_
    refine qb (fun s' => ∃ (i : Nat) (L : List Bool), i ≤ la ∧ Rnd (yc ⟨st, sts⟩) (uR ⟨st, sts⟩) n k (fun L => (∀ q', q' < q → clB ⟨st, sts⟩ L q') ∧ (yc ⟨st, sts⟩ q → L[q]? = some true) ∧ (∀ (j : Nat) (a : Ar) (p : Nat), j < i → x.arcs[j]? = some a → a.t = (p : Int) → L[p]? = some true → L[q]? = some true)) L ∧ s' = ⟨68, [(1, .ref 1 0), (5, .i n), (6, .own 19 1 n false), (7, .i k), (8, .i q), (9, .i i)], [(1, ⟨24, [.i st, .d (zq sts)], false, 0⟩), (19, ⟨4, L.map V.b, false, 1⟩)], []⟩) (fun s' => la - s'.nat 9) ⟨_, ?_, 0, L, by omega, hR.skip fun h => ⟨h.1, h.2, fun j a p h => absurd h zg⟩, rfl⟩ ?_
    ·exact q8
    rintro s' ⟨i, L, hi, hR, rfl⟩
    by_cases vr : i < la
    ·obtain ⟨y, hy⟩ := zl xr vr
     have hyt := (hz x (mem_of_getElem? hx)).2 y (mem_of_getElem? hy); obtain ⟨yi, yo, yw, yt⟩ := y; simp only [xl, decide_eq_true_eq] at hyt; obtain ⟨p, rfl⟩ : ∃ p : Nat, yt = p := ⟨yt.toNat, by omega⟩; have wa : p < n := by omega
     have hlL : q < L.length := by rw [hR.1]; exact hlq
     obtain ⟨b, hb⟩ := zl hR.1 wa
     cases b with
     | true =>
      iterate 36 refine Dv ?_
      refine jO6 ?_; refine ⟨_, ?_, ⟨i + 1, L.set q true, by omega, hR.set hlq (.inr ⟨p, hb, x, _, hx, mem_of_getElem? hy, rfl⟩) (fun h1 ⟨h2, h3, h4⟩ => ⟨h2, h3, fun _ _ _ _ _ _ _ => h1⟩), rfl⟩, ?_⟩
      ·exact q8
      exact zM
     | false =>
      iterate 38 refine Dv ?_
      refine ⟨_, ?_, ⟨i + 1, L, by omega, hR.skip (fun ⟨h2, h3, h4⟩ => ⟨h2, h3, fun j a r hj ha hr ht => ?_⟩), rfl⟩, ?_⟩
      ·exact q8
      ·grind
      exact zM
    skip; refine gi ?_; refine ⟨_, ?_, ⟨q + 1, L, by omega, hR.skip (fun ⟨h1, h2, h3⟩ q' hq' => ?_), rfl⟩, ?_⟩
    ·exact q8
    ·by_cases e : q' = q
     ·subst e
      refine ⟨h2, fun p hp he => ?_⟩; obtain ⟨s, a, h4, h5, h6⟩ := he; simp only at h4; rw [hx] at h4; simp only [Option.some.injEq] at h4; subst h4; obtain ⟨j, hj⟩ := List.getElem?_of_mem h5; have vJ : j < la := by rw [← xr]; exact (List.getElem?_eq_some_iff.1 hj).1
      exact h3 j a p zg hj h6 hp
     exact h1 q' zg
    exact zM
   skip; refine xS ?_; refine ⟨_, ?_, ⟨k + 1, L, by omega, hR.next (fun h => ?_) (fun _ => trivial), rfl⟩, ?_⟩
   ·exact q8
   ·intro y hy hj
    have hyn : y < n := by rw [hR.1] at hy; exact hy
    rcases hj with hj | ⟨z, h1, h2⟩
    ·exact (h y zg).1 hj
    have hzn : z < n := by have := (List.getElem?_eq_some_iff.1 h1).1; rw [hR.1] at this; exact this
    exact (h y zg).2 z h1 h2
   exact zM
  skip; refine qP9 ?_; have hL := hR.done zg w3; refine qk 6 1 (L.map fun b => [.p (.bool b)]) rfl rfl rfl (by rw [length_map, hR.1]) zg (yk rfl) ?_; refine zY ?_; exact ⟨[_, _], zU4, .inr ⟨h0, by rw [h0, hA, ← hL]; rfl⟩, zU0⟩
 obtain ⟨st, sts⟩ := m; obtain ⟨e, he⟩ : ∃ e, zn ⟨st, sts⟩ = e := ⟨_, rfl⟩; rw [he] at h0 ⊢; refine qc 68 fun w0 out => ?_; refine qs6 ?_; refine qa (Fn.eqi (wz ⟨st, sts⟩) he) ?_; refine zQ ?_; refine vF ?_; exact ⟨[_, _], zU4, .inl ⟨h0, rfl⟩, zU0⟩
theorem qR7 (m : zr) (v : V) (h : (zn m ≠ 0 ∧ v = .tup [.nil, .i (zn m)]) ∨ (zn m = 0 ∧ v = .tup [.d (y6 (yU m)), .i (zn m)])) (_ : v.pure) : ∃ v', v' = .tup [.d (y6 (yU m)), .i (zn m)] ∧ v'.pure ∧ WkR v' v := by
 refine ⟨_, rfl, by simp [V.pure, V.has, V.hasL], ?_⟩
 rcases h with ⟨h0, rfl⟩ | ⟨h0, rfl⟩
 ·grind [yU, WkR.nil1]
 exact .one (.refl _)
theorem ji4 (m : zr) : Fn prog 87 [mV m] (fun v => v = .tup [.d (y6 (yU m)), .i (zn m)]) := (jc7 m).wk (qR7 m)
end Go.Proofs.YthiknkcigcglkaaGreatDoor
