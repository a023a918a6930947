/- Part 27 of what the law SameSames rests on. -/
import Derived.Test.YthiknkcigcglkaaGreatDoorPkSS24
namespace Go.Proofs.YthiknkcigcglkaaGreatDoor
open Go.RowKit
open Go.Proofs.Tryz
open List (append_nil flatMap_append flatMap_cons flatMap_nil length_map length_take take_of_length_le)
set_option linter.unusedSimpArgs false
set_option linter.unusedVariables false
set_option maxRecDepth 100000
set_option maxHeartbeats 8000000
theorem j31 (l : List Ar) (hl : l.length ≤ 400) : Fn prog 49 [.d (zU l)] (fun v => v = .d (zU (lst l))) := by
 obtain ⟨n, hn⟩ : ∃ n, l.length = n := ⟨_, rfl⟩; rw [hn] at hl; refine qc 63 fun w0 out => ?_; refine zY ?_; refine qB 3 100 4 47 rfl zT4 ?_; refine zC ?_
 refine qb (fun s' => ∃ (i : Nat) (A : List Ar) (ak : Nat), i ≤ n ∧ A = lst (l.take i) ∧ A.length = ak ∧ s' = ⟨63, [(0, .d (zU l)), (3, .own 100 4 ak (decide (ak = 0))), (4, .i i)], [(100, ⟨47, A.flatMap vG, decide (ak = 0), 4⟩)], []⟩) (fun s' => n - s'.nat 4) ⟨_, ?_, 0, [], 0, by omega, rfl, rfl, rfl⟩ ?_
 ·exact q8
 rintro s' ⟨i, A, ak, hi, hA, hak, rfl⟩; have xA := flA hak
 have kc3 : ak ≤ 400 := by
  have := j61 (l.take i); rw [← hA, hak, length_take] at this; omega
 by_cases zk : i < n
 ·obtain ⟨x, hx⟩ := zl hn zk
  by_cases h0 : i = 0
  ·subst h0
   have h1 := jG0 hx; have qg1 : A = [] := by rw [hA]; rfl
   subst qg1; obtain rfl : ak = 0 := by simpa using hak.symm
   obtain ⟨xi, xo, xw, xt⟩ := x; refine xu ?_; refine W5 ?_
   iterate 44 refine Dv ?_
   refine W44 ?_; refine q9 rfl (zN (vs := [(0, _)]) (zs := [.i 0, .i 0, .i 0, .i 0]) 60 underlying33 zO rfl rfl zj zj zj rfl rfl rfl rfl rfl rfl rfl) ?_; refine qf rfl (xK underlying33 zO rfl zj rfl rfl rfl rfl rfl rfl zT5 rfl rfl rfl rfl rfl rfl rfl rfl zj zg zg rfl) ?_; refine W30 ?_; refine ⟨_, ?_, ⟨1, [⟨xi, xo, xw, xt⟩], 1, by omega, h1.symm, rfl, rfl⟩, ?_⟩
   ·exact q8
   exact zM
  obtain ⟨p, hp⟩ := zl hn (show i - 1 < n by omega)
  have vl := jv0 (l := l) (i := i - 1) (x := x) (p := p) (by rw [show i - 1 + 1 = i by omega]; exact hx) hp
  rw [show i - 1 + 2 = i + 1 by omega, show i - 1 + 1 = i by omega, ← hA] at vl
  have h0f : ¬ (i : Int) = 0 := by omega
  obtain ⟨xi, xo, xw, xt⟩ := x; obtain ⟨pi, po, pw, pt⟩ := p
  by_cases e1 : xi = pi
  ·by_cases e2 : xo = po
   ·by_cases e3 : xt = pt
    ·rw [if_pos (by simp [alk, e1, e2, e3])] at vl
     refine xu ?_; refine W5 ?_; refine xu ?_; refine qE rfl rfl rfl rfl (fun _ _ h => h) (x7 (k := i - 1) underlying33 zO rfl rfl rfl zg zm) ?_; refine xS ?_; refine qE rfl rfl rfl rfl (fun _ _ h => h) (x7 (k := i - 1) underlying33 zO rfl rfl rfl zg zm) ?_; refine xS ?_; refine qE rfl rfl rfl rfl (fun _ _ h => h) (x7 (k := i - 1) underlying33 zO rfl rfl rfl zg zm) ?_; refine zW ?_; refine W44 ?_
     refine ⟨_, ?_, ⟨i + 1, A, ak, by omega, by rw [vl]; simp, hak, rfl⟩, ?_⟩
     ·exact q8
     exact zM
    rw [if_neg (by simp [alk, e3])] at vl; refine xu ?_; refine W5 ?_; refine xu ?_; refine qE rfl rfl rfl rfl (fun _ _ h => h) (x7 (k := i - 1) underlying33 zO rfl rfl rfl zg zm) ?_; refine xS ?_; refine qE rfl rfl rfl rfl (fun _ _ h => h) (x7 (k := i - 1) underlying33 zO rfl rfl rfl zg zm) ?_; refine xS ?_
    refine qE rfl rfl rfl rfl (fun _ _ h => h) (x7 (k := i - 1) underlying33 zO rfl rfl rfl zg zm) ?_; refine zW ?_; refine W95 ?_; refine W0 ?_; refine x8 ?_; refine ⟨_, ?_, ⟨i + 1, A ++ [⟨xi, xo, xw, xt⟩], ak + 1, by omega, vl.symm, by simp [hak], rfl⟩, ?_⟩
    ·simp only [flatMap_append, flatMap_cons, flatMap_nil, append_nil]
     exact q8
    exact zM
   rw [if_neg (by simp [alk, e2])] at vl; refine xu ?_; refine W5 ?_; refine xu ?_; refine qE rfl rfl rfl rfl (fun _ _ h => h) (x7 (k := i - 1) underlying33 zO rfl rfl rfl zg zm) ?_; refine xS ?_; refine qE rfl rfl rfl rfl (fun _ _ h => h) (x7 (k := i - 1) underlying33 zO rfl rfl rfl zg zm) ?_; refine yB ?_; refine W95 ?_; refine W0 ?_; refine x8 ?_
   refine ⟨_, ?_, ⟨i + 1, A ++ [⟨xi, xo, xw, xt⟩], ak + 1, by omega, vl.symm, by simp [hak], rfl⟩, ?_⟩
   ·simp only [flatMap_append, flatMap_cons, flatMap_nil, append_nil]
    exact q8
   exact zM
  rw [if_neg (by simp [alk, e1])] at vl; refine xu ?_; refine W5 ?_; refine xu ?_; refine qE rfl rfl rfl rfl (fun _ _ h => h) (x7 (k := i - 1) underlying33 zO rfl rfl rfl zg zm) ?_
  iterate 32 refine Dv ?_
  refine W95 ?_; refine W0 ?_; refine x8 ?_; refine ⟨_, ?_, ⟨i + 1, A ++ [⟨xi, xo, xw, xt⟩], ak + 1, by omega, vl.symm, by simp [hak], rfl⟩, ?_⟩
  ·simp only [flatMap_append, flatMap_cons, flatMap_nil, append_nil]
   exact q8
  exact zM
 rw [take_of_length_le zg] at hA; rw [← hA]; refine q61 ?_; refine qk 3 32 (A.map arD) rfl rfl rfl (by rw [length_map, hak]) zg (vx (enc := arD) (sz := 4) (l := A) (fun _ => rfl) rfl) ?_; refine zC ?_; exact ⟨[_], ⟨rfl, trivial⟩, rfl, zU2⟩
end Go.Proofs.YthiknkcigcglkaaGreatDoor
