/- Part 24 of what the law SameSames rests on. -/
import Derived.Test.YthiknkcigcglkaaGreatDoorPkSS17
import Derived.Test.YthiknkcigcglkaaGreatDoorPkSS23
namespace Go.Proofs.YthiknkcigcglkaaGreatDoor
open Go.RowKit
open Go.Proofs.Tryz
open List (append_nil flatMap_append flatMap_cons flatMap_nil getD_eq_getElem?_getD length_append length_cons length_map length_nil length_take map_append map_cons map_nil mem_of_getElem? mem_singleton take_of_length_le)
open Nat (le_refl)
set_option linter.unusedSimpArgs false
set_option linter.unusedVariables false
set_option maxRecDepth 100000
set_option maxHeartbeats 8000000
variable {l : List Ar} {x : Operand} {fn : Func} {code : Code} {k n nn : Nat} {rs : List ResultVar} {sts : List St} {d : List Nat} {a b : Ar}
def okA (y : Ar) : Prop := (0 ≤ y.i ∧ y.i ≤ 1000) ∧ (0 ≤ y.o ∧ y.o ≤ 1000) ∧ 0 ≤ y.t ∧ y.t ≤ 60
theorem jY9 (kf : FuncId) : FnO prog 38 [.fn kf []] (fun v H => v = .fn 77 [.ref 901 0] ∧ H = [(901, ⟨108, [.fn kf []], false, 0⟩)]) := by
 refine FnO.intro (n := 4) ⟨func38, rfl, rfl, rfl, rfl⟩ zT8 zx fun w0 out => ?_; apply qr; refine q9 rfl (uV 901 rfl rfl rfl rfl rfl) ?_; refine xd ?_; refine qe rfl rfl (un (vs := [_]) rfl rfl) ?_; refine xd ?_
 exact ⟨[_], [(901, ⟨108, [.fn kf []], false, 0⟩)], ⟨rfl, trivial⟩, ⟨rfl, trivial⟩, ⟨rfl, rfl⟩, by simp [zZ, V.has, V.hasL], fun r row k h1 h2 => by
  simp only [fnd, beq_iff_eq] at h1
  split at h1
  ·cases h1; simp [V.hasL, V.has] at h2
  cases h1⟩
theorem jT2 (args : Array Value) (w : World) : (callFunc 77 args).run prog w = .ok (.enter 77 args) w := enters_of func77 zh rfl args w
theorem jT3 (args : Array Value) (w : World) : (callFunc 39 args).run prog w = .ok (.enter 39 args) w := enters_of func39 zh rfl args w
theorem jf5 (l : List Ar) (hl : l.length ≤ 400) : Fn2 prog 74 36 [.d (zU l)] (fun v => v = .d (zU (inO l))) := by
 refine Fn2.intro (jl8 l) ⟨func36, rfl, rfl, rfl, rfl⟩ zj ?_; rintro v H ⟨fl, xA, rfl, rfl⟩ w0 out; have w3 := gg l; refine zC ?_; refine j4 (post := ?pc90) rfl (q65 (args := [_]) ?hc90 ⟨func38, rfl, rfl, rfl, rfl⟩ rfl rfl rfl rfl ?fc90) ?_
 case hc90 => exact jY9 _
 case fc90 => exact (by rintro _ _ ⟨rfl, rfl⟩; first | rfl | simp [S.clean, S.put, S.newObj, S.forget, V.has, V.hasL, zV, xg, V.cs, xm, xF, xG, xc, x4, zE, zA])
 rintro _ _ ⟨rfl, rfl⟩; refine zQ ?_; refine qf rfl (jH0 ⟨func37, rfl, rfl, rfl, rfl⟩ k72 rfl rfl rfl rfl rfl zg rfl rfl rfl zj rfl jT2 (fun bk W a b hc => jY6 je5 jT3 bk a b W hc)) ?_; refine q62 ?_; apply qg; refine qk 0 32 ((inO l).map arD) rfl rfl rfl (by rw [length_map, w3]) zg (vx (enc := arD) (sz := 4) (l := inO l) (fun _ => rfl) rfl) ?_; refine zC ?_; exact ⟨[_], ⟨rfl, trivial⟩, rfl, zU2⟩
def y8 (res : List Ar → List Ar) (m : zr) : zr := if zn m = 0 then ⟨m.start, m.states.map fun s => ⟨s.fin, res s.arcs⟩⟩ else ⟨0, []⟩
theorem qn8 {l : List St} {x : St} (h : x ∈ l) : x.arcs.length ≤ xp l := by
 induction l with
 | nil => cases h
 | cons y l ih =>
  unfold xp at ih ⊢; rw [map_cons, List.sum_cons]
  rcases List.mem_cons.1 h with rfl | h
  ·omega
  have := ih h; omega
theorem jx1 (m : zr) (f : FuncId) (hIs : Is prog f fn code nn rs) (res : List Ar → List Ar)
  (hf : ∀ l : List Ar, l.length ≤ 400 → (∀ y ∈ l, okA y) → Fn2 prog 74 f [.d (zU l)] (fun v => v = .d (zU (res l)))) : Fn prog 35 [mV m, .fn f []] (fun v => qQ1 (zn m) (y8 res m) v) := by
 by_cases h0 : zn m = 0
 ·have hz := xj h0
  have hR : y8 res m = ⟨m.start, m.states.map fun s => ⟨s.fin, res s.arcs⟩⟩ := by unfold y8; rw [if_pos h0]
  rw [hR, h0]; refine qD m 0 rfl fun hb wm => ?_; obtain ⟨st, sts⟩ := m; simp only at hb wm hz; obtain ⟨n, hn⟩ : ∃ n, sts.length = n := ⟨_, rfl⟩; rw [hn] at hb; refine qc 41 fun w0 out => ?_; refine jc2 ?_; refine zC ?_; refine qa (Fn.eqi (we ⟨st, sts⟩) h0) ?_; refine qk6 ?_; refine jM5 ?_; refine q34 ?_; refine qq 7 1 901 2 35 rfl rfl rfl zT4 ?_; refine x8 ?_
  refine qb (fun s' => ∃ (k : Nat) (P : List St), k ≤ n ∧ P = (sts.take k).map (fun s => ⟨s.fin, res s.arcs⟩) ∧ P.length = k ∧ s' = ⟨41, [(1, .fn f []), (4, .ref 4 0), (7, .ref 7 0), (20, .d (zq sts)), (21, .i n), (22, .i k)], [(4, ⟨24, [.i 0, .nil], false, 0⟩), (7, ⟨24, [.i st, .own 901 2 k (decide (k = 0))], false, 0⟩), (901, ⟨35, P.flatMap xT, decide (k = 0), 2⟩)], []⟩) (fun s' => n - s'.nat 22) ⟨_, ?_, 0, [], by omega, rfl, rfl, rfl⟩ ?_
  ·exact q8
  rintro s' ⟨k, P, hk, hP, wy, rfl⟩
  have xA : (P.flatMap xT).length = k * 2 := by rw [vh (sz := 2) (fun _ => rfl), wy]
  by_cases zk : k < n
  ·obtain ⟨x, hx⟩ := zl hn zk
   have hxm := mem_of_getElem? hx; have hxl := qn8 hxm; have vl := x5 hx
   have hxo : ∀ y ∈ x.arcs, okA y := fun y hy => by
    have h := (hz.2.2.2 x hxm).2 y hy; simp only [xl, decide_eq_true_eq] at h; exact ⟨h.1, h.2.1, h.2.2.2.1, by omega⟩
   have xM := hf x.arcs zg hxo; clear hxo; refine xu ?_; refine jb5 ?_; refine zR ?_; refine qi [(0, true), (1, true), (2, true), (3, true), (4, true), (5, true), (6, true), (7, false), (8, false), (9, false), (10, false), (11, false), (12, false), (13, false)] (fun i => !([11, 12, 13] : List Nat).contains i) 14 zh zh rfl zh ?_; refine x8 ?_; refine qm ?_
   refine kt (post := ?pc92) (args := [_]) rfl rfl rfl rfl ?hc92 ⟨func74, rfl, rfl, rfl, rfl⟩ zm rfl rfl rfl rfl (show 33 < 41 from by decide) rfl rfl rfl ?_
   case hc92 => exact xM
   rintro _ rfl -; refine zQ ?_; refine qK rfl rfl rfl (xI (vs := [(0, _), (1, _)]) (zs := [.i 0, .nil]) qa2 xD rfl rfl rfl rfl) ?_; refine qI rfl rfl (zN (vs := [(0, _)]) (zs := [.i 0, .nil]) 36 underlying22 xD rfl rfl zj zj zj rfl rfl rfl rfl zT0 rfl rfl) ?_; refine qO ?_; refine qo rfl rfl rfl (xK underlying22 xD rfl zj rfl rfl rfl rfl rfl rfl zT5 zT0 rfl rfl rfl rfl rfl rfl rfl zj zg zg rfl) ?_
   refine g0 ?_; refine qH rfl rfl rfl rfl (xe underlying24 rfl rfl rfl qo6 zj rfl) ?_; refine jp2 ?_; refine qs5 ?_; refine ⟨_, ?_, ⟨k + 1, P ++ [⟨x.fin, res x.arcs⟩], by omega, by rw [vl, map_append, hP]; rfl, by simp [wy], rfl⟩, ?_⟩
   ·simp only [map_append, map_cons, map_nil, flatMap_append, flatMap_cons, flatMap_nil, append_nil]
    exact q8
   exact zM
  obtain rfl : k = n := by omega
  rw [take_of_length_le zg] at hP; refine W75 ?_; refine qs 7 1 32 (P.map stD) rfl rfl rfl zj rfl rfl (by rw [length_map, wy]) zg (vx (enc := stD) (sz := 2) (l := P) (fun _ => rfl) rfl) ?_; refine zY ?_; exact ⟨[_, _], zU7, .inr ⟨rfl, by rw [hP]; rfl⟩, zU0⟩
 obtain ⟨e, he⟩ : ∃ e, zn m = e := ⟨_, rfl⟩; rw [he]; rw [he] at h0; obtain ⟨⟨st, sts⟩, rfl⟩ : ∃ m', m' = m := ⟨m, rfl⟩; refine qc 41 fun w0 out => ?_; refine jc2 ?_; refine zC ?_; refine qa (Fn.eqi (we ⟨st, sts⟩) he) ?_; refine qC1 ?_; refine W14 ?_; exact ⟨[_, _], zU7, .inl ⟨h0, rfl⟩, zU0⟩
theorem jI8 (m : zr) (f : FuncId) (hIs : Is prog f fn code nn rs) (res : List Ar → List Ar)
  (hf : ∀ l : List Ar, l.length ≤ 400 → (∀ y ∈ l, okA y) → Fn2 prog 74 f [.d (zU l)] (fun v => v = .d (zU (res l)))) : Fn prog 35 [mV m, .fn f []] (fun v => v = .tup [mV (y8 res m), .i (zn m)]) :=
 (jx1 m f hIs res hf).wkS (qo9 fun h => by unfold y8; rw [if_neg h])
theorem qK8 (m : zr) : Fn prog 16 [mV m] (fun v => v = .tup [mV (y8 inO m), .i (zn m)]) := by
 have hw := jI8 m 36 ⟨func36, rfl, rfl, rfl, rfl⟩ inO fun l h _ => jf5 l h
 obtain ⟨M, hM⟩ : ∃ M, y8 inO m = M := ⟨_, rfl⟩; rw [hM] at hw ⊢; refine qc 8 fun w0 out => ?_; refine W96 ?_; refine qa hw ?_; refine qs4 ?_; exact ⟨[_, _], zU1, rfl, zU0⟩
section
variable {c : Cx} {s : S} {o : Oper}
theorem qF6 {t : TypeId} (ho : o.op = .unOp .not t x) (hx : s.ev x = some (.b true)) : RP c o s (.b false) := qk0 ho hx
theorem qq0 {t : TypeId} (ho : o.op = .unOp .not t x) (hx : s.ev x = some (.b false)) : RP c o s (.b true) := qk0 ho hx
end
theorem qn9 (a b : Ar) (x : Bool) (hx : ahd a b = x) : Fn prog 44 [.agg ((arD a).map V.d), .agg ((arD b).map V.d)] (fun v => v = .b x) := by
 subst hx; obtain ⟨ai, ao, aw, at'⟩ := a; obtain ⟨bi, bo, bw, bt⟩ := b; refine qc 40 fun w0 out => ?_
 by_cases h1 : ai = bi
 ·by_cases h2 : ao = bo
  ·by_cases h3 : at' = bt
   ·by_cases h4 : aw < bw
    ·skip
     refine g7 ?_
     iterate 41 refine Dv ?_
     exact ⟨[_], ⟨rfl, trivial⟩, by simp [zZ, ahd, h1, h2, h3, h4], zU2⟩
    skip; refine g7 ?_
    iterate 41 refine Dv ?_
    exact ⟨[_], ⟨rfl, trivial⟩, by simp [zZ, ahd, h1, h2, h3, h4], zU2⟩
   by_cases h4 : at' < bt
   ·skip
    refine g7 ?_
    iterate 40 refine Dv ?_
    exact ⟨[_], ⟨rfl, trivial⟩, by simp [zZ, ahd, h1, h2, h3, h4], zU2⟩
   skip; refine g7 ?_
   iterate 40 refine Dv ?_
   exact ⟨[_], ⟨rfl, trivial⟩, by simp [zZ, ahd, h1, h2, h3, h4], zU2⟩
  by_cases h4 : ao < bo
  ·skip
   refine g7 ?_; refine bL ?_; exact ⟨[_], ⟨rfl, trivial⟩, by simp [zZ, ahd, h1, h2, h4], zU2⟩
  skip; refine g7 ?_; refine bL ?_; exact ⟨[_], ⟨rfl, trivial⟩, by simp [zZ, ahd, h1, h2, h4], zU2⟩
 by_cases h4 : ai < bi
 ·skip
  refine g7 ?_
  iterate 20 refine Dv ?_
  exact ⟨[_], ⟨rfl, trivial⟩, by simp [zZ, ahd, h1, h4], zU2⟩
 skip; refine g7 ?_
 iterate 20 refine Dv ?_
 exact ⟨[_], ⟨rfl, trivial⟩, by simp [zZ, ahd, h1, h4], zU2⟩
theorem flA (h : l.length = n) : (l.flatMap vG).length = n * 4 := by rw [vh (sz := 4) (fun _ => rfl), h]
theorem jm0 (l : List Ar) (a : Ar) (hl : l.length ≤ 400) : Fn prog 91 [.d (zU l), .agg ((arD a).map V.d)] (fun v => v = .d (zU (plc a l))) := by
 obtain ⟨n, hn⟩ : ∃ n, l.length = n := ⟨_, rfl⟩; rw [hn] at hl; obtain ⟨P, hP⟩ : ∃ P, plc a l = P := ⟨_, rfl⟩; have wy : P.length = n + 1 := by rw [← hP, j60, hn]
 rw [hP]; refine qc 42 fun w0 out => ?_; refine qB8 ?_; refine xB ?_; refine qB 5 100 4 47 rfl zT4 ?_
 refine qn (fun s' => ∃ (dn : Bool) (A : List Ar) (ak : Nat), A.length = ak ∧ (dn = false ∧ A = l ∧ P = l ++ [a] ∨ dn = true ∧ A = P) ∧ s' = ⟨42, [(0, .d (zU l)), (3, .ref 3 0), (5, .own 100 4 ak (decide (ak = 0))), (6, .b dn)], [(3, ⟨47, (arD a).map V.d, false, 0⟩), (100, ⟨47, A.flatMap vG, decide (ak = 0), 4⟩)], []⟩) ?_ ?_
 ·apply qg
  refine zW ?_
  refine qb (fun s' => ∃ (i : Nat) (dn : Bool) (A : List Ar) (ak : Nat), i ≤ n ∧ A.length = ak ∧ (dn = false ∧ A = l.take i ∧ (∀ y ∈ l.take i, ¬ ahd a y = true) ∨ dn = true ∧ A = plc a (l.take i) ∧ ∃ y ∈ l.take i, ahd a y = true) ∧ s' = ⟨42, [(0, .d (zU l)), (3, .ref 3 0), (5, .own 100 4 ak (decide (ak = 0))), (6, .b dn), (7, .i i)], [(3, ⟨47, (arD a).map V.d, false, 0⟩), (100, ⟨47, A.flatMap vG, decide (ak = 0), 4⟩)], []⟩) (fun s' => n - s'.nat 7) ⟨_, ?_, 0, false, [], 0, by omega, rfl, .inl ⟨rfl, rfl, by simp⟩, rfl⟩ ?_
  ·exact q8
  rintro s' ⟨i, dn, A, ak, hi, hak, hA, rfl⟩
  by_cases zk : i < n
  ·obtain ⟨x, hx⟩ := zl hn zk
   have vl := x5 hx; have xA := flA hak
   have w5 : ak ≤ 401 := by
    rw [← hak]
    rcases hA with ⟨_, rfl, _⟩ | ⟨_, rfl, _⟩
    ·rw [length_take]; omega
    rw [j60, length_take]; omega
   rcases hA with ⟨rfl, hA, vO⟩ | ⟨rfl, hA, hy⟩
   ·by_cases hc : ahd a x = true
    ·have qg0 : (A.flatMap vG ++ vG a).length = (ak + 1) * 4 := by simp [xA]; omega
     have vY : A ++ [a] ++ [x] = plc a (l.take (i + 1)) := by
      rw [vl, qV0 vO, hA]; simp [plc, hc]
     have hex : ∃ y ∈ l.take (i + 1), ahd a y = true := ⟨x, by rw [vl]; simp, hc⟩; refine W60 ?_; refine W71 ?_; refine Dv ?_; refine qw rfl rfl rfl (fun _ _ h => h) (qq0 rfl rfl) ?_; refine zY ?_; refine qm ?_
     (refine qR (post := ?pc95) rfl rfl rfl (zS (args := [_, _]) ?hc95 ⟨func44, rfl, rfl, rfl, rfl⟩ rfl rfl rfl rfl) ?_; (case hc95 => (exact qn9 a x _ hc)); rintro _ rfl -; try dsimp only)
     refine W94 ?_; refine zW ?_; refine q9 rfl (zN (vs := [(0, _)]) (zs := [.i 0, .i 0, .i 0, .i 0]) 26 underlying33 zO rfl rfl zj zj zj rfl rfl rfl rfl zT0 rfl rfl) ?_; refine W0 ?_; refine xu ?_; refine q9 rfl (zN (vs := [(0, _)]) (zs := [.i 0, .i 0, .i 0, .i 0]) 33 underlying33 zO rfl rfl zj zj zj rfl rfl rfl rfl zT0 rfl rfl) ?_; refine W0 ?_; refine x8 ?_
     refine ⟨_, ?_, ⟨i + 1, true, A ++ [a] ++ [x], ak + 1 + 1, by omega, by simp [hak], .inr ⟨rfl, vY, hex⟩, rfl⟩, ?_⟩
     ·simp only [flatMap_append, flatMap_cons, flatMap_nil, append_nil]
      exact q8
     exact zM
    have hcf : ahd a x = false := by simpa using hc
    have vY : A ++ [x] = l.take (i + 1) := by rw [vl, hA]
    have xE : ∀ y ∈ l.take (i + 1), ¬ ahd a y = true := fun y hy => by
     rw [vl] at hy
     rcases List.mem_append.1 hy with hy | hy
     ·exact vO y hy
     simp only [mem_singleton] at hy; rw [hy]; exact hc
    refine W60 ?_; refine W71 ?_; refine Dv ?_; refine qw rfl rfl rfl (fun _ _ h => h) (qq0 rfl rfl) ?_; refine zY ?_; refine qm ?_
    (refine qR (post := ?pc96) rfl rfl rfl (zS (args := [_, _]) ?hc96 ⟨func44, rfl, rfl, rfl, rfl⟩ rfl rfl rfl rfl) ?_; (case hc96 => (exact qn9 a x _ hcf)); rintro _ rfl -; try dsimp only)
    refine W94 ?_; refine jL9 ?_; refine W0 ?_; refine x8 ?_; refine ⟨_, ?_, ⟨i + 1, false, A ++ [x], ak + 1, by omega, by simp [hak], .inl ⟨rfl, vY, xE⟩, rfl⟩, ?_⟩
    ·simp only [flatMap_append, flatMap_cons, flatMap_nil, append_nil]
     exact q8
    exact zM
   have vY : A ++ [x] = plc a (l.take (i + 1)) := by rw [vl, jk2 hy, hA]
   have hex : ∃ y ∈ l.take (i + 1), ahd a y = true := by
    obtain ⟨y, h1, h2⟩ := hy; exact ⟨y, by rw [vl]; simp [h1], h2⟩
   refine W60 ?_; refine W71 ?_; refine Dv ?_; refine qw rfl rfl rfl (fun _ _ h => h) (qF6 rfl rfl) ?_; refine zY ?_; refine qm ?_; refine jh rfl rfl rfl rfl rfl ?_; refine qK rfl rfl rfl (qb8 rfl rfl rfl) ?_; refine ja ?_
   try simp only [nd]
   refine jL9 ?_; refine W0 ?_; refine x8 ?_; refine ⟨_, ?_, ⟨i + 1, true, A ++ [x], ak + 1, by omega, by simp [hak], .inr ⟨rfl, vY, hex⟩, rfl⟩, ?_⟩
   ·simp only [flatMap_append, flatMap_cons, flatMap_nil, append_nil]
    exact q8
   exact zM
  rw [take_of_length_le zg] at hA
  have hA2 : dn = false ∧ A = l ∧ P = l ++ [a] ∨ dn = true ∧ A = P := by
   rcases hA with ⟨h1, h2, h3⟩ | ⟨h1, h2, _⟩
   ·have := qV0 (B := []) h3
    simp only [append_nil, plc] at this; exact .inl ⟨h1, h2, by rw [← hP, this]⟩
   exact .inr ⟨h1, h2.trans hP⟩
  refine xX ?_; refine ⟨_, ?_, dn, A, ak, hak, hA2, rfl⟩; exact q8
 rintro s' ⟨dn, A, ak, hak, hA, rfl⟩; have xA := flA hak
 rcases hA with ⟨rfl, rfl, he⟩ | ⟨rfl, rfl⟩
 ·obtain rfl : n = ak := by omega
  have hfr : A.flatMap vG ++ vG a = P.flatMap vG := by rw [he]; simp
  refine xd ?_; refine qe rfl rfl (qq0 rfl rfl) ?_; refine zC ?_; refine q9 rfl (zN (vs := [(0, _)]) (zs := [.i 0, .i 0, .i 0, .i 0]) 39 underlying33 zO rfl rfl zj zj zj rfl rfl rfl rfl zT0 rfl rfl) ?_; refine W0 ?_; refine W31 ?_; refine qk 5 32 (P.map arD) rfl rfl rfl (by rw [length_map, wy]) zg (vx (enc := arD) (sz := 4) (l := P) (fun _ => rfl) hfr) ?_; refine zC ?_
  exact ⟨[_], ⟨rfl, trivial⟩, rfl, zU2⟩
 obtain rfl : ak = n + 1 := by omega
 refine xd ?_; refine qe rfl rfl (qF6 rfl rfl) ?_; refine W81 ?_; refine qk 5 32 (A.map arD) rfl rfl rfl (by rw [length_map, wy]) zg (vx (enc := arD) (sz := 4) (l := A) (fun _ => rfl) rfl) ?_; refine zC ?_; exact ⟨[_], ⟨rfl, trivial⟩, rfl, zU2⟩
theorem qi4 (l : List Ar) (hl : l.length ≤ 400) : Fn prog 47 [.d (zU l)] (fun v => v = .d (zU (inO l))) := by
 obtain ⟨n, hn⟩ : ∃ n, l.length = n := ⟨_, rfl⟩; rw [hn] at hl; refine qc 18 fun w0 out => ?_; refine xu ?_; refine qb (fun s' => ∃ (i : Nat), i ≤ n ∧ s' = ⟨18, [(0, .d (zU l)), (3, .d (zU (inO (l.take i)))), (4, .i i)], [], []⟩) (fun s' => n - s'.nat 4) ⟨_, ?_, 0, by omega, rfl⟩ ?_
 ·exact q8
 rintro s' ⟨i, hi, rfl⟩
 by_cases zk : i < n
 ·obtain ⟨x, hx⟩ := zl hn zk
  have vl := ju9 hx; have vr : (inO (l.take i)).length ≤ 400 := by rw [gg, length_take]; omega
  have xM := jm0 (inO (l.take i)) x vr; rw [← vl] at xM; refine uy ?_; refine qa xM ?_; refine zQ ?_; refine x8 ?_; refine ⟨_, ?_, ⟨i + 1, by omega, rfl⟩, ?_⟩
  ·exact q8
  exact zM
 rw [take_of_length_le zg]; refine vF ?_; exact ⟨[_], ⟨rfl, trivial⟩, rfl, zU2⟩
def prA (sts : List St) (d : List Nat) : Nat → List Ar
 | 0 => []
 | k + 1 => if d.getD k big = big then prA sts d k else prA sts d k ++ stA sts k
theorem qX6 (h : d[k]? = some big) : prA sts d (k + 1) = prA sts d k := by rw [prA, List.getD_eq_getElem?_getD, h, Option.getD_some, if_pos rfl]
theorem qX7 {c : Nat} {x : St} (h : d[k]? = some c) (hc : c ≠ big) (hx : sts[k]? = some x) : prA sts d (k + 1) = prA sts d k ++ x.arcs := by rw [prA, List.getD_eq_getElem?_getD, h, Option.getD_some, if_neg hc, wo hx]
theorem qF7 (sts : List St) (d : List Nat) : ∀ k, (prA sts d k).length ≤ xp (sts.take k)
 | 0 => Nat.zero_le _
 | k + 1 => by
  have ih := qF7 sts d k
  cases hx : sts[k]? with
  | none =>
   have hle : sts.length ≤ k := by
    refine Classical.byContradiction fun h => ?_; rw [List.getElem?_eq_getElem zg] at hx
    cases hx
   have e : stA sts k = [] := by unfold stA; rw [getD_eq_getElem?_getD, hx]; rfl
   rw [prA, e, append_nil, take_of_length_le zg]; rw [take_of_length_le hle] at ih
   split <;> exact ih
  | some x =>
   rw [prA, wo hx, x5 hx, q81]
   split
   ·omega
   rw [length_append]; omega
theorem qK9 (h : l[0]? = some a) : prL l 1 = [a] := by
 rw [prL, h]; simp [prL]
theorem j73 (h : l[k]? = some a) (hb : l[k - 1]? = some b) (zT : a.i ≠ b.i ∨ a.o ≠ b.o) : prL l (k + 1) = prL l k ++ [a] := by
 rw [prL, h]; simp only; rw [if_pos (.inr ⟨b, hb, zT⟩)]
theorem j74 (h0 : k ≠ 0) (h : l[k]? = some a) (hb : l[k - 1]? = some b) (h1 : a.i = b.i) (h2 : a.o = b.o) : prL l (k + 1) = prL l k := by
 rw [prL, h]; simp only; rw [if_neg]; rintro (e | ⟨b', hb', zT⟩)
 ·exact h0 e
 rw [hb] at hb'
 cases hb'
 rcases zT with h | h
 ·exact h h1
 exact h h2
theorem qF8 (l : List Ar) : ∀ k, (prL l k).length ≤ k
 | 0 => le_refl _
 | k + 1 => by
  have := qF8 l k; rw [prL]
  split
  ·omega
  split
  ·rw [length_append]; simp only [length_cons, length_nil]; omega
  omega
def prS (sts : List St) (d : List Nat) : List Ar := prL (inO (prA sts d d.length)) (prA sts d d.length).length
theorem jx2 (st : Int) (sts : List St) (d : List Nat) (n : Nat) (xZ : n ≤ 60) (vw : xp sts ≤ 400) (hn : sts.length = n) (hd : d.length = n) : Fn prog 57 [mV ⟨st, sts⟩, .d (.sl 1 8 (d.map vp))] (fun v => v = .d (zU (prS sts d))) := by
 have gI := yz
 have w5 : ∀ k, k ≤ n → (prA sts d k).length ≤ 400 := fun k hk => by
  have h1 := qF7 sts d k
  have h2 : xp (sts.take k) ≤ xp sts := by
   conv => rhs; rw [← List.take_append_drop k sts]
   unfold xp; rw [map_append, List.sum_append]; omega
  omega
 refine qc 74 fun w0 out => ?_; refine W41 ?_; refine zC ?_; refine q63 ?_; refine qB 5 901 4 47 rfl zT4 ?_; refine zW ?_
 refine qb (fun s' => ∃ (q la : Nat), q ≤ n ∧ (prA sts d q).length = la ∧ s' = ⟨74, [(1, .d (.sl 1 8 (d.map vp))), (2, .ref 2 0), (5, .own 901 4 la (decide (la = 0))), (6, .i q)], [(2, ⟨24, [.i st, .d (zq sts)], false, 0⟩), (901, ⟨47, (prA sts d q).flatMap uB, decide (la = 0), 4⟩)], []⟩) (fun s' => n - s'.nat 6) ⟨_, ?_, 0, 0, by omega, rfl, rfl⟩ ?_
 ·exact q8
 rintro s' ⟨q, la, hq, xr, rfl⟩
 by_cases zk : q < n
 ·obtain ⟨x, hx⟩ := zl hn zk
  obtain ⟨c, hc⟩ := zl hd zk; have hql := w5 q hq
  have xA : ((prA sts d q).flatMap uB).length = la * 4 := by rw [vh (sz := 4) (fun _ => rfl), xr]
  have jT4 := w5 (q + 1) zk
  by_cases hcb : c = big
  ·subst hcb
   have hs := qX6 (sts := sts) hc; have hbi : ((big : Nat) : Int) = 1152921504606846976 := rfl
   iterate 25 refine Dv ?_
   refine ⟨_, ?_, ⟨q + 1, la, by omega, by rw [hs]; exact xr, rfl⟩, ?_⟩
   ·rw [hs]; exact q8
   exact zM
  have hs := qX7 hc hcb hx; have qu0 : (c : Int) ≠ 1152921504606846976 := by omega
  rw [hs, length_append] at jT4; obtain ⟨xf, xa⟩ := x; simp only at hs jT4
  by_cases hxa : xa = []
  ·subst hxa
   rw [append_nil] at hs
   iterate 27 refine Dv ?_
   refine qe rfl rfl (qc6 underlying33 zO rfl rfl rfl) ?_; refine x8 ?_; refine ⟨_, ?_, ⟨q + 1, la, by omega, by rw [hs]; exact xr, rfl⟩, ?_⟩
   ·rw [hs]; exact q8
   exact zM
  have hxl : 0 < xa.length := List.length_pos_iff.2 hxa; have zT : ¬ (la + xa.length = 0) := by omega
  have k79 : decide (la + xa.length = 0) = false := decide_eq_false zT
  iterate 27 refine Dv ?_
  refine qf rfl (qz7 (l := xa) underlying33 zO rfl rfl rfl rfl rfl rfl rfl (take_of_length_le (by show ((prA sts d q).flatMap uB).length ≤ la * 4; omega)) xA (qd9 _ _) rfl hxl zg zg rfl) ?_
  refine W30 ?_; refine ⟨_, ?_, ⟨q + 1, la + xa.length, by omega, by rw [hs, length_append, xr], rfl⟩, ?_⟩
  ·rw [hs, k79, flatMap_append]; exact q8
  exact zM
 obtain rfl : q = n := by omega
 obtain ⟨A, hA⟩ : ∃ A, prA sts d q = A := ⟨_, rfl⟩; have hR : prS sts d = prL (inO A) A.length := by unfold prS; rw [hd, hA]
 have hA4 := w5 q hq; rw [hR]; rw [hA] at xr hA4 ⊢; have hio := qi4 A hA4; have vr : (inO A).length = la := by rw [gg, xr]
 rw [xr] at hA4 ⊢; clear w5 hA hR; generalize inO A = L at hio vr ⊢; refine q61 ?_; refine qk 5 32 (A.map arD) rfl rfl rfl (by rw [length_map, xr]) zg (vx (enc := arD) (sz := 4) (l := A) (fun _ => rfl) rfl) ?_; refine zR ?_; refine qa hio ?_; refine zQ ?_; refine ve ?_; refine qB 7 902 4 47 rfl zT4 ?_
 refine qb (fun s' => ∃ (k lo : Nat), k ≤ la ∧ (prL L k).length = lo ∧ s' = ⟨74, [(5, .d (zU L)), (7, .own 902 4 lo (decide (lo = 0))), (8, .i k)], [(902, ⟨47, (prL L k).flatMap vG, decide (lo = 0), 4⟩)], []⟩) (fun s' => la - s'.nat 8) ⟨_, ?_, 0, 0, by omega, rfl, rfl⟩ ?_
 ·exact q8
 rintro s' ⟨k, lo, hk, hlo, rfl⟩
 have hfo : ((prL L k).flatMap vG).length = lo * 4 := by rw [vh (sz := 4) (fun _ => rfl), hlo]
 have hlk := qF8 L k; rw [hlo] at hlk
 by_cases qu8 : k < la
 ·obtain ⟨a, ha⟩ := zl vr qu8
  by_cases hk0 : k = 0
  ·subst hk0
   have hs := qK9 ha; have k80 : lo = 0 := by omega
   subst k80; have e0 : prL L 0 = [] := rfl; rw [e0] at hfo ⊢; refine xu ?_; refine W3 ?_; refine bL ?_; refine W44 ?_; refine q9 rfl (zN (vs := [(0, _)]) (zs := [.i 0, .i 0, .i 0, .i 0]) 71 underlying33 zO rfl rfl zj zj zj rfl rfl rfl rfl rfl rfl rfl) ?_; refine qf rfl (xK underlying33 zO rfl zj rfl rfl rfl rfl rfl rfl zT5 rfl rfl rfl rfl rfl rfl rfl rfl zj zg zg rfl) ?_; refine W30 ?_
   refine ⟨_, ?_, ⟨1, 1, by omega, by rw [hs]; rfl, rfl⟩, ?_⟩
   ·rw [hs]; exact q8
   exact zM
  obtain ⟨b, hb⟩ := zl vr (show k - 1 < la by omega)
  have vY := j73 ha hb; have uJ := j74 hk0 ha hb; obtain ⟨ai, ao, aw, at'⟩ := a; obtain ⟨bi, bo, bw, bt⟩ := b; simp only at vY uJ; have hk1 : (k : Int) ≠ 0 := by omega
  by_cases c1 : ai = bi
  ·by_cases c2 : ao = bo
   ·have hs := uJ c1 c2
    clear vY uJ; refine xu ?_; refine W3 ?_; refine xu ?_; refine qE rfl rfl rfl rfl (fun _ _ h => h) (x7 (k := k - 1) underlying33 zO rfl rfl rfl zg zm) ?_; refine xS ?_; refine qE rfl rfl rfl rfl (fun _ _ h => h) (x7 (k := k - 1) underlying33 zO rfl rfl rfl zg zm) ?_; refine zW ?_; refine W44 ?_; refine ⟨_, ?_, ⟨k + 1, lo, by omega, by rw [hs]; exact hlo, rfl⟩, ?_⟩
    ·rw [hs]; exact q8
    exact zM
   have hs := vY (.inr c2); clear vY uJ; refine xu ?_; refine W3 ?_; refine xu ?_; refine qE rfl rfl rfl rfl (fun _ _ h => h) (x7 (k := k - 1) underlying33 zO rfl rfl rfl zg zm) ?_; refine xS ?_; refine qE rfl rfl rfl rfl (fun _ _ h => h) (x7 (k := k - 1) underlying33 zO rfl rfl rfl zg zm) ?_; refine zW ?_; refine jO0 ?_; refine W0 ?_; refine x8 ?_
   refine ⟨_, ?_, ⟨k + 1, lo + 1, by omega, by rw [hs, length_append, hlo]; rfl, rfl⟩, ?_⟩
   ·rw [hs]; simp only [flatMap_append, flatMap_cons, flatMap_nil, append_nil]; exact q8
   exact zM
  have hs := vY (.inl c1); clear vY uJ; refine xu ?_; refine W3 ?_; refine xu ?_; refine qE rfl rfl rfl rfl (fun _ _ h => h) (x7 (k := k - 1) underlying33 zO rfl rfl rfl zg zm) ?_; refine yB ?_; refine jO0 ?_; refine W0 ?_; refine x8 ?_; refine ⟨_, ?_, ⟨k + 1, lo + 1, by omega, by rw [hs, length_append, hlo]; rfl, rfl⟩, ?_⟩
  ·rw [hs]; simp only [flatMap_append, flatMap_cons, flatMap_nil, append_nil]; exact q8
  exact zM
 obtain rfl : k = la := by omega
 refine q61 ?_; refine qk 7 32 ((prL L k).map arD) rfl rfl rfl (by rw [length_map, hlo]) zg (vx (enc := arD) (sz := 4) (l := prL L k) (fun _ => rfl) rfl) ?_; refine zC ?_; exact ⟨[_], ⟨rfl, trivial⟩, rfl, zU0⟩
end Go.Proofs.YthiknkcigcglkaaGreatDoor
