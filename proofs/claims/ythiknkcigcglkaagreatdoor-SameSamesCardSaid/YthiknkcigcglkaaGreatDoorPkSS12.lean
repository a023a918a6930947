/- Part 12 of what the law SameSames rests on. -/
import Derived.Test.YthiknkcigcglkaaGreatDoorPkSS9
namespace Go.Proofs.YthiknkcigcglkaaGreatDoor
open Go.RowKit
open Go.Proofs.Tryz
open List (mem_of_getElem?)
open Nat (le_trans)
set_option linter.unusedSimpArgs false
set_option linter.unusedVariables false
set_option maxRecDepth 100000
set_option maxHeartbeats 8000000
def stF (sts : List St) (q : Nat) : Nat := (sts.getD q ⟨0, []⟩).fin.toNat
theorem qc5 {sts : List St} {q : Nat} {x : St} (h : sts[q]? = some x) : stF sts q = x.fin.toNat := by simp [stF, List.getD_eq_getElem?_getD, h]
theorem jE9 {m : zr} {q d : Nat} : vz (enF m) q d ↔ q < m.states.length ∧ stF m.states q = d ∧ d ≠ 1000000001 := by
 constructor
 ·rintro ⟨h1, h2⟩
  obtain ⟨hq, rfl⟩ := yx h1; exact ⟨hq, rfl, h2⟩
 rintro ⟨h1, h2, h3⟩; exact ⟨by rw [enF, w8 h1, ← h2]; rfl, h3⟩
theorem jF0 (m : zr) (h0 : zn m = 0) : Fn prog 89 [mV m] (fun v => v = .d (yl (enD m))) := by
 have gI := yz; obtain ⟨xZ, vw, xR, hz⟩ := xj h0
 have hed : ∀ {p q w}, vn (enE m) p q w ↔ _ := fun {p q w} => j47 (m := m) (fun s hs a ha => by have := (hz s hs).2 a ha; simp only [xl, decide_eq_true_eq] at this; omega)
 have ql5 := @jE9 m; obtain ⟨st, sts⟩ := m; simp only at xZ vw xR hz hed ql5
 have ui : ∀ x ∈ sts, x.arcs.length ≤ 400 := fun x hx => le_trans (yq sts x hx) vw
 have hDD : enD ⟨st, sts⟩ = ws (vz (enF ⟨st, sts⟩)) (vn (enE ⟨st, sts⟩)) sts.length := rfl; obtain ⟨D, hD⟩ : ∃ D, enD ⟨st, sts⟩ = D := ⟨_, rfl⟩; rw [hD] at hDD ⊢; obtain ⟨I, hI⟩ : ∃ I, vz (enF ⟨st, sts⟩) = I := ⟨_, rfl⟩; obtain ⟨G, hG⟩ : ∃ G, vn (enE ⟨st, sts⟩) = G := ⟨_, rfl⟩; rw [hI] at ql5 hDD; rw [hG] at hed hDD; obtain ⟨n, hn⟩ : ∃ n, sts.length = n := ⟨_, rfl⟩; rw [hn] at xZ xR hz hDD ql5
 have w3 : ∀ p q w, G p q w → p < n ∧ q < n := by
  intro p q w h; obtain ⟨x, j, a, h1, h2, h3, h4⟩ := hed.1 h; have h5 := (hz x (mem_of_getElem? h1)).2 a (mem_of_getElem? h2); simp only [xl, decide_eq_true_eq] at h5; exact ⟨by omega, by rw [← hn]; exact (List.getElem?_eq_some_iff.1 h1).1⟩
 have ur : ∀ q, q < n → stF sts q ≤ 1000000001 := by
  intro q hq; have hx : sts[q]? = some sts[q] := List.getElem?_eq_getElem zg; have h1 := (hz _ (List.getElem_mem (by omega : q < sts.length))).1; rw [qc5 hx]; simp [vy] at h1; omega
 refine qc 102 fun w0 out => ?_; refine W7 ?_; refine ve ?_; refine q9 rfl (vg 14 V.i (0) underlying42 zz rfl rfl rfl rfl rfl zg zj rfl rfl) ?_; refine x8 ?_
 refine qb (fun s' => ∃ k : Nat, k ≤ n ∧ s' = ⟨102, [(1, .ref 1 0), (3, .i n), (4, .own 14 1 n false), (5, .i k)], [(1, ⟨24, [.i st, .d (zq sts)], false, 0⟩), (14, ⟨3, (bl (fun q => if q < k then iC (stF sts q) else 0) n).map V.n, false, 1⟩)], []⟩) (fun s' => n - s'.nat 5) ⟨_, ?_, 0, by omega, rfl⟩ ?_
 ·have hz0 : (List.replicate n (0 : Int)).map V.i = (bl (fun q => if q < 0 then iC (stF sts q) else 0) n).map V.n := by rw [show (bl (fun q => if q < 0 then iC (stF sts q) else 0) n) = List.replicate n 0 by rw [ql3]; exact wh fun q _ => by simp]; simp
  rw [hz0]; exact q8
 rintro s' ⟨k, hk, rfl⟩
 by_cases zk : k < n
 ·obtain ⟨x, hx⟩ := zl hn zk
  have hxf := (hz x (mem_of_getElem? hx)).1; have hkf := qc5 hx; obtain ⟨xf, xa⟩ := x; simp only [vy, decide_eq_true_eq] at hxf; obtain ⟨f, rfl⟩ : ∃ f : Nat, xf = f := ⟨xf.toNat, by omega⟩; simp only [Int.toNat_natCast] at hkf
  have hkL : k < (bl (fun q => if q < k then iC (stF sts q) else 0) n).length := by rw [w4]; exact zk
  have kb4 : k < ((bl (fun q => if q < k then iC (stF sts q) else 0) n).set k big).length := by rw [List.length_set, w4]; exact zk
  have wO : ∀ v : Nat, v = iC f → (bl (fun q => if q < k then iC (stF sts q) else 0) n).set k v = (bl (fun q => if q < (k + 1) then iC (stF sts q) else 0) n) := fun v hv => bf zk (by rw [if_pos zg, hkf, hv]) fun q _ hq => by
   grind
  by_cases hi : f = 1000000001
  ·have hn1 := wO big (by simp [iC, hi])
   have jX6 : (f : Int) = 1000000001 := by omega
   refine vF ?_; refine qf rfl (zX (v := big) zz rfl rfl rfl rfl rfl rfl rfl rfl zT9) ?_; refine uy ?_; refine ⟨_, ?_, ⟨k + 1, by omega, rfl⟩, ?_⟩
   ·rw [← hn1]; exact q8
   exact zM
  have hn1 : ((bl (fun q => if q < k then iC (stF sts q) else 0) n).set k big).set k f = (bl (fun q => if q < (k + 1) then iC (stF sts q) else 0) n) := by rw [List.set_set]; exact wO f (by simp [iC, hi])
  have jX6 : ¬ (f : Int) = 1000000001 := by omega
  refine vF ?_; refine qf rfl (zX (v := big) zz rfl rfl rfl rfl rfl rfl rfl rfl zT9) ?_
  iterate 21 refine Dv ?_
  refine qf rfl (zX (v := f) zz rfl rfl rfl rfl rfl rfl rfl rfl zT9) ?_; refine zY ?_; refine ⟨_, ?_, ⟨k + 1, by omega, rfl⟩, ?_⟩
  ·rw [← hn1]; exact q8
  exact zM
 obtain rfl : k = n := by omega
 obtain ⟨n, rfl⟩ : ∃ n, n = k := ⟨_, rfl⟩
 have hL : Snd I G n (bl (fun q => if q < n then iC (stF sts q) else 0) n) := by
  refine ⟨w4 _ _, fun q y h => ?_, fun q y h hb => ?_, fun q y d h hi => ?_⟩
  all_goals
   obtain ⟨hq, rfl⟩ := yx h; have hf1 := ur q hq
  ·grind [iC]
  ·try simp only at hb ⊢
   rw [if_pos hq] at hb ⊢; unfold iC at hb ⊢
   split
   ·rename_i e; rw [if_pos e] at hb; omega
   rename_i e; exact .init q _ (ql5.2 ⟨hq, rfl, e⟩)
  grind [iC]
 obtain ⟨L, hLd⟩ : ∃ L, (bl (fun q => if q < n then iC (stF sts q) else 0) n) = L := ⟨_, rfl⟩
 rw [hLd] at hL ⊢; refine xS ?_; refine qb (fun s' => ∃ (k : Nat) (L : List Nat), k ≤ n ∧ Snd I G n L ∧ (k ≤ ql4 I G L n ∨ Lst I G n L) ∧ s' = ⟨102, [(1, .ref 1 0), (3, .i n), (4, .own 14 1 n false), (6, .i k)], [(1, ⟨24, [.i st, .d (zq sts)], false, 0⟩), (14, ⟨3, L.map V.n, false, 1⟩)], []⟩) (fun s' => n - s'.nat 6) ⟨_, ?_, 0, L, by omega, hL, .inl zg, rfl⟩ ?_
 ·exact q8
 rintro s' ⟨k, L0, hk, hL0, hc, rfl⟩
 by_cases zk : k < n
 ·skip
  refine vF ?_; refine qb (fun s' => ∃ (q : Nat) (L : List Nat), q ≤ n ∧ Rd I G n k L0 (fun _ p _ => p < q) L ∧ s' = ⟨102, [(1, .ref 1 0), (3, .i n), (4, .own 14 1 n false), (6, .i k), (7, .i q)], [(1, ⟨24, [.i st, .d (zq sts)], false, 0⟩), (14, ⟨3, L.map V.n, false, 1⟩)], []⟩) (fun s' => n - s'.nat 7) ⟨_, ?_, 0, L0, by omega, (Rd.begin hL0 hc).skip (fun q p w x y h => absurd h zg), rfl⟩ ?_
  ·exact q8
  rintro s' ⟨q, L, hq, hR, rfl⟩
  by_cases hlq : q < n
  ·obtain ⟨x, hx⟩ := zl hn hlq
   obtain ⟨la, xr⟩ : ∃ n, x.arcs.length = n := ⟨_, rfl⟩; have yO := ui x (mem_of_getElem? hx); rw [xr] at yO; have edge_q : ∀ {p w : Nat}, G p q w → ∃ (j : Nat) (a : Ar), x.arcs[j]? = some a ∧ a.t = (p : Int) ∧ a.w = (w : Int) := by grind
   refine vF ?_
   refine qb (fun s' => ∃ (i : Nat) (L : List Nat), i ≤ la ∧ Rd I G n k L0 (fun p q' w => q' < q ∨ q' = q ∧ ∃ (j : Nat) (a : Ar), j < i ∧ x.arcs[j]? = some a ∧ a.t = (p : Int) ∧ a.w = (w : Int)) L ∧ s' = ⟨102, [(1, .ref 1 0), (3, .i n), (4, .own 14 1 n false), (6, .i k), (7, .i q), (8, .i i)], [(1, ⟨24, [.i st, .d (zq sts)], false, 0⟩), (14, ⟨3, L.map V.n, false, 1⟩)], []⟩) (fun s' => la - s'.nat 8) ⟨_, ?_, 0, L, by omega, hR.skip (fun q' p w a b h => ?_), rfl⟩ ?_
   ·exact q8
   ·grind
   rintro s' ⟨i, L, hi, hR, rfl⟩; obtain ⟨c, hcp⟩ := zl hR.snd.len hlq; have hcb := hR.snd.le q c hcp; have hpL : q < L.length := by rw [hR.snd.len]; exact hlq
   by_cases vr : i < la
   ·obtain ⟨y, hy⟩ := zl xr vr
    have hyt := (hz x (mem_of_getElem? hx)).2 y (mem_of_getElem? hy); obtain ⟨yi, yo, yw, yt⟩ := y; simp only [xl, decide_eq_true_eq] at hyt; obtain ⟨p, rfl⟩ : ∃ p : Nat, yt = p := ⟨yt.toNat, by omega⟩; obtain ⟨w, rfl⟩ : ∃ w : Nat, yw = w := ⟨yw.toNat, by omega⟩; have wa : p < n := by omega
    obtain ⟨d, hd⟩ := zl hR.snd.len wa; have hdb := hR.snd.le p d hd; have hG1 : G p q w := hed.2 ⟨x, i, _, hx, hy, rfl, rfl⟩
    have wb : (∀ x0 y0 : Nat, L0[p]? = some x0 → L[q]? = some y0 → y0 ≤ x0 + w) → Rd I G n k L0 (fun p q' w => q' < q ∨ q' = q ∧ ∃ (j : Nat) (a : Ar), j < i + 1 ∧ x.arcs[j]? = some a ∧ a.t = (p : Int) ∧ a.w = (w : Int)) L := fun hle => hR.skip fun p' q' w' x0 y0 h => by
     grind
    by_cases ka3 : d = big
    ·have hR' := wb fun x0 y0 h1 h2 => by
      have := hR.low p d x0 hd h1; have := hR.snd.le q y0 h2; omega
     refine jp7 ?_; refine W31 ?_; refine W40 ?_; refine W44 ?_; refine ⟨_, ?_, ⟨i + 1, L, by omega, hR', rfl⟩, ?_⟩
     ·exact q8
     exact zM
    by_cases jC1 : d + w < c
    ·have hR' := hR.set hG1 hd zg (fun y0 h => by rw [hcp] at h; simp only [Option.some.injEq] at h; omega) hlq (D' := fun p q' w => q' < q ∨ q' = q ∧ ∃ (j : Nat) (a : Ar), j < i + 1 ∧ x.arcs[j]? = some a ∧ a.t = (p : Int) ∧ a.w = (w : Int)) (fun p' q' w' h => by
      rcases h with h | ⟨h1, j, a, h2, h3, h4, h5⟩
      ·exact .inl (.inl h)
      by_cases e : j = i
      ·grind
      exact .inl (.inr ⟨h1, j, a, by omega, h3, h4, h5⟩))
     refine jp7 ?_; refine W31 ?_; refine W40 ?_; refine W16 ?_; refine Dv ?_; refine qi [(0, true), (1, true), (2, true), (3, true), (4, true), (5, true), (6, true), (7, true), (8, true), (9, true), (10, true), (11, false)] (fun i => !([11] : List Nat).contains i) 12 zh zh rfl zh ?_; refine xu ?_; refine W85 ?_; refine qo rfl rfl rfl (zX (v := d + w) zz rfl rfl rfl rfl rfl rfl rfl rfl zT9) ?_
     refine qf1 ?_; refine ⟨_, ?_, ⟨i + 1, L.set q (d + w), by omega, hR', rfl⟩, ?_⟩
     ·exact q8
     exact zM
    have hR' := wb fun x0 y0 h1 h2 => by
     rw [hcp] at h2; simp only [Option.some.injEq] at h2; have := hR.low p d x0 hd h1; omega
    refine jp7 ?_; refine W31 ?_; refine W40 ?_; refine W44 ?_; refine ⟨_, ?_, ⟨i + 1, L, by omega, hR', rfl⟩, ?_⟩
    ·exact q8
    exact zM
   have hR' : Rd I G n k L0 (fun _ p _ => p < q + 1) L := ⟨hR.snd, hR.snd0, hR.low, hR.cnt, fun p' q' w' x0 y0 h hg h1 h2 => by
    by_cases e : q' = q
    ·subst e
     obtain ⟨j, a, h3, h4, h5⟩ := edge_q hg; exact hR.seen p' q' w' x0 y0 (.inr ⟨rfl, j, a, by have := (List.getElem?_eq_some_iff.1 h3).1; omega, h3, h4, h5⟩) hg h1 h2
    exact hR.seen p' q' w' x0 y0 (.inl zg) hg h1 h2⟩
   refine gi ?_; refine ⟨_, ?_, ⟨q + 1, L, by omega, hR', rfl⟩, ?_⟩
   ·exact q8
   exact zM
  obtain ⟨hs, hc'⟩ := hR.finish w3 (fun q d h => (ql5.1 h).1) (fun p q' w h => by have := (w3 p q' w h).2; omega)
  refine xS ?_; refine ⟨_, ?_, ⟨k + 1, L, by omega, hs, hc', rfl⟩, ?_⟩
  ·exact q8
  exact zM
 have hLD := Rd.all hL0 hc zg; rw [← hDD] at hLD; have wB := hL0.len; subst hLD; refine qP9 ?_; refine qk 4 8 (L0.map vp) rfl rfl rfl (by simp [wB]) zg (yk rfl) ?_; refine zC ?_; exact ⟨[_], ⟨rfl, trivial⟩, rfl, zU2⟩
theorem qr0 (m : zr) : Fn prog 46 [mV m] (qS6 (wL (enD m) m) (wM (enD m) m)) := by
 by_cases h0 : zn m = 0
 ·have jt6 := fun v => j48 (D := enD m) (v := v) h0
  have y4 := jF0 m h0; obtain ⟨xZ, _⟩ := xj h0; have zI : (enD m).length = m.states.length := by simp [enD, ws]
  have qT5 := (jt1 (enD m) m.states.length zI xZ).mono (fun v => jt6 v)
  obtain ⟨st, sts⟩ := m; obtain ⟨D, hD⟩ : ∃ D, enD ⟨st, sts⟩ = D := ⟨_, rfl⟩; rw [hD] at y4 qT5 ⊢
  by_cases he : wL D ⟨st, sts⟩ = 0
  ·have vN := qD0 qT5 he
   refine qc 22 fun w0 out => ?_; refine qs6 ?_; refine qa (Fn.eqi (wz ⟨st, sts⟩) h0) ?_; refine qk6 ?_; refine qa y4 ?_; refine W25 ?_; refine qa vN ?_; refine W93 ?_; exact ⟨[_, _], zU4, .inr ⟨he, rfl⟩, zU0⟩
  have vN := qp4 qT5 he; refine qc 22 fun w0 out => ?_; refine qs6 ?_; refine qa (Fn.eqi (wz ⟨st, sts⟩) h0) ?_; refine qk6 ?_; refine qa y4 ?_; refine W25 ?_; refine qa vN ?_; refine W93 ?_; exact ⟨[_, _], zU4, .inl ⟨he, rfl⟩, zU0⟩
 have hE : wL (enD m) m = zn m := by unfold wL; rw [if_pos h0]
 have hL : wM (enD m) m = [] := by unfold wM; rw [if_neg (by rw [hE]; exact h0)]
 rw [hE, hL]; obtain ⟨st, sts⟩ := m; obtain ⟨e, he⟩ : ∃ e, zn ⟨st, sts⟩ = e := ⟨_, rfl⟩; rw [he] at h0 ⊢; refine qc 22 fun w0 out => ?_; refine qs6 ?_; refine qa (Fn.eqi (wz ⟨st, sts⟩) he) ?_; refine zQ ?_; refine vF ?_; exact ⟨[_, _], zU4, .inl ⟨h0, rfl⟩, zU0⟩
end Go.Proofs.YthiknkcigcglkaaGreatDoor
