/- Part 18 of what the law SameSames rests on. -/
import Derived.Test.YthiknkcigcglkaaGreatDoorPkSS16
import Derived.Test.YthiknkcigcglkaaGreatDoorPkSS17
namespace Go.Proofs.YthiknkcigcglkaaGreatDoor
open Go.RowKit
open Go.Proofs.Tryz
open List (cons_append drop_succ_cons drop_zero flatMap_append flatMap_cons length_append length_cons length_nil length_take map_cons map_nil map_set mem_cons mem_cons_of_mem mem_cons_self mem_of_getElem? mem_singleton nil_append not_mem_nil take_of_length_le zipIdx_cons zip_cons_cons zip_nil_left)
open Nat (le_refl le_trans reduceAdd zero_add)
set_option linter.unusedSimpArgs false
set_option linter.unusedVariables false
set_option maxRecDepth 100000
set_option maxHeartbeats 8000000
variable {x y : Operand} {N bt i k n r : Nat} {H H0 : List (Nat × Row)} {l : List Ar} {m : zr}
abbrev P2 : Type := Int × Int
abbrev uO (p : P2) : Value := .agg #[.int .i64 p.1, .int .i64 p.2]
theorem jk7 : List.range' 0 2 = [0, 1] := rfl
theorem k66 (n : Nat) (a1 a2 b1 b2 : Int) (w : World) : (Op.equalIn (n + 2) 62 (.agg #[.int .i64 a1, .int .i64 a2]) (.agg #[.int .i64 b1, .int .i64 b2])).run prog w = .ok (decide (a1 = b1) && decide (a2 = b2)) w := by
 have hi : ∀ (x y : Int) (w : World), (Op.equalIn (n + 1) 3 (.int .i64 x) (.int .i64 y)).run prog w = .ok (x == y) w := fun x y w => by simp [go_sem]
 unfold Op.equalIn; simp only [Sem.run_bind, run_underlying underlying62, Result.andThen_ok]
 by_cases h1 : a1 = b1 <;> by_cases h2 : a2 = b2 <;> simp [jk7, go_sem, hi, h1, h2]
theorem jR3 (a1 a2 b1 b2 : Int) (w : World) : (Op.equalIn 10000 62 (.agg #[.int .i64 a1, .int .i64 a2]) (.agg #[.int .i64 b1, .int .i64 b2])).run prog w = .ok (decide (a1 = b1) && decide (a2 = b2)) w := k66 9998 a1 a2 b1 b2 w
theorem eqP (a b : P2) (w : World) : (Op.equal 62 (uO a) (uO b)).run prog w = .ok (decide (a = b)) w := by
 obtain ⟨a1, a2⟩ := a; obtain ⟨b1, b2⟩ := b; refine (jR3 a1 a2 b1 b2 w).trans ?_
 congr 1
 rw [Bool.eq_iff_iff]; simp
theorem jR4 (b : Bool) (a : P2) (w : World) : (Instr.checkKey b 10000 62 (uO a)).run prog w = .ok () w := by
 have : ∀ n : Nat, (Instr.checkKey b (n + 2) 62 (uO a)).run prog w = .ok () w := fun n => by
  have hi : ∀ (x : Int) (w : World), (Instr.checkKey b (n + 1) 3 (.int .i64 x)).run prog w = .ok () w := fun x w => by simp [Instr.checkKey, go_sem]
  unfold Instr.checkKey; simp only [Sem.run_bind, run_underlying underlying62, Result.andThen_ok]; simp [jk7, uO, go_sem, hi]
 exact this 9998
theorem jR5 (a : P2) (w : World) : ∀ (l : List (P2 × Int)) (i j : Nat), (Instr.findAsking 62 (uO a) (((zu uO l).zipIdx j).map fun x => ({ key := x.1.1, val := x.1.2, born := x.2 } : MapEntry)) i).run prog w = .ok ((xQ l a i).map fun x => (x.1, .int .i64 x.2)) w
 | [], i, j => by simp [Instr.findAsking, zu, xQ]
 | (k, v) :: l, i, j => by
  have ih := jR5 a w l (i + 1) (j + 1); simp only [zu, map_cons, zipIdx_cons, Instr.findAsking, Sem.run_bind, eqP, Result.andThen_ok, xQ] at ih ⊢
  by_cases e : a = k
  ·subst e; simp
  grind
theorem qE6 : KeyOk prog 62 uO := by
 refine ⟨jR4, fun l a w => ?_, fun a => ?_⟩
 ·have qV7 : ∀ (l : List (P2 × Int)) (j : Nat), l ≠ [] → ∀ n e, Instr.findNow (.array n e) (uO a) (((zu uO l).zipIdx j).map fun x => ({ key := x.1.1, val := x.1.2, born := x.2 } : MapEntry)) 0 = none := by
   intro l j hl n e
   cases l with
   | nil => exact absurd rfl hl
   | cons x l => simp [zu, zipIdx_cons, Instr.findNow, Instr.sameNow]
  simp only [Instr.findKey, Sem.run_bind, run_underlying underlying62, Result.andThen_ok, zB, List.toList_toArray]
  by_cases hl : l = []
  ·subst hl; simp [zu, Instr.findNow, xQ]
  rw [qV7 l 0 hl]; exact jR5 a w l 0 0
 have : ∀ n : Nat, Instr.sameBits (n + 2) (uO a) (uO a) = true := fun n => by simp [Instr.sameBits]
 exact this 9998
theorem qz3 {w : World} {q : Nat → Prop} {g : Nat → Nat × Nat} {a b : Int} {v : Value} (h : VRep w q g (.agg [.i a, .i b]) v) : v = uO (a, b) := by
 cases h with
 | agg _ cs hl h =>
  match cs, hl with
  | [x, y], _ =>
   rw [VRep.p_eq (h 0 _ _ rfl rfl), VRep.p_eq (h 1 _ _ rfl rfl)]
theorem j26 {c : Cx} {s : S} {o : Oper} {t' : TypeId} {a1 a2 b1 b2 : Int} {r : Bool} (hP : c.P = prog) (ho : o.op = .binOp .neq 62 x y t') (hx : s.ev x = some (.agg [.i a1, .i a2])) (hy : s.ev y = some (.agg [.i b1, .i b2])) (h : (!(decide (a1 = b1) && decide (a2 = b2))) = r) : RP c o s (.b r) := by
 subst h; refine qe6 [.int .i64 a1, .int .i64 a2] [.int .i64 b1, .int .i64 b2] ho hx hy (fun w => ?_) (fun w => ?_)
 ·rw [hP]; simp [go_sem]
 rw [hP]; have h2 : (Op.equal 62 (.agg #[.int .i64 a1, .int .i64 a2]) (.agg #[.int .i64 b1, .int .i64 b2])).run prog w = _ := jR3 a1 a2 b1 b2 w; simp only [binOp, Sem.run_bind, h2, Result.andThen_ok]; rfl
theorem jv7 (r : Nat) (l : List (Value × Value)) (a b : Value) : upM r l (.agg [.d (.p a), .d (.p b)]) = .agg [.d (.p a), .d (.p b)] := rfl
section
variable {c : Cx} {s : S} {o : Oper} {K : Type} [DecidableEq K] {enc : K → Value}
theorem qz4 {t k e : TypeId} {l : List (K × Int)} {key : K} {v : Int} (hk : KeyOk c.P k enc) (hu : c.P.underlying t = some (.map k e)) (hi : Inf c.P e 1 bt (.int .i64 0)) (ho : o.op = .lookup t x y false) (hx : s.ev x = some (.mp r N (zu enc l)) ∨ s.ev x = some (.d (.mp (zu enc l)))) (hy : ∀ g a w, Sim c g s a w → a.eval y = enc key)
  (hv : (zK l key).getD 0 = v) : RD c o s (.i v) := qm5 (ok := false) hk hu hi ho hx hy (by rw [hv]; rfl)
end
theorem jv8 (a b : Ar) : Fn prog 32 [.agg ((arD a).map V.d), .agg ((arD b).map V.d)] (fun v => v = .i (je0 a b)) := by
 obtain ⟨ai, ao, aw, at'⟩ := a; obtain ⟨bi, bo, bw, bt⟩ := b; refine qc 27 fun w0 out => ?_; refine g7 ?_; refine W31 ?_
 refine qi [(0, true), (1, true), (2, true), (3, true), (5, true), (6, true), (7, true), (8, true), (10, true), (11, true), (12, true), (13, true), (15, true), (16, true), (17, true), (18, true), (4, false), (9, false), (14, false), (19, false), (20, false), (21, false), (22, false)] (fun i => !([] : List Nat).contains i) 23 zh zh rfl zh ?_; refine yW ?_; refine qm ?_
 refine qJ (post := ?pc102) rfl rfl (zS (args := [_, _]) ?hc102 ⟨func70, rfl, rfl, rfl, rfl⟩ rfl rfl rfl rfl) ?_
 case hc102 => exact qx8 ai bi
 rintro _ rfl -; refine zQ ?_; refine qJ (post := ?pc103) rfl rfl (zS (args := [_, _]) ?hc103 ⟨func70, rfl, rfl, rfl, rfl⟩ rfl rfl rfl rfl) ?_
 case hc103 => exact qx8 ao bo
 rintro _ rfl -; refine zQ ?_; refine qJ (post := ?pc104) rfl rfl (zS (args := [_, _]) ?hc104 ⟨func70, rfl, rfl, rfl, rfl⟩ rfl rfl rfl rfl) ?_
 case hc104 => exact qx8 at' bt
 rintro _ rfl -; refine zQ ?_; refine qJ (post := ?pc105) rfl rfl (zS (args := [_, _]) ?hc105 ⟨func70, rfl, rfl, rfl, rfl⟩ rfl rfl rfl rfl) ?_
 case hc105 => exact qx8 aw bw
 rintro _ rfl -; refine zQ ?_; refine qI rfl rfl (zN (vs := [(0, _), (1, _), (2, _), (3, _)]) (zs := [.i 0, .i 0, .i 0, .i 0]) 25 underlying42 zz rfl rfl zj zj zj rfl rfl rfl rfl rfl rfl rfl) ?_; refine qJ (post := ?pc106) rfl rfl (gB (args := ?ac106) (us := [_]) ?hc106 ?qc106 ⟨func69, rfl, rfl, rfl, rfl⟩ rfl rfl rfl ?rc106 rfl) ?_
 case hc106 => exact jX7 [yX ai bi, yX ao bo, yX at' bt, yX aw bw]
 case qc106 => (intro v hv; first | (subst hv; first | trivial | (simp [V.plain]; done)) | (obtain ⟨_, rfl, _⟩ := hv; first | trivial | (simp [V.plain]; done)))
 case rc106 => exact .cons (.own 25 1 4 8 false _ ([yX ai bi, yX ao bo, yX at' bt, yX aw bw].map fun x => [D.p (.int .i64 x)]) rfl rfl rfl zj (yk (f := fun x => D.p (.int .i64 x)) (by simp [xg, V.cs]))) .nil
 rintro _ rfl -; refine zQ ?_; refine jc6 ?_; apply qM; exact ⟨[_], ⟨rfl, trivial⟩, rfl, zU2⟩
theorem jk8 (l : List Ar) (hb : l.length ≤ 400) : Fn prog 31 [.d (zU l), .fn 32 []] (fun v => v = .b (uN l l.length)) := by
 rw [← jF7, j58 (show l.length ≤ l.length + 1 by omega)]
 obtain ⟨n, hn⟩ : ∃ n, l.length = n := ⟨_, rfl⟩; rw [hn] at hb ⊢; obtain ⟨B, hB⟩ : ∃ B, bY l (n - 1) = B := ⟨_, rfl⟩; rw [hB]; refine qc 25 fun w0 out => ?_; refine xu ?_
 refine qb (fun s' => ∃ z : Int, -1 ≤ z ∧ z ≤ (n : Int) - 1 ∧ bY l z.toNat = B ∧ s' = ⟨25, [(0, .d (zU l)), (1, .fn 32 []), (5, .i z)], [], []⟩) (fun s' => s'.nat 5) ⟨_, ?_, (n : Int) - 1, by omega, by omega, by rw [show ((n : Int) - 1).toNat = n - 1 by omega]; exact hB, rfl⟩ ?_
 ·exact q8
 rintro s' ⟨z, hz1, hz2, hz, rfl⟩
 by_cases hz0 : z > 0
 ·obtain ⟨k, rfl⟩ : ∃ k : Nat, z = ((k + 1 : Nat) : Int) := ⟨z.toNat - 1, by omega⟩
  obtain ⟨a, ha⟩ := zl hn (show k + 1 < n by omega)
  obtain ⟨b, hb'⟩ := zl hn (show k < n by omega)
  have hk1 : ((k + 1 : Nat) : Int) - 1 = (k : Int) := by omega
  rw [Int.toNat_natCast] at hz
  simp only [bY, if_pos (show k + 1 < l.length by omega), bX ha, bX hb'] at hz
  have vN := jv8 a b; have y7 := ju7 a b; obtain ⟨oc, hoc⟩ : ∃ oc, je0 a b = oc := ⟨_, rfl⟩; rw [hoc] at vN y7; clear hoc
  cases hah : ahd a b with
  | true =>
   rw [hah] at hz y7; have h0 : oc < 0 := y7.2 rfl; obtain rfl : B = false := by rw [← hz]; rfl
   refine q61 ?_; refine jK8 ?_; refine qw rfl rfl rfl (fun _ _ h => h) (x7 (k := k) underlying33 zO rfl rfl rfl zg zm) ?_; refine Dv ?_; refine qm ?_; refine qJ (post := ?pc107) rfl rfl (wf (args := [_, _]) ?hc107 ⟨func32, rfl, rfl, rfl, rfl⟩ rfl rfl rfl rfl) ?_
   case hc107 => exact vN
   rintro _ rfl -; refine zQ ?_; refine qK rfl rfl rfl (qB2 rfl rfl rfl zT2) ?_; refine W33 ?_; refine zC ?_; exact ⟨[_], ⟨rfl, trivial⟩, rfl, zU2⟩
  | false =>
   rw [hah] at hz y7
   have h0 : ¬ oc < 0 := fun h => by have := y7.1 h; cases this
   have hz' : bY l k = B := by rw [← hz]; simp
   refine q61 ?_; refine jK8 ?_; refine qw rfl rfl rfl (fun _ _ h => h) (x7 (k := k) underlying33 zO rfl rfl rfl zg zm) ?_; refine Dv ?_; refine qm ?_; refine qJ (post := ?pc108) rfl rfl (wf (args := [_, _]) ?hc108 ⟨func32, rfl, rfl, rfl, rfl⟩ rfl rfl rfl rfl) ?_
   case hc108 => exact vN
   rintro _ rfl -; refine zQ ?_; refine qK rfl rfl rfl (qB3 rfl rfl rfl zT2) ?_; refine W33 ?_; refine x8 ?_; refine ⟨_, ?_, ⟨k, by omega, by omega, by rw [Int.toNat_natCast]; exact hz', rfl⟩, ?_⟩
   ·rw [← hk1]; exact q8
   simp [S.nat, fnd]
 obtain rfl : B = true := by rw [← hz, show z.toNat = 0 by omega]; rfl
 refine xu ?_; exact ⟨[_], ⟨rfl, trivial⟩, rfl, zU2⟩
def wdS (l : List Nat) : ByteArray := ⟨(wdB l).toArray⟩
theorem q75 (l : List Nat) (n : Nat) : wdS l ++ vu n ++ ⟨#[32]⟩ = wdS (l ++ [n]) := by
 unfold wdS vu; have h1 : (⟨#[32]⟩ : ByteArray) = ⟨[(32 : UInt8)].toArray⟩ := rfl; rw [j43, h1, ByteArray.mk_append_mk, ByteArray.mk_append_mk]
 congr 1
 simp [wdB]
theorem qu1 : ∀ (l : List Nat), (∀ n ∈ l, n ≤ 1000000001) → (wdB l).length ≤ 11 * l.length
 | [], _ => by simp [wdB]
 | n :: l, h => by
  have ih := qu1 l fun x hx => h x (mem_cons_of_mem _ hx)
  have hd := q45 9 n (by have := h n mem_cons_self; omega); simp only [wdB, length_append, length_cons]; omega
theorem q01 (h : n ≤ 1000000001) : (vu n).size ≤ 10 ∧ 0 < (vu n).size := by
 have hd := q45 9 n zg; have hp := List.length_pos_iff.2 (bc n).2.1; have : (vu n).size = (Lib.decDigits n).length := by simp [vu, ByteArray.size]
 omega
theorem qE7 : BOk 114 := ⟨Nat.le_of_ble_eq_true zh, Nat.le_of_ble_eq_true zh, by kernel_rfl⟩
theorem lwN {K : List V} (hk : V.lowL 901 K = true) : Lw [] K := ⟨fun y hy => (by cases hy), hk⟩
theorem lwR {row : Row} {K : List V} (hr : r < 900) (vi : V.lowL 901 row.cells = true) (hk : V.lowL 901 K = true) : Lw [(r, row)] K := ⟨fun y hy => by
 rw [mem_singleton] at hy; subst hy
 exact ⟨hr, vi⟩, hk⟩
theorem k67 (f : Int) (A : List Ar) {K : List V} (hk : V.lowL 901 K = true) : Lw [(2, ⟨35, [.i f, .d (zU A)], false, 0⟩)] K := lwR zj rfl hk
theorem je8 (i o w t : Int) {K : List V} (hk : V.lowL 901 K = true) : Lw [(8, ⟨47, [.i i, .i o, .i w, .i t], false, 0⟩)] K := lwR zj rfl hk
theorem qV8 {ty : TypeId} {K : List V} (hk : BOk ty) (a z : Bool) (s : ByteArray) (hl : Lw H0 K) (xR : s.size + 1 ≤ 140737488355328) : PC prog 82 [.ref 900 0, .d (.p (.int .u8 32))] (bH ty a z s H0) K (fun v H' K' => H' = bT ty false (s ++ ⟨#[32]⟩) H0 ∧ K' = K) := qV3 hk a z s 32 hl xR
def PCV (Pre : World → Prop) (P : Program) (f : FuncId) (caps args : List V) (H : List (Nat × Row)) (K : List V) (post : V → List (Nat × Row) → List V → Prop) : Prop :=
 ∀ (c : Cx) (s : S) (o : Oper) (fx : Operand) (xs : Array Operand) (tys : Array TypeId) (l : List Nat) (ts : List V), Pre c.w0 → c.P = P → o.op = .call { callee := .value fx, args := xs, argTypes := tys } → s.ev fx = some (.fn f caps) → xs.toList.map s.ev = args.map some →
  l.map (fun i => fnd s.T i) = ts.map some → s.H = H → ts ++ s.K = K → dok s o = true → vm c o s (fun s' => ∃ v H' K', post v H' K' ∧ s' = gF s l o.dst v H' K')
theorem PCV.intro {Pre : World → Prop} {P : Program} {f : FuncId} {fn : Func} {code : Code} {n : Nat} {rs : List ResultVar} {caps args : List V} {H : List (Nat × Row)} {K : List V} {post : V → List (Nat × Row) → List V → Prop} (hf : Is P f fn code n rs) (hn : args.length + caps.length ≤ n)
  (h : ∀ w0 out kx, Pre w0 → AW ⟨P, w0, out, kx, []⟩ code (QP P rs post) ⟨n, vV 0 (args ++ caps), H, K⟩) : PCV Pre P f caps args H K post := by
 intro c s o fx xs tys l ts wK hP ho wc xJ hts hH hK hd; subst hP hH hK
 exact qH0 l hts hf ho wc xJ hn hd fun kx => (h c.w0 c.out kx wK).mono fun e s1 hq => hq.toQI
section
variable {c : Cx} {s : S} {o : Oper} {Q : Exit → S → Prop} {ops : Array Oper} {rest : List Oper}
theorem qY {Pre : World → Prop} {P : Program} {f : FuncId} {caps args : List V} {K : List V} {post : V → List (Nat × Row) → List V → Prop} {fx : Operand} {xs : Array Operand} {tys : Array TypeId} (l : List Nat) {ts : List V} (h : PCV Pre P f caps args H K post) (hg : o.guard = none) (hP : c.P = P) (wK : Pre c.w0) (ho : o.op = .call { callee := .value fx, args := xs, argTypes := tys }) (wc : s.ev fx = some (.fn f caps)) (xJ : xs.toList.map s.ev = args.map some)
  (hts : l.map (fun i => fnd s.T i) = ts.map some) (hH : s.H = H) (hK : ts ++ s.K = K) (hd : dok s o = true) (hN : ∀ v H' K', post v H' K' → AL c ops rest Q (gF s l o.dst v H' K')) : AL c ops (o :: rest) Q s :=
 qN hg fun g a w hs K' Q' hK' => h c s o fx xs tys l ts wK hP ho wc xJ hts hH hK hd g a w hs K' Q' fun g' s' a' w' ⟨v, H', K2, h1, h2⟩ h3 => hK' g' s' a' w' (by subst h2; exact hN _ _ _ h1) h3
end
theorem qd5 {K : List V} (a z : Bool) (s S' : ByteArray) (n : Nat) (hn : n ≤ 1000000001) (hS : s ++ vu n ++ ⟨#[32]⟩ = S') (xR : s.size ≤ 1000000) (hl : Lw H0 K) : PCV uj prog 80 [.ref 900 0] [.i (n : Int)] (bH 114 a z s H0) K (fun v H' K' => v = .tup [] ∧ H' = bT 114 false S' H0 ∧ K' = K) := by
 have hit := j59 n hn; have hd := q01 hn
 cases a
 ·refine PCV.intro (n := 7) ⟨func80, rfl, rfl, rfl, rfl⟩ zx fun w0 out kx wK => AW.weaken ?_
  simp only [vV, cons_append, nil_append, bH]; refine zR ?_; refine qA hit ?_; refine zQ ?_; refine gE ?_; refine qQ [1] (ts := [_]) (args := [_, _]) (post := ?pc33) ?hc33 rfl rfl rfl rfl rfl rfl rfl rfl rfl ?_
  case hc33 => (refine gh qE7 false z s (vu n) (hl.keepL _ ?_) hd.2 zg <;> first | rfl | (simp [V.lowL, V.low]; done))
  rintro _ _ _ ⟨rfl, rfl, rfl⟩; refine jL1 ?_; refine gE ?_; refine qQ [] (ts := []) (args := [_, _]) (post := ?pc34) ?hc34 rfl rfl rfl rfl rfl rfl rfl rfl rfl ?_
  case hc34 => (refine qV8 qE7 true false (s ++ vu n) (hl.keepL _ ?_) (by rw [ByteArray.size_append]; omega) <;> first | rfl | (simp [V.lowL, V.low]; done))
  rintro _ _ _ ⟨rfl, rfl⟩; refine jL6 ?_; rw [hS]; exact ⟨_, Less.same _, [], trivial, rfl, rfl, rfl⟩
 refine PCV.intro (n := 7) ⟨func80, rfl, rfl, rfl, rfl⟩ zx fun w0 out kx wK => AW.weaken ?_; simp only [vV, cons_append, nil_append, bH]; refine zR ?_; refine qA hit ?_; refine zQ ?_; refine gE ?_; refine qQ [1] (ts := [_]) (args := [_, _]) (post := ?pc36) ?hc36 rfl rfl rfl rfl rfl rfl rfl rfl rfl ?_
 case hc36 => (refine gh qE7 true z s (vu n) (hl.keepL _ ?_) hd.2 zg <;> first | rfl | (simp [V.lowL, V.low]; done))
 rintro _ _ _ ⟨rfl, rfl, rfl⟩; refine jL1 ?_; refine gE ?_; refine qQ [] (ts := []) (args := [_, _]) (post := ?pc37) ?hc37 rfl rfl rfl rfl rfl rfl rfl rfl rfl ?_
 case hc37 => (refine qV8 qE7 true false (s ++ vu n) (hl.keepL _ ?_) (by rw [ByteArray.size_append]; omega) <;> first | rfl | (simp [V.lowL, V.low]; done))
 rintro _ _ _ ⟨rfl, rfl⟩; refine jL6 ?_; rw [hS]; exact ⟨_, Less.same _, [], trivial, rfl, rfl, rfl⟩
theorem jk9 (cl : List Nat) {a : Ar} {f : Nat} (h : l[k]? = some a) : wdS (f :: (l.take k).flatMap (arB cl)) ++ vu a.i.toNat ++ ⟨#[32]⟩ ++ vu a.o.toNat ++ ⟨#[32]⟩ ++ vu a.w.toNat ++ ⟨#[32]⟩ ++ vu (clG cl a.t.toNat) ++ ⟨#[32]⟩ = wdS (f :: (l.take (k + 1)).flatMap (arB cl)) := by
 rw [q75, q75, q75, q75, x5 h, flatMap_append]; simp [arB]
theorem j65 (cl : List Nat) (l : List Ar) : (l.flatMap (arB cl)).length = 4 * l.length := by
 induction l with
 | nil => rfl
 | cons x l ih => rw [flatMap_cons, length_append, ih, length_cons]; simp [arB]; omega
theorem jG7 (f : Nat) (l : List Nat) : 0 < (wdS (f :: l)).size := by
 have : (wdS (f :: l)).size = (wdB (f :: l)).length := by simp [wdS, ByteArray.size]
 rw [this]; simp [wdB]; omega
theorem jR6 (cl : List Nat) (x : St) (n : Int) (hx4 : x.arcs.length ≤ 400) (hf : vy x.fin = true) (ha : ∀ a ∈ x.arcs, xl n a = true) (hc : ∀ c ∈ cl, c ≤ 1000) : (wdS (sgN cl x)).size ≤ 20000 := by
 simp only [vy, decide_eq_true_eq] at hf
 have h1 := qu1 (sgN cl x) fun m hm => by
  unfold sgN at hm
  rcases List.mem_cons.1 hm with rfl | hm
  ·omega
  obtain ⟨a, h2, h3⟩ := List.mem_flatMap.1 hm; have h4 := ha a h2; simp only [xl, decide_eq_true_eq] at h4
  have h5 : clG cl a.t.toNat ≤ 1000 := by
   unfold clG
   cases h6 : cl[a.t.toNat]? with
   | none => simp
   | some c => exact hc c (mem_of_getElem? h6)
  simp only [arB, mem_cons, not_mem_nil, or_false] at h3; omega
 have h2 : (wdS (sgN cl x)).size = (wdB (sgN cl x)).length := by simp [wdS, ByteArray.size]
 have h3 : (sgN cl x).length = 1 + 4 * x.arcs.length := by unfold sgN; rw [length_cons, j65]; omega
 omega
theorem jG8 (cl : List Nat) (x : St) (n : Int) (hx4 : x.arcs.length ≤ 400) (hf : vy x.fin = true) (ha : ∀ a ∈ x.arcs, xl n a = true) (hn : n = cl.length) (hc : ∀ c ∈ cl, c ≤ 1000) : FnP uj prog 41 [.agg [.i x.fin, .d (zU x.arcs)], .d (.sl 1 8 (cl.map vp))] (fun v => v = .s (wdS (sgN cl x))) := by
 obtain ⟨f, A⟩ := x; simp only at hx4 hf ha; simp only [vy, decide_eq_true_eq] at hf; obtain ⟨f, rfl⟩ := Int.eq_ofNat_of_zero_le hf.1; have hf1 : f ≤ 1000000001 := by omega
 obtain ⟨la, xr⟩ : ∃ la, A.length = la := ⟨_, rfl⟩; rw [xr] at hx4; have hR : sgN cl ⟨(f : Int), A⟩ = f :: A.flatMap (arB cl) := by unfold sgN; simp only [Int.toNat_natCast]
 rw [hR]
 have xz : ∀ k, k ≤ la → (wdS (f :: (A.take k).flatMap (arB cl))).size ≤ 11 * (1 + 4 * k) := fun k hk => by
  have h1 := qu1 (f :: (A.take k).flatMap (arB cl)) fun m hm => by
   rcases List.mem_cons.1 hm with rfl | hm
   ·exact hf1
   obtain ⟨a, h2, h3⟩ := List.mem_flatMap.1 hm; have h4 := ha a (List.mem_of_mem_take h2); simp only [xl, decide_eq_true_eq] at h4
   have h5 : clG cl a.t.toNat ≤ 1000 := by
    unfold clG
    cases h6 : cl[a.t.toNat]? with
    | none => simp
    | some c => exact hc c (mem_of_getElem? h6)
   simp only [arB, mem_cons, not_mem_nil, or_false] at h3; omega
  have h2 : (wdS (f :: (A.take k).flatMap (arB cl))).size = (wdB (f :: (A.take k).flatMap (arB cl))).length := by simp [wdS, ByteArray.size]
  rw [length_cons, j65, length_take] at h1; omega
 clear hR; have k68 : (⟨#[32]⟩ : ByteArray).size = 1 := rfl
 have h00 : (⟨#[]⟩ : ByteArray) ++ vu f ++ ⟨#[32]⟩ = wdS (f :: (A.take 0).flatMap (arB cl)) := by
  have := q75 [] f; have e : wdS [] = ⟨#[]⟩ := rfl; rw [e] at this
  simpa using this
 refine qx 42 fun w0 out wK => ?_; refine W41 ?_; refine xd ?_; refine jO5 ?_; apply qg; refine qq 900 1 901 1 5 rfl rfl rfl zT4 ?_; refine Dv ?_; refine qe rfl rfl (un (vs := [_]) rfl rfl) ?_; refine W31 ?_
 refine AW.less (s' := ⟨42, [(1, .d (.sl 1 8 (cl.map vp))), (2, .ref 2 0), (5, .ref 900 0), (6, .fn 80 [.ref 900 0])], bF 114 true ⟨#[]⟩ [(2, ⟨35, [.i (f : Int), .d (zU A)], false, 0⟩)], []⟩) q8 ?_; refine zW ?_; refine gE ?_; refine qY [1, 2, 5, 6] (ts := [_, _, _, _]) (args := [_]) (post := ?pc38) ?hc38 rfl rfl zm rfl rfl rfl rfl rfl rfl rfl ?_
 case hc38 => (refine qd5 false true ⟨#[]⟩ _ f hf1 h00 (by have : (⟨#[]⟩ : ByteArray).size = 0 := rfl; omega) (k67 f A ?_) <;> first | rfl | (simp [V.lowL, V.low]; done))
 rintro _ _ _ ⟨rfl, rfl, rfl⟩; simp only [gF, S.put, cons_append, nil_append, zip_cons_cons, zip_nil_left, drop_succ_cons, drop_zero, length_cons, length_nil, zero_add, reduceAdd]; refine xX ?_
 refine qb (fun s' => ∃ k : Nat, k ≤ la ∧ s' = ⟨42, [(1, .d (.sl 1 8 (cl.map vp))), (5, .ref 900 0), (6, .fn 80 [.ref 900 0]), (15, .d (zU A)), (16, .i la), (17, .i k)], bT 114 false (wdS (f :: (A.take k).flatMap (arB cl))) [], []⟩) (fun s' => la - s'.nat 17) ⟨_, ?_, 0, by omega, rfl⟩ ?_
 ·exact q8
 clear h00; rintro s' ⟨k, hk, rfl⟩
 by_cases zk : k < la
 ·obtain ⟨a, hak⟩ := zl xr zk
  have h3 := ha a (mem_of_getElem? hak); simp only [xl, decide_eq_true_eq] at h3; have hrd := jk9 cl (f := f) hak; have hs1 := xz k zg; obtain ⟨ai, ao, aw, at'⟩ := a; simp only at h3 hrd; obtain ⟨ai, rfl⟩ := Int.eq_ofNat_of_zero_le h3.1.1; obtain ⟨ao, rfl⟩ := Int.eq_ofNat_of_zero_le h3.2.1.1; obtain ⟨aw, rfl⟩ := Int.eq_ofNat_of_zero_le h3.2.2.1.1
  obtain ⟨p, rfl⟩ := Int.eq_ofNat_of_zero_le h3.2.2.2.1; simp only [Int.toNat_natCast] at hrd; have wl : p < cl.length := by omega
  have hcp : cl[p]? = some (clG cl p) := by unfold clG; rw [List.getElem?_eq_getElem wl]; rfl
  have hc4 := hc _ (mem_of_getElem? hcp); obtain ⟨c, hcd⟩ : ∃ c, clG cl p = c := ⟨_, rfl⟩; rw [hcd] at hrd hcp hc4; obtain ⟨S0, hS0⟩ : ∃ S0, wdS (f :: (A.take k).flatMap (arB cl)) = S0 := ⟨_, rfl⟩; rw [hS0] at hrd hs1 ⊢; have d1 := q01 (n := ai) zg; have d2 := q01 (n := ao) zg; have d3 := q01 (n := aw) zg; have d4 := q01 (n := c) zg; obtain ⟨S1, e1⟩ : ∃ S1, S0 ++ vu ai ++ ⟨#[32]⟩ = S1 := ⟨_, rfl⟩
  rw [e1] at hrd; have z1 : S1.size ≤ S0.size + 11 := by rw [← e1, ByteArray.size_append, ByteArray.size_append]; omega
  obtain ⟨S2, e2⟩ : ∃ S2, S1 ++ vu ao ++ ⟨#[32]⟩ = S2 := ⟨_, rfl⟩; rw [e2] at hrd; have z2 : S2.size ≤ S1.size + 11 := by rw [← e2, ByteArray.size_append, ByteArray.size_append]; omega
  obtain ⟨S3, e3⟩ : ∃ S3, S2 ++ vu aw ++ ⟨#[32]⟩ = S3 := ⟨_, rfl⟩; rw [e3] at hrd; have z3 : S3.size ≤ S2.size + 11 := by rw [← e3, ByteArray.size_append, ByteArray.size_append]; omega
  clear hS0 hcd; refine xu ?_; refine q9 rfl (zp (l := [.i 0, .i 0, .i 0, .i 0]) 8 zO rfl (by simp [S.clean, S.put, S.newObj, S.forget, V.has, V.hasL, zV, xg, V.cs, xm, bJ, qc1, xF, xG, xc, x4, zE, zA, -map_set]) rfl rfl) ?_; refine W31 ?_
  refine AW.less (s' := ⟨42, [(1, .d (.sl 1 8 (cl.map vp))), (5, .ref 900 0), (6, .fn 80 [.ref 900 0]), (15, .d (zU A)), (16, .i la), (17, .i k), (8, .ref 8 0)], bT 114 false S0 [(8, ⟨47, [.i (ai : Int), .i (ao : Int), .i (aw : Int), .i (p : Int)], false, 0⟩)], []⟩) q8 ?_; refine zW ?_; refine gE ?_
  refine qY [1, 5, 6, 8, 15, 16, 17] (ts := [_, _, _, _, _, _, _]) (args := [_]) (post := ?pc39) ?hc39 rfl rfl zm rfl rfl rfl rfl rfl rfl rfl ?_
  case hc39 => (refine qd5 true false S0 S1 ai zg e1 zg (je8 ai ao aw p ?_) <;> first | rfl | (simp [V.lowL, V.low]; done))
  rintro _ _ _ ⟨rfl, rfl, rfl⟩; refine W67 ?_; refine gE ?_; refine qY [1, 5, 6, 8, 15, 16, 17] (ts := [_, _, _, _, _, _, _]) (args := [_]) (post := ?pc40) ?hc40 rfl rfl zm rfl rfl rfl rfl rfl rfl rfl ?_
  case hc40 => (refine qd5 true false S1 S2 ao zg e2 zg (je8 ai ao aw p ?_) <;> first | rfl | (simp [V.lowL, V.low]; done))
  rintro _ _ _ ⟨rfl, rfl, rfl⟩; refine W67 ?_; refine gE ?_; refine qY [1, 5, 6, 8, 15, 16, 17] (ts := [_, _, _, _, _, _, _]) (args := [_]) (post := ?pc41) ?hc41 rfl rfl zm rfl rfl rfl rfl rfl rfl rfl ?_
  case hc41 => (refine qd5 true false S2 S3 aw zg e3 zg (je8 ai ao aw p ?_) <;> first | rfl | (simp [V.lowL, V.low]; done))
  rintro _ _ _ ⟨rfl, rfl, rfl⟩; simp only [gF, S.put, cons_append, nil_append, zip_cons_cons, zip_nil_left, drop_succ_cons, drop_zero, length_cons, length_nil, zero_add, reduceAdd]; refine xB ?_; refine gE ?_; refine qY [1, 5, 6, 15, 16, 17] (ts := [_, _, _, _, _, _]) (args := [_]) (post := ?pc42) ?hc42 rfl rfl zm rfl rfl rfl rfl rfl rfl rfl ?_
  case hc42 => (refine qd5 true false S3 _ c zg hrd zg (je8 ai ao aw p ?_) <;> first | rfl | (simp [V.lowL, V.low]; done))
  rintro _ _ _ ⟨rfl, rfl, rfl⟩; refine W67 ?_; refine ⟨_, ?_, ⟨k + 1, by omega, rfl⟩, ?_⟩
  ·exact q8
  exact zM
 obtain rfl : k = la := by omega
 rw [take_of_length_le zg]; have hs1 := xz k zg; rw [take_of_length_le zg] at hs1
 have hz1 : false = true ↔ (wdS (f :: A.flatMap (arB cl))).size = 0 := ⟨fun h => (by cases h), fun h => by have := jG7 f (A.flatMap (arB cl)); omega⟩
 refine x8 ?_; refine gE ?_; refine qQ [] (ts := []) (args := [_]) (post := ?pc43) ?hc43 rfl rfl rfl rfl rfl rfl rfl rfl rfl ?_
 case hc43 => (refine qJ7 false (wdS (f :: A.flatMap (arB cl))) true (lwN ?_) hz1 zg <;> first | rfl | (simp [V.lowL, V.low]; done))
 rintro _ _ _ ⟨rfl, rfl, rfl⟩; refine jL3 ?_; exact ⟨[_], ⟨rfl, trivial⟩, rfl, zU0⟩
def prV (m : zr) : V := if zn m = 0 then .agg [.b (bA m.states), .b (bFl m.states), .b (bDi m.states && bFl m.states), .b (bSo m.states), .b (bPl m.states)] else .agg [.b false, .b false, .b false, .b false, .b false]
theorem qd6 (h : zn m = 0) : prV m = .agg [.b (bA m.states), .b (bFl m.states), .b (bDi m.states && bFl m.states), .b (bSo m.states), .b (bPl m.states)] := by unfold prV; rw [if_pos h]
theorem qd7 (h : zn m ≠ 0) : prV m = .agg [.b false, .b false, .b false, .b false, .b false] := by unfold prV; rw [if_neg h]
theorem jv9 {M : List (P2 × Int)} {y : Ar} (h : Seen M (l.take i)) (hk : bZ (y.i, y.o) (l.take i) = k) : (zK (vB M (y.i, y.o) ((k : Int) + 1)) (y.i, y.o)).getD 0 = (k : Int) + 1 := by
 rw [gU, if_pos rfl]; rfl
theorem j66 (m : zr) : Fn prog 14 [mV m] (fun v => v = .tup [prV m, .i (zn m)]) := by
 by_cases h0 : zn m = 0
 ·obtain ⟨xZ, vw, xR, hz⟩ := xj h0
  rw [qd6 h0, h0]; obtain ⟨st, sts⟩ := m; simp only at xZ vw xR hz ⊢
  have ui : ∀ x ∈ sts, x.arcs.length ≤ 400 := fun x hx => le_trans (yq sts x hx) vw
  obtain ⟨n, hn⟩ : ∃ n, sts.length = n := ⟨_, rfl⟩; rw [hn] at xZ; clear vw xR; refine qc 111 fun w0 out => ?_; refine W91 ?_; refine zC ?_; refine qa (Fn.eqi (we ⟨st, sts⟩) h0) ?_; refine qf0 ?_; refine W97 ?_; refine ve ?_
  refine qb (fun s' => ∃ (q : Nat) (u1 u2 u3 u4 u5 : Bool), q ≤ n ∧ u1 = ((sts.take q).all fun s => s.arcs.all fA) ∧ u2 = ((sts.take q).all fun s => s.arcs.all fF) ∧ u3 = ((sts.take q).all fun s => uA s.arcs s.arcs.length) ∧ u4 = ((sts.take q).all fun s => uN s.arcs s.arcs.length) ∧ u5 = ((sts.take q).all fun s => fP s.fin && s.arcs.all fW) ∧ s' = ⟨111, [(1, .ref 1 0), (2, .ref 2 0), (5, .ref 5 0), (20, .d (zq sts)), (21, .i n), (22, .i q)], [(1, ⟨24, [.i st, .d (zq sts)], false, 0⟩), (2, ⟨37, [.b false, .b false, .b false, .b false, .b false], false, 0⟩), (5, ⟨37, [.b u1, .b u2, .b u3, .b u4, .b u5], false, 0⟩)], []⟩) (fun s' => n - s'.nat 22) ⟨_, ?_, 0, true, true, true, true, true, by omega, rfl, rfl, rfl, rfl, rfl, rfl⟩ ?_
  ·exact q8
  rintro s' ⟨q, u1, u2, u3, u4, u5, hq, h1, h2, h3, h4, h5, rfl⟩
  by_cases zk : q < n
  ·obtain ⟨x, hx⟩ := zl hn zk
   have q39 := ui x (mem_of_getElem? hx)
   have e1 := w7 (fun s : St => s.arcs.all fA) hx
   have e2 := w7 (fun s : St => s.arcs.all fF) hx
   have e3 := w7 (fun s : St => uA s.arcs s.arcs.length) hx
   have e4 := w7 (fun s : St => uN s.arcs s.arcs.length) hx
   have e5 := w7 (fun s : St => fP s.fin && s.arcs.all fW) hx
   rw [← h1] at e1; rw [← h2] at e2; rw [← h3] at e3; rw [← h4] at e4; rw [← h5] at e5; clear h1 h2 h3 h4 h5; obtain ⟨xf, xa⟩ := x; simp only at q39 e1 e2 e3 e4 e5; obtain ⟨la, xr⟩ : ∃ n, xa.length = n := ⟨_, rfl⟩; have hso := jk8 xa q39; rw [xr] at q39 e3 e4 hso; obtain ⟨v5, hv5⟩ : ∃ v, v = (u5 && fP xf) := ⟨_, rfl⟩; rw [← Bool.and_assoc, ← hv5] at e5
   obtain ⟨so, hsE⟩ : ∃ v, uN xa la = v := ⟨_, rfl⟩; rw [hsE] at e4 hso; clear hsE; obtain ⟨v4, hv4⟩ : ∃ v, v = (u4 && so) := ⟨_, rfl⟩; rw [← hv4] at e4; refine xu ?_; refine q9 rfl (zp (l := [.i 0, .nil]) 7 xD rfl rfl rfl rfl) ?_; refine zR ?_
   refine qn (fun s' => s' = ⟨111, [(1, .ref 1 0), (2, .ref 2 0), (5, .ref 5 0), (7, .ref 7 0), (20, .d (zq sts)), (21, .i n), (22, .i q)], [(1, ⟨24, [.i st, .d (zq sts)], false, 0⟩), (2, ⟨37, [.b false, .b false, .b false, .b false, .b false], false, 0⟩), (5, ⟨37, [.b u1, .b u2, .b u3, .b u4, .b v5], false, 0⟩), (7, ⟨35, [.i xf, .d (zU xa)], false, 0⟩)], []⟩) ?_ ?_
   ·skip
    cases u5 with
    | false =>
     obtain rfl : v5 = false := by rw [hv5]; rfl
     refine xB ?_; refine W15 ?_; refine j0 rfl ⟨_, rfl, rfl⟩ rfl ?_; refine xd ?_; refine W17 ?_; refine ⟨_, ?_, rfl⟩; exact q8
    | true =>
     by_cases f0 : xf = 0
     ·obtain rfl : v5 = true := by rw [hv5]; simp [fP, f0]
      refine vF ?_; refine W17 ?_; refine ⟨_, ?_, rfl⟩; exact q8
     by_cases f1 : xf = 1000000001
     ·obtain rfl : v5 = true := by rw [hv5]; simp [fP, f1]
      refine vF ?_; refine W17 ?_; refine ⟨_, ?_, rfl⟩; exact q8
     obtain rfl : v5 = false := by rw [hv5]; simp [fP, f0, f1]
     refine vF ?_; refine W17 ?_; refine ⟨_, ?_, rfl⟩; exact q8
   rintro s' rfl; clear hv5; refine qn (fun s' => s' = ⟨111, [(1, .ref 1 0), (2, .ref 2 0), (5, .ref 5 0), (7, .ref 7 0), (20, .d (zq sts)), (21, .i n), (22, .i q)], [(1, ⟨24, [.i st, .d (zq sts)], false, 0⟩), (2, ⟨37, [.b false, .b false, .b false, .b false, .b false], false, 0⟩), (5, ⟨37, [.b u1, .b u2, .b u3, .b v4, .b v5], false, 0⟩), (7, ⟨35, [.i xf, .d (zU xa)], false, 0⟩)], []⟩) ?_ ?_
   ·skip
    cases u4 with
    | false =>
     obtain rfl : v4 = false := by rw [hv4]; rfl
     refine xX ?_; refine W17 ?_; refine ⟨_, ?_, rfl⟩; exact q8
    | true =>
     obtain rfl : v4 = so := by rw [hv4]; rfl
     refine zY ?_
     (refine qj (post := ?pc111) rfl rfl (zS (args := [_, _]) ?hc111 ⟨func31, rfl, rfl, rfl, rfl⟩ rfl rfl rfl rfl) ?_; (case hc111 => (exact hso)); rintro _ rfl -; try dsimp only)
     refine zR ?_; refine W17 ?_; refine ⟨_, ?_, rfl⟩; exact q8
   rintro s' rfl; clear hv4 hso; apply qr; refine q9 rfl (q48 47 rfl rfl rfl) ?_; refine xX ?_
   refine qb (fun s' => ∃ (i : Nat) (M : List (P2 × Int)) (b1 b2 b3 b5 : Bool), i ≤ la ∧ Seen M (xa.take i) ∧ b1 = (u1 && (xa.take i).all fA) ∧ b2 = (u2 && (xa.take i).all fF) ∧ b3 = (u3 && uA xa i) ∧ b5 = (v5 && (xa.take i).all fW) ∧ s' = ⟨111, [(1, .ref 1 0), (2, .ref 2 0), (5, .ref 5 0), (8, .mp 47 w0.heap.size (zu uO M)), (20, .d (zq sts)), (21, .i n), (22, .i q), (49, .d (zU xa)), (50, .i la), (51, .i i)], [(1, ⟨24, [.i st, .d (zq sts)], false, 0⟩), (2, ⟨37, [.b false, .b false, .b false, .b false, .b false], false, 0⟩), (5, ⟨37, [.b b1, .b b2, .b b3, .b v4, .b b5], false, 0⟩)], []⟩) (fun s' => la - s'.nat 51) ⟨_, ?_, 0, [], u1, u2, u3, v5, by omega, Seen.nil, by simp, by simp, by simp [uA], by simp, rfl⟩ ?_
   ·exact q8
   rintro s' ⟨i, M, b1, b2, b3, b5, hi, hM, h1, h2, h3, h5, rfl⟩
   by_cases vr : i < la
   ·obtain ⟨y, hy⟩ := zl xr vr
    have a1 := w7 fA hy; have a2 := w7 fF hy; have a3 := ju8 hy; have a5 := w7 fW hy; have a1' : (u1 && (xa.take (i + 1)).all fA) = (b1 && fA y) := by rw [a1, h1, Bool.and_assoc]
    have a2' : (u2 && (xa.take (i + 1)).all fF) = (b2 && fF y) := by rw [a2, h2, Bool.and_assoc]
    have a5' : (v5 && (xa.take (i + 1)).all fW) = (b5 && fW y) := by rw [a5, h5, Bool.and_assoc]
    have a3' : (u3 && uA xa (i + 1)) = (b3 && decide (bZ (y.i, y.o) (xa.take i) = 0)) := by rw [a3, h3, Bool.and_assoc]
    have hM1 := hM.step hy; have xM := jF8 (y.i, y.o) (xa.take i); rw [length_take] at xM; have bS := hM.cnt (y.i, y.o); obtain ⟨k, hk⟩ : ∃ k, bZ (y.i, y.o) (xa.take i) = k := ⟨_, rfl⟩; have wP := jv9 hM hk; rw [hk] at a3' hM1 xM bS; obtain ⟨v, M1, j, hE, hEv, vJ⟩ := Ent.ex M (y.i, y.o); obtain rfl : v = (k : Int) := by rw [hEv, bS]
    have hMl := hM.len; rw [length_take] at hMl; clear a1 a2 a3 a5 h1 h2 h3 h5 hM hk bS hEv; obtain ⟨c1, hc1⟩ : ∃ v, v = (b1 && fA y) := ⟨_, rfl⟩; obtain ⟨c2, hc2⟩ : ∃ v, v = (b2 && fF y) := ⟨_, rfl⟩; obtain ⟨c3, hc3⟩ : ∃ v, v = (b3 && decide (k = 0)) := ⟨_, rfl⟩; obtain ⟨c5, hc5⟩ : ∃ v, v = (b5 && fW y) := ⟨_, rfl⟩; rw [← hc1] at a1'; rw [← hc2] at a2'; rw [← hc3] at a3'; rw [← hc5] at a5'
    obtain ⟨yi, yo, yw, yt⟩ := y; simp only at hE hM1 wP hc1 hc2 hc5; refine xu ?_; refine q9 rfl (zp (l := [.i 0, .i 0, .i 0, .i 0]) 10 zO rfl rfl rfl rfl) ?_; refine x8 ?_; refine qe rfl rfl (q60 (vs := [(0, _), (1, _)]) (zs := [.i 0, .i 0]) underlying62 zz qw5 rfl rfl rfl rfl) ?_; refine q9 rfl (zp (l := [.i 0, .i 0]) 11 qw5 rfl rfl rfl rfl) ?_; refine W31 ?_
    refine kl (TM uO 47 M M1) [(0, 2), (1, 0), (2, 1), (3, 2), (4, 0), (5, 2), (6, 0)] (fun i => i == 0 || i == 1 || i == 4 || i == 5) 7 zh zh rfl zh ?_; refine km rfl rfl rfl (fun _ _ h => h) (vC rfl rfl) ?_; refine ko rfl rfl rfl (vQ underlying62 rfl qw5 rfl rfl rfl rfl rfl rfl) ?_
    refine kr zm (qE6) underlying61 zz rfl rfl rfl rfl rfl rfl rfl rfl rfl rfl rfl rfl rfl rfl rfl (fun _ _ h => h) rfl rfl (fun g a w hs => qz3 (hs.ev rfl)) rfl (qw0 rfl rfl rfl zg) rfl rfl (fun g a w hs => qz3 (hs.ev rfl)) rfl (by simp [S.put, S.newObj, xg, V.cs, V.mpsL, V.mps, D.mps, D.mpsL, D.mpsR, vM, vZ, V.one]) rfl rfl (qw2 rfl rfl rfl) rfl rfl rfl ?_
    simp only [upS, S.put, map_cons, map_nil, qx9, qc8, qc9, qm8, q70, qd0, qm7, vM, vZ, jv7]; obtain ⟨M2, hM2⟩ : ∃ M2, vB M (yi, yo) ((k : Int) + 1) = M2 := ⟨_, rfl⟩; rw [hM2] at hM1 wP; rw [hM2]; clear hE hM2
    refine qn (fun s' => s' = ⟨111, [(1, .ref 1 0), (2, .ref 2 0), (5, .ref 5 0), (8, .mp 47 w0.heap.size (zu uO M2)), (20, .d (zq sts)), (21, .i n), (22, .i q), (49, .d (zU xa)), (50, .i la), (51, .i i), (10, .ref 10 0), (11, .ref 11 0)], [(1, ⟨24, [.i st, .d (zq sts)], false, 0⟩), (2, ⟨37, [.b false, .b false, .b false, .b false, .b false], false, 0⟩), (5, ⟨37, [.b c1, .b b2, .b b3, .b v4, .b b5], false, 0⟩), (10, ⟨47, [.i yi, .i yo, .i yw, .i yt], false, 0⟩), (11, ⟨62, [.i yi, .i yo], false, 0⟩)], []⟩) ?_ ?_
    ·skip
     cases b1 with
     | false =>
      obtain rfl : c1 = false := by rw [hc1]; rfl
      refine xu ?_; refine W17 ?_; refine ⟨_, ?_, rfl⟩; exact q8
     | true =>
      by_cases g1 : yi = yo
      ·obtain rfl : c1 = true := by rw [hc1]; simp [fA, g1]
       refine xu ?_; refine W17 ?_; refine ⟨_, ?_, rfl⟩; exact q8
      obtain rfl : c1 = false := by rw [hc1]; simp [fA, g1]
      refine xu ?_; refine W17 ?_; refine ⟨_, ?_, rfl⟩; exact q8
    rintro s' rfl; clear hc1
    refine qn (fun s' => s' = ⟨111, [(1, .ref 1 0), (2, .ref 2 0), (5, .ref 5 0), (8, .mp 47 w0.heap.size (zu uO M2)), (20, .d (zq sts)), (21, .i n), (22, .i q), (49, .d (zU xa)), (50, .i la), (51, .i i), (10, .ref 10 0), (11, .ref 11 0)], [(1, ⟨24, [.i st, .d (zq sts)], false, 0⟩), (2, ⟨37, [.b false, .b false, .b false, .b false, .b false], false, 0⟩), (5, ⟨37, [.b c1, .b c2, .b b3, .b v4, .b b5], false, 0⟩), (10, ⟨47, [.i yi, .i yo, .i yw, .i yt], false, 0⟩), (11, ⟨62, [.i yi, .i yo], false, 0⟩)], []⟩) ?_ ?_
    ·skip
     cases b2 with
     | false =>
      obtain rfl : c2 = false := by rw [hc2]; rfl
      refine xX ?_; refine W17 ?_; refine ⟨_, ?_, rfl⟩; exact q8
     | true =>
      have hr : (!(decide (yi = 0) && decide (yo = 0))) = c2 := by rw [hc2]; rfl
      refine zC ?_; refine ju rfl rfl rfl (q60 (vs := []) (zs := [.i 0, .i 0]) underlying62 zz qw5 rfl rfl rfl rfl) ?_; refine ju rfl rfl rfl (j26 rfl rfl rfl rfl (by first | assumption | rfl)) ?_; refine zR ?_; refine W17 ?_; refine ⟨_, ?_, rfl⟩; exact q8
    rintro s' rfl; clear hc2
    refine qn (fun s' => s' = ⟨111, [(1, .ref 1 0), (2, .ref 2 0), (5, .ref 5 0), (8, .mp 47 w0.heap.size (zu uO M2)), (20, .d (zq sts)), (21, .i n), (22, .i q), (49, .d (zU xa)), (50, .i la), (51, .i i), (10, .ref 10 0), (11, .ref 11 0)], [(1, ⟨24, [.i st, .d (zq sts)], false, 0⟩), (2, ⟨37, [.b false, .b false, .b false, .b false, .b false], false, 0⟩), (5, ⟨37, [.b c1, .b c2, .b b3, .b v4, .b c5], false, 0⟩), (10, ⟨47, [.i yi, .i yo, .i yw, .i yt], false, 0⟩), (11, ⟨62, [.i yi, .i yo], false, 0⟩)], []⟩) ?_ ?_
    ·skip
     cases b5 with
     | false =>
      obtain rfl : c5 = false := by rw [hc5]; rfl
      refine xX ?_; refine W17 ?_; refine ⟨_, ?_, rfl⟩; exact q8
     | true =>
      by_cases g1 : yw = 0
      ·obtain rfl : c5 = true := by rw [hc5]; simp [fW, g1]
       refine xX ?_; refine W17 ?_; refine ⟨_, ?_, rfl⟩; exact q8
      obtain rfl : c5 = false := by rw [hc5]; simp [fW, g1]
      refine xX ?_; refine W17 ?_; refine ⟨_, ?_, rfl⟩; exact q8
    rintro s' rfl; clear hc5
    cases b3 with
    | false =>
     obtain rfl : c3 = false := by rw [hc3]; rfl
     refine ve ?_; refine jq4 ?_; refine ⟨_, ?_, ⟨i + 1, M2, c1, c2, _, c5, by omega, hM1, a1'.symm, a2'.symm, a3'.symm, a5'.symm, rfl⟩, ?_⟩
     ·exact q8
     exact zM
    | true =>
     by_cases g1 : k = 0
     ·obtain rfl : c3 = true := by rw [hc3]; simp [g1]
      refine zY ?_; refine qU rfl rfl rfl (qz4 (qE6) underlying61 zz rfl (.inl rfl) (fun g a w hs => qz3 (hs.ev rfl)) zm) ?_; refine xd ?_; refine jq4 ?_; refine ⟨_, ?_, ⟨i + 1, M2, c1, c2, _, c5, by omega, hM1, a1'.symm, a2'.symm, a3'.symm, a5'.symm, rfl⟩, ?_⟩
      ·exact q8
      exact zM
     obtain rfl : c3 = false := by rw [hc3]; simp [g1]
     refine zY ?_; refine qU rfl rfl rfl (qz4 (qE6) underlying61 zz rfl (.inl rfl) (fun g a w hs => qz3 (hs.ev rfl)) zm) ?_; refine xd ?_; refine jq4 ?_; refine ⟨_, ?_, ⟨i + 1, M2, c1, c2, _, c5, by omega, hM1, a1'.symm, a2'.symm, a3'.symm, a5'.symm, rfl⟩, ?_⟩
     ·exact q8
     exact zM
   obtain rfl : i = la := by omega
   rw [take_of_length_le zg] at h1 h2 h5; rw [← h1] at e1; rw [← h2] at e2; rw [← h3] at e3; rw [← h5] at e5; refine ve ?_; refine ⟨_, ?_, ⟨q + 1, b1, b2, b3, v4, b5, by omega, e1.symm, e2.symm, e3.symm, e4.symm, e5.symm, rfl⟩, ?_⟩
   ·exact q8
   exact zM
  rw [take_of_length_le zg] at h1 h2 h3 h4 h5; have k1 : bA sts = u1 := h1.symm; have k2 : bFl sts = u2 := h2.symm; have k3 : bDi sts = u3 := h3.symm; have k4 : bSo sts = u4 := h4.symm; have k5 : bPl sts = u5 := h5.symm; rw [k1, k2, k3, k4, k5]; clear h1 h2 h3 h4 h5 k1 k2 k3 k4 k5
  cases u3 with
  | false =>
   simp only [Bool.false_and]; refine vF ?_; refine qB7 ?_; refine x8 ?_; exact ⟨[_, _], zU5, rfl, zU0⟩
  | true =>
   simp only [Bool.true_and]; refine vF ?_; refine qB7 ?_; refine x8 ?_; exact ⟨[_, _], zU5, rfl, zU0⟩
 rw [qd7 h0]; obtain ⟨st, sts⟩ := m; obtain ⟨e, he⟩ : ∃ e, zn ⟨st, sts⟩ = e := ⟨_, rfl⟩; rw [he] at h0 ⊢; refine qc 111 fun w0 out => ?_; refine W91 ?_; refine zC ?_; refine qa (Fn.eqi (we ⟨st, sts⟩) he) ?_; refine qC1 ?_; refine jM8 ?_; exact ⟨[_, _], zU5, rfl, zU0⟩
abbrev ptD (x : Nat × Nat) : List D := [.p (.int .i64 (x.1 : Int)), .p (.int .i64 (x.2 : Int))]
abbrev uk (l : List (Nat × Nat)) : D := .sl 2 16 (l.map ptD)
def kyS (l : List (Nat × Nat)) : ByteArray := ⟨(kyL l).toArray⟩
theorem jG9 {l l' : List (Nat × Nat)} (h : kyS l = kyS l') : l = l' := by grind [kyS, j40]
theorem jw0 (l : List (Nat × Nat)) (x : Nat × Nat) : kyS l ++ (vu x.1 ++ ⟨#[58]⟩ ++ vu x.2 ++ ⟨#[32]⟩) = kyS (l ++ [x]) := by
 unfold kyS vu; have h1 : (⟨#[32]⟩ : ByteArray) = ⟨[(32 : UInt8)].toArray⟩ := rfl; have h2 : (⟨#[58]⟩ : ByteArray) = ⟨[(58 : UInt8)].toArray⟩ := rfl; rw [j41, h1, h2, ByteArray.mk_append_mk, ByteArray.mk_append_mk, ByteArray.mk_append_mk, ByteArray.mk_append_mk]
 congr 1
 simp [kyL]
theorem qK1 (h : n ≤ 1000000000000) : (vu n).size ≤ 13 ∧ 0 < (vu n).size := by
 have hd := q45 12 n zg; have hp := List.length_pos_iff.2 (bc n).2.1; have : (vu n).size = (Lib.decDigits n).length := by simp [vu, ByteArray.size]
 omega
def je9 (x : Nat × Nat) : Prop := x.1 ≤ 1000 ∧ x.2 ≤ 1000000000000
theorem qV9 (n : Nat) (h : n ≤ 1000000000000) : FnP uj prog 40 [.i (n : Int)] (fun v => v = .s (vu n)) :=
 FnP.ofCalls (xs := [.int .i64 (n : Int)]) (y := .string (vu n)) (fun w hw => (qG8 (n : Int) zg zg w hw).mono fun e w' ⟨he, k, os, hw'⟩ => ⟨by
  rw [he]; have : (⟨(Lib.itoa (n : Int)).toArray⟩ : ByteArray) = vu n := by unfold Lib.itoa vu; rw [if_neg zg]; simp only [Int.toNat_natCast]
  rw [this], by rw [hw']; exact qz1 _ _ _⟩) (fun _ _ _ zs h => by
  obtain ⟨h1, h2⟩ := h
  match zs, h1, h2 with
  | [z], _, h2 => rw [VRep.p_eq (h2 0 _ z rfl rfl)]) (fun _ _ _ => .d _ _ (.p _)) zT8
theorem jR7 (a b : Nat) {K : List V} (hk : V.lowL 901 K = true) : Lw [(5, ⟨137, [.i (a : Int), .i (b : Int)], false, 0⟩)] K := lwR zj rfl hk
theorem jR8 (l : List (Nat × Nat)) (hl : l.length ≤ 1000) (hb : ∀ x ∈ l, je9 x) : FnP uj prog 94 [.d (uk l)] (fun v => v = .s (kyS l)) := by
 obtain ⟨n, hn⟩ : ∃ n, l.length = n := ⟨_, rfl⟩; rw [hn] at hl; refine qx 24 fun w0 out wK => ?_; refine zW ?_; refine jO5 ?_; refine q63 ?_; refine qq 900 1 901 1 5 rfl rfl rfl zT4 ?_; refine zY ?_
 refine qb (fun s' => ∃ (k : Nat) (a z : Bool), k ≤ n ∧ (kyS (l.take k)).size ≤ 2000 * k ∧ (z = true ↔ (kyS (l.take k)).size = 0) ∧ s' = ⟨24, [(3, .ref 900 0), (6, .d (uk l)), (7, .i n), (8, .i k)], bH 114 a z (kyS (l.take k)) [], []⟩) (fun s' => n - s'.nat 8) ⟨_, ?_, 0, false, true, by omega, le_refl 0, ⟨fun _ => rfl, fun _ => rfl⟩, rfl⟩ ?_
 ·exact q8
 rintro s' ⟨k, a, z, hk, xz, hz, rfl⟩
 by_cases zk : k < n
 ·obtain ⟨x, hx⟩ := zl hn zk
  obtain ⟨b1, b2⟩ := hb x (mem_of_getElem? hx); have vl : kyS (l.take (k + 1)) = kyS (l.take k) ++ (vu x.1 ++ ⟨#[58]⟩ ++ vu x.2 ++ ⟨#[32]⟩) := by rw [jw0, x5 hx]
  obtain ⟨p, q⟩ := x; simp only at b1 b2 vl; have z1 := qK1 (n := p) zg; have z2 := qK1 (n := q) b2; have hit := qV9 p zg; have jv6 := qV9 q b2; have k68 : (⟨#[32]⟩ : ByteArray).size = 1 := rfl; have kb8 : (⟨#[58]⟩ : ByteArray).size = 1 := rfl
  have z0 : 0 < (vu p ++ ⟨#[58]⟩ ++ vu q ++ ⟨#[32]⟩).size ∧ (vu p ++ ⟨#[58]⟩ ++ vu q ++ ⟨#[32]⟩).size ≤ 100 := by
   simp only [ByteArray.size_append]; omega
  cases a
  ·simp only [bH]
   refine W99 ?_; refine zR ?_; refine AW.less (s' := ⟨24, [(3, .ref 900 0), (6, .d (uk l)), (7, .i n), (8, .i k), (5, .ref 5 0)], bH 114 false z (kyS (l.take k)) [(5, ⟨137, [.i (p : Int), .i (q : Int)], false, 0⟩)], []⟩) q8 ?_; refine jk [(0, 2), (1, 1), (4, 2), (5, 1), (2, 0), (3, 2), (6, 0), (7, 2), (8, 2), (9, 0)] (fun i => !([9] : List Nat).contains i) 10 zh zh rfl zh ?_
   refine qS rfl rfl rfl (fun _ _ h => h) (xe underlying137 rfl rfl rfl zz zj rfl) ?_; refine AF1.rd rfl rfl rfl (fun _ _ h => h) (xO underlying3 rfl rfl rfl rfl rfl rfl) ?_; refine qS rfl rfl rfl (fun _ _ h => h) (xe underlying137 rfl rfl rfl zz zj rfl) ?_; refine AF1.rd rfl rfl rfl (fun _ _ h => h) (xO underlying3 rfl rfl rfl rfl rfl rfl) ?_; refine jm ?_
   refine qX (post := ?pc44) rfl rfl (yL (args := [_]) (yM _ _ _ _) zm ?hc44 ⟨func40, rfl, rfl, rfl, rfl⟩ rfl rfl rfl rfl) ?_
   case hc44 => exact hit
   rintro _ rfl -; refine zQ ?_; refine qT rfl rfl rfl (fun _ _ h => h) (uF rfl rfl rfl (by first | assumption | omega | (simp only [ByteArray.size_append]; omega))) ?_; refine qX (post := ?pc45) rfl rfl (yL (args := [_]) (yM _ _ _ _) zm ?hc45 ⟨func40, rfl, rfl, rfl, rfl⟩ rfl rfl rfl rfl) ?_
   case hc45 => exact jv6
   rintro _ rfl -; refine zQ ?_; refine qT rfl rfl rfl (fun _ _ h => h) (uF rfl rfl rfl (by first | assumption | omega | (simp only [ByteArray.size_append]; omega))) ?_; refine qT rfl rfl rfl (fun _ _ h => h) (uF rfl rfl rfl (by first | assumption | omega | (simp only [ByteArray.size_append]; omega))) ?_; refine jn ?_; refine gE ?_
   refine jD rfl rfl [3, 6, 7, 8] (ts := [_, _, _, _]) (args := [_, _]) (post := ?pc46) ?hc46 rfl rfl rfl rfl rfl rfl rfl rfl rfl ?_
   case hc46 => (refine gh qE7 false z (kyS (l.take k)) (vu p ++ ⟨#[58]⟩ ++ vu q ++ ⟨#[32]⟩) (jR7 p q ?_) z0.1 zg <;> first | rfl | (simp [V.lowL, V.low]; done))
   rintro _ _ _ ⟨rfl, rfl, rfl⟩; refine jL5 ?_; refine qa3 ?_; refine zW ?_; refine ⟨_, ?_, ⟨k + 1, true, false, by omega, by rw [vl, ByteArray.size_append]; omega, ⟨fun h => (by cases h), fun h => by rw [vl, ByteArray.size_append] at h; omega⟩, rfl⟩, ?_⟩
   ·rw [vl]
    exact q8
   exact zM
  simp only [bH]; refine W99 ?_; refine zR ?_; refine AW.less (s' := ⟨24, [(3, .ref 900 0), (6, .d (uk l)), (7, .i n), (8, .i k), (5, .ref 5 0)], bH 114 true z (kyS (l.take k)) [(5, ⟨137, [.i (p : Int), .i (q : Int)], false, 0⟩)], []⟩) q8 ?_; refine jk [(0, 2), (1, 1), (4, 2), (5, 1), (2, 0), (3, 2), (6, 0), (7, 2), (8, 2), (9, 0)] (fun i => !([9] : List Nat).contains i) 10 zh zh rfl zh ?_
  refine qS rfl rfl rfl (fun _ _ h => h) (xe underlying137 rfl rfl rfl zz zj rfl) ?_; refine AF1.rd rfl rfl rfl (fun _ _ h => h) (xO underlying3 rfl rfl rfl rfl rfl rfl) ?_; refine qS rfl rfl rfl (fun _ _ h => h) (xe underlying137 rfl rfl rfl zz zj rfl) ?_; refine AF1.rd rfl rfl rfl (fun _ _ h => h) (xO underlying3 rfl rfl rfl rfl rfl rfl) ?_; refine jm ?_
  refine qX (post := ?pc47) rfl rfl (yL (args := [_]) (yM _ _ _ _) zm ?hc47 ⟨func40, rfl, rfl, rfl, rfl⟩ rfl rfl rfl rfl) ?_
  case hc47 => exact hit
  rintro _ rfl -; refine zQ ?_; refine qT rfl rfl rfl (fun _ _ h => h) (uF rfl rfl rfl (by first | assumption | omega | (simp only [ByteArray.size_append]; omega))) ?_; refine qX (post := ?pc48) rfl rfl (yL (args := [_]) (yM _ _ _ _) zm ?hc48 ⟨func40, rfl, rfl, rfl, rfl⟩ rfl rfl rfl rfl) ?_
  case hc48 => exact jv6
  rintro _ rfl -; refine zQ ?_; refine qT rfl rfl rfl (fun _ _ h => h) (uF rfl rfl rfl (by first | assumption | omega | (simp only [ByteArray.size_append]; omega))) ?_; refine qT rfl rfl rfl (fun _ _ h => h) (uF rfl rfl rfl (by first | assumption | omega | (simp only [ByteArray.size_append]; omega))) ?_; refine jn ?_; refine gE ?_
  refine jD rfl rfl [3, 6, 7, 8] (ts := [_, _, _, _]) (args := [_, _]) (post := ?pc49) ?hc49 rfl rfl rfl rfl rfl rfl rfl rfl rfl ?_
  case hc49 => (refine gh qE7 true z (kyS (l.take k)) (vu p ++ ⟨#[58]⟩ ++ vu q ++ ⟨#[32]⟩) (jR7 p q ?_) z0.1 zg <;> first | rfl | (simp [V.lowL, V.low]; done))
  rintro _ _ _ ⟨rfl, rfl, rfl⟩; refine jL5 ?_; refine qa3 ?_; refine zW ?_; refine ⟨_, ?_, ⟨k + 1, true, false, by omega, by rw [vl, ByteArray.size_append]; omega, ⟨fun h => (by cases h), fun h => by rw [vl, ByteArray.size_append] at h; omega⟩, rfl⟩, ?_⟩
  ·rw [vl]
   exact q8
  exact zM
 have xU : k = n := by omega
 have wR : l.take k = l := take_of_length_le zg; rw [wR] at xz hz ⊢; refine x8 ?_; refine gE ?_; refine qQ [] (ts := []) (args := [_]) (post := ?pc50) ?hc50 rfl rfl rfl rfl rfl rfl rfl rfl rfl ?_
 case hc50 => (refine qJ7 z (kyS l) a (lwN ?_) hz zg <;> first | rfl | (simp [V.lowL, V.low]; done))
 rintro _ _ _ ⟨rfl, rfl, rfl⟩; refine jL3 ?_; exact ⟨[_], ⟨rfl, trivial⟩, rfl, zU0⟩
end Go.Proofs.YthiknkcigcglkaaGreatDoor
