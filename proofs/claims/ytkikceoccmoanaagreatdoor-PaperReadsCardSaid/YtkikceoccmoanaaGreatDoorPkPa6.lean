/- Part 6 of what the law PaperReads rests on. -/
import Derived.Stop.IfaceNil
import Derived.Test.YtkikceoccmoanaaGreatDoorPkPa1
import Derived.Test.YtkikceoccmoanaaGreatDoorPkPa2
import Derived.Test.YtkikceoccmoanaaGreatDoorPkPa3
import Derived.Test.YtkikceoccmoanaaGreatDoorPkPa4
import Derived.Test.YtkikceoccmoanaaGreatDoorPkPa5
namespace Go.Proofs.YtkikceoccmoanaaGreatDoor
open Go.RowKit
set_option linter.unusedSimpArgs false
set_option linter.unusedVariables false
set_option maxRecDepth 100000

theorem reps_sc {a : ByteArray} {b : Value} {w : World} {q : Nat → Prop} {g : Nat → Nat × Nat} {zs : List Value} (h : VReps w q g [.s a, .d (.p b)] zs) : zs = [.string a, b] := by
 obtain ⟨h1, h2⟩ := h
 match zs, h1, h2 with
 | [z, y], _, h2 => rw [VRep.p_eq (h2 0 _ z rfl rfl), VRep.p_eq (h2 1 _ y rfl rfl)]
theorem am_IndexByte (l : List UInt8) : Fn Tryz.prog 31 [.s (bs l), .d (.p (.int .u8 10))] (fun v => v = .i (Lib.indexByte l 10)) :=
 Fn.ofCalls (xs := [.string (bs l), .int .u8 10]) (y := .int .i64 (Lib.indexByte l 10)) (fun w => (indexByte_call (bs l) 10 w).mono fun e w' ⟨he, hw⟩ => ⟨by rw [he, bs_list]; rfl, by rw [hw]; exact Below.refl _ _⟩) (fun _ _ _ _ h => reps_sc h) (fun _ _ _ => .d _ _ (.p _)) (by simp [V.pure, V.has, V.hasL])

theorem Less.ofX {s' s : S} (hn : s'.n = s.n) (hT : LT s s'.T) (hH : ∀ r row, fnd s'.H r = some row → fnd s.H r = some row) (hK : s'.K = s.K) : Less s' s :=
 ⟨hn, fun i v h => hT.get i v h, fun r row h => ⟨row, hH r row h, rfl, rfl, rfl, fun j v hv => ⟨v, hv, .refl _⟩⟩, fun j v h => ⟨v, by rw [← hK]; exact h, .refl _⟩⟩
theorem fnd_shadow {α : Type} {k r : Nat} {x y row : α} {l : List (Nat × α)} (h : fnd ((k, x) :: l) r = some row) : fnd ((k, x) :: (k, y) :: l) r = some row := by
 simp only [fnd] at h ⊢
 split at h
 ·rename_i e; rw [if_pos e]; exact h
 ·rename_i e; rw [if_neg e, if_neg e]; exact h
abbrev lnRow (l : List UInt8) : Row := ⟨9, [.s (bs l)], false, 0⟩
def lnLoop (lb N : Nat) (r0 : Loop) (st : LoopState) (j : Option Code) : V := .blk lb N (.loop (lr r0 st j))
def lnDf (db N : Nat) : V := .blk db N (.deferred (some []))
abbrev ylV (lb : Nat) : V := .d (.p (.func (.yield lb) #[] #[]))
/-- How the loop's body may end, in a round of a walk over lines: Jn, Jr of the caller's objects. -/
def QB1 (lb db N : Nat) (r0 : Loop) (ts : List V) (rest : List UInt8) (Jn : List (Nat × Row) → Prop) (s3 : S) : Prop :=
 ∃ s4, Less s4 s3 ∧ s4.K = lnLoop lb N r0 .busy none :: ylV lb :: .ref 790 0 :: lnDf db N :: ts ∧ s4.T = [] ∧ ∃ H, s4.H = (790, lnRow rest) :: H ∧ H.all (fun x => !V.bksL x.2.cells) = true ∧ Jn H
def QB (lb db N : Nat) (r0 : Loop) (ts : List V) (rest : List UInt8) (Jn Jr : List (Nat × Row) → Prop) : Exit → S → Prop
 | .normal, s3 => QB1 lb db N r0 ts rest Jn s3
 | .ret, s3 => QB1 lb db N r0 ts rest Jr s3
 | _, _ => False
/-- How the walk over lines ends. -/
def QLn (lb db N : Nat) (r0 : Loop) (ts : List V) (Jn Jr : List (Nat × Row) → Prop) : Exit → S → Prop
 | .normal, s => ∃ s', Less s' s ∧ ∃ H, s' = ⟨25, [], (790, lnRow []) :: H, lnLoop lb N r0 .ready none :: lnDf db N :: ts⟩ ∧ H.all (fun x => !V.bksL x.2.cells) = true ∧ Jn H
 | .ret, s => ∃ s', Less s' s ∧ ∃ rest H, s' = ⟨25, [], (790, lnRow rest) :: H, lnLoop lb N r0 .done (some .ret) :: lnDf db N :: ts⟩ ∧ H.all (fun x => !V.bksL x.2.cells) = true ∧ Jr H
 | _, _ => False
theorem am_lines {w0 : World} {out : Nat → Prop} {kx1 : List Value} {lb db n0 p : Nat} {r0 : Loop} {l : List Nat} {ts : List V} (J : List UInt8 → List (Nat × Row) → Prop) (Jr : List (Nat × Row) → Prop) {text : List UInt8} {H0 : List (Nat × Row)} (h0 : J text H0) (hne : db ≠ lb)
  (hps : r0.params = #[p]) (hp : p < n0) (hsz : r0.tmps.size = n0) (hrel : ∀ (j i : Nat), l[j]? = some i → ∃ y, r0.tmps[i]? = some y ∧ kx1[j + 1]? = some y)
  (hts : V.bksL ts = false) (hlen : ∀ rem H, J rem H → rem.length ≤ 1000000 ∧ H.all (fun x => !V.bksL x.2.cells) = true)
  (hround : ∀ kx rem H, J rem H → rem ≠ [] → AF (some lb) ⟨Tryz.prog, w0, out, undef :: kx, []⟩ r0.assign (thenS (fun s1 => ∃ K2, s1.K = lnLoop lb w0.heap.size r0 .ready none :: K2 ∧ NoBk lb s1.T s1.H K2 ∧
   AF (some lb) ⟨Tryz.prog, w0, out, undef :: kx, []⟩ r0.body (QB lb db w0.heap.size r0 ts (ln2 rem) (J (ln2 rem)) Jr) ⟨s1.n, s1.T, s1.H, lnLoop lb w0.heap.size r0 .busy none :: K2⟩) (fun _ _ => False))
   ⟨n0, (p, .s (bs (ln1 rem))) :: l.zip ts, (790, lnRow (ln2 rem)) :: H, lnLoop lb w0.heap.size r0 .ready none :: ylV lb :: .ref 790 0 :: lnDf db w0.heap.size :: ts⟩)
  {code : Code} (hcode : Tryz.f30.body = some code) :
  AW ⟨Tryz.prog, w0, out, undef :: kx1, []⟩ code (QLn lb db w0.heap.size r0 ts (J []) Jr) ⟨25, enum 0 [ylV lb, .ref 790 0], (790, lnRow text) :: H0, lnLoop lb w0.heap.size r0 .ready none :: lnDf db w0.heap.size :: ts⟩ := by
 obtain rfl := Option.some.inj (hcode : some _ = some code)
 clear hcode
 obtain ⟨K, hK⟩ : ∃ K, lnLoop lb w0.heap.size r0 .ready none :: lnDf db w0.heap.size :: ts = K := ⟨_, rfl⟩
 simp only [hK]
 simp only [enum]
 refine AW.block ?_
 refine AW.loopN (fun k s' => ∃ rem H, J rem H ∧ k = rem.length ∧ s' = ⟨25, [(0, ylV lb), (1, .ref 790 0)], (790, lnRow rem) :: H, K⟩) ?_ ?_
 ·exact ⟨_, _, (Less.ofX rfl (by repeat (first | exact trivial | refine ⟨⟨_, rfl, Wk.refl _⟩, ?_⟩ | refine ⟨⟨_, rfl, Wk.nil _ _⟩, ?_⟩ | refine ⟨⟨_, rfl, Wk.junk _⟩, ?_⟩)) (fun _ _ h => h) rfl), text, H0, h0, rfl, rfl⟩
 rintro k s' ⟨rem, H, hJ, rfl, rfl⟩
 obtain ⟨hl, hHb⟩ := hlen rem H hJ
 have hbs := bs_size rem
 by_cases hne0 : rem = []
 ·subst hne0
  refine AW.seq ?_
  refine AW.seq ?_
  refine AW.region ?_
  (first | (refine AL.rd rfl rfl (rd_load_ref Tryz.underlying9 rfl rfl rfl rfl rfl rfl) ?_) | (refine AL.rd rfl rfl (rd_load_ad Tryz.underlying9 rfl rfl rfl rfl) ?_) | (refine AL.rd rfl rfl (rd_load_map Tryz.underlying9 rfl rfl rfl rfl rfl rfl (by assumption)) ?_) | (refine AL.rd rfl rfl (rd_load_flat Tryz.underlying9 rfl rfl rfl rfl rfl rfl (fun _ => rfl) (by assumption) rfl) ?_))
  (first | (refine AL.rp rfl rfl (rp_len_map Tryz.underlying9 rfl rfl (by assumption)) ?_) | (refine AL.rp rfl rfl (rp_len_own Tryz.underlying9 rfl rfl) ?_) | (refine AL.rp rfl rfl (rp_len_sl Tryz.underlying9 rfl rfl) ?_) | (refine AL.rp rfl rfl (rp_len_nil Tryz.underlying9 rfl rfl) ?_) | (refine AL.rp rfl rfl (rp_len_str Tryz.underlying9 rfl rfl) ?_))
  (first | (refine AL.rp rfl rfl (rp_gtrT rfl rfl rfl (by first | assumption | omega | (dsimp only; omega))) ?_) | (refine AL.rp rfl rfl (rp_gtrF rfl rfl rfl (by first | assumption | omega | (dsimp only; omega))) ?_) | (refine AL.rp rfl rfl (rp_gtr rfl rfl rfl) ?_))
  refine AL.nil ?_
  try simp only [thenS, S.put]
  refine AW.condF rfl ?_
  refine AW.exit ?_
  try simp only [thenS, inBlockS, ↓reduceIte, Nat.reduceEqDiff]
  subst hK
  exact ⟨⟨25, [], (790, lnRow []) :: H, _⟩, (Less.ofX rfl (by repeat (first | exact trivial | refine ⟨⟨_, rfl, Wk.refl _⟩, ?_⟩ | refine ⟨⟨_, rfl, Wk.nil _ _⟩, ?_⟩ | refine ⟨⟨_, rfl, Wk.junk _⟩, ?_⟩)) (fun _ _ h => h) rfl), H, rfl, hHb, hJ⟩
 ·have hlt := ln2_lt rem hne0
  have hpos : 0 < rem.length := by omega
  refine AW.seq ?_
  refine AW.seq ?_
  refine AW.region ?_
  (first | (refine AL.rd rfl rfl (rd_load_ref Tryz.underlying9 rfl rfl rfl rfl rfl rfl) ?_) | (refine AL.rd rfl rfl (rd_load_ad Tryz.underlying9 rfl rfl rfl rfl) ?_) | (refine AL.rd rfl rfl (rd_load_map Tryz.underlying9 rfl rfl rfl rfl rfl rfl (by assumption)) ?_) | (refine AL.rd rfl rfl (rd_load_flat Tryz.underlying9 rfl rfl rfl rfl rfl rfl (fun _ => rfl) (by assumption) rfl) ?_))
  (first | (refine AL.rp rfl rfl (rp_len_map Tryz.underlying9 rfl rfl (by assumption)) ?_) | (refine AL.rp rfl rfl (rp_len_own Tryz.underlying9 rfl rfl) ?_) | (refine AL.rp rfl rfl (rp_len_sl Tryz.underlying9 rfl rfl) ?_) | (refine AL.rp rfl rfl (rp_len_nil Tryz.underlying9 rfl rfl) ?_) | (refine AL.rp rfl rfl (rp_len_str Tryz.underlying9 rfl rfl) ?_))
  (first | (refine AL.rp rfl rfl (rp_gtrT rfl rfl rfl (by first | assumption | omega | (dsimp only; omega))) ?_) | (refine AL.rp rfl rfl (rp_gtrF rfl rfl rfl (by first | assumption | omega | (dsimp only; omega))) ?_) | (refine AL.rp rfl rfl (rp_gtr rfl rfl rfl) ?_))
  refine AL.nil ?_
  try simp only [thenS, S.put]
  refine AW.condT rfl ?_
  refine AW.skip ?_
  try simp only [thenS]
  refine AW.block ?_
  refine AW.seq ?_
  refine AW.region ?_
  refine AL.rp rfl rfl (rp_assign rfl rfl) ?_
  refine AL.nil ?_
  try simp only [thenS, S.put]
  refine AW.seqc (fun s' => s' = ⟨25, [(0, ylV lb), (1, .ref 790 0), (3, .s (bs (ln1 rem)))], (790, lnRow (ln2 rem)) :: H, K⟩) ?_ ?_
  ·skip
   rcases ln_index rem with ⟨hi, e1, e2⟩ | ⟨i, hi, hk, e1, e2⟩
   ·have h1 := (am_IndexByte rem).eqi hi
    refine AW.seq ?_
    refine AW.region ?_
    (first | (refine AL.rd rfl rfl (rd_load_ref Tryz.underlying9 rfl rfl rfl rfl rfl rfl) ?_) | (refine AL.rd rfl rfl (rd_load_ad Tryz.underlying9 rfl rfl rfl rfl) ?_) | (refine AL.rd rfl rfl (rd_load_map Tryz.underlying9 rfl rfl rfl rfl rfl rfl (by assumption)) ?_) | (refine AL.rd rfl rfl (rd_load_flat Tryz.underlying9 rfl rfl rfl rfl rfl rfl (fun _ => rfl) (by assumption) rfl) ?_))
    refine AL.call (post := ?pc30) rfl (sm_call (args := [_, _]) ?hc30 ⟨Tryz.func31, rfl, rfl, rfl, rfl⟩ rfl rfl rfl rfl) ?_
    case hc30 => exact h1
    rintro _ rfl -
    try dsimp only
    refine AL.rp rfl rfl (rp_assign rfl rfl) ?_
    refine AL.nil ?_
    try simp only [thenS, S.put, S.newObj, setL, V.cs, List.length_cons, List.length_nil, List.take_succ_cons, List.take_zero, List.drop_succ_cons, List.drop_zero, List.drop_nil, List.nil_append, List.cons_append, List.append_nil, Nat.zero_add, Nat.reduceAdd, List.map_cons, List.map_nil, List.set_cons_zero, List.set_cons_succ]
    refine AW.seq ?_
    refine AW.region ?_
    refine AL.rp rfl rfl (rp_move rfl rfl) ?_
    (first | (refine AL.rp rfl rfl (rp_geqT rfl rfl rfl (by first | assumption | omega | (dsimp only; omega))) ?_) | (refine AL.rp rfl rfl (rp_geqF rfl rfl rfl (by first | assumption | omega | (dsimp only; omega))) ?_) | (refine AL.rp rfl rfl (rp_geq rfl rfl rfl) ?_))
    refine AL.nil ?_
    try simp only [thenS, S.put]
    refine AW.condF rfl ?_
    refine AW.region ?_
    (first | (refine AL.rd rfl rfl (rd_load_ref Tryz.underlying9 rfl rfl rfl rfl rfl rfl) ?_) | (refine AL.rd rfl rfl (rd_load_ad Tryz.underlying9 rfl rfl rfl rfl) ?_) | (refine AL.rd rfl rfl (rd_load_map Tryz.underlying9 rfl rfl rfl rfl rfl rfl (by assumption)) ?_) | (refine AL.rd rfl rfl (rd_load_flat Tryz.underlying9 rfl rfl rfl rfl rfl rfl (fun _ => rfl) (by assumption) rfl) ?_))
    refine AL.rp rfl rfl (rp_assign rfl rfl) ?_
    (first | (refine AL.st rfl (st_store_map2 inf9 rfl rfl rfl rfl rfl rfl rfl rfl (by first | assumption | omega)) ?_) | (refine AL.st rfl (st_store inf9 rfl rfl rfl rfl rfl rfl rfl (by first | decide | (simp; done)) rfl) ?_))
    refine AL.nil ?_
    try simp only [thenS, S.put, S.newObj, setL, V.cs, List.length_cons, List.length_nil, List.take_succ_cons, List.take_zero, List.drop_succ_cons, List.drop_zero, List.drop_nil, List.nil_append, List.cons_append, List.append_nil, Nat.zero_add, Nat.reduceAdd, List.map_cons, List.map_nil, List.set_cons_zero, List.set_cons_succ]
    rw [e1, e2]
    refine ⟨_, ?_, rfl⟩
    exact (Less.ofX rfl (by repeat (first | exact trivial | refine ⟨⟨_, rfl, Wk.refl _⟩, ?_⟩ | refine ⟨⟨_, rfl, Wk.nil _ _⟩, ?_⟩ | refine ⟨⟨_, rfl, Wk.junk _⟩, ?_⟩)) (fun _ _ h => fnd_shadow h) rfl)
   ·have h1 := (am_IndexByte rem).eqi hi
    refine AW.seq ?_
    refine AW.region ?_
    (first | (refine AL.rd rfl rfl (rd_load_ref Tryz.underlying9 rfl rfl rfl rfl rfl rfl) ?_) | (refine AL.rd rfl rfl (rd_load_ad Tryz.underlying9 rfl rfl rfl rfl) ?_) | (refine AL.rd rfl rfl (rd_load_map Tryz.underlying9 rfl rfl rfl rfl rfl rfl (by assumption)) ?_) | (refine AL.rd rfl rfl (rd_load_flat Tryz.underlying9 rfl rfl rfl rfl rfl rfl (fun _ => rfl) (by assumption) rfl) ?_))
    refine AL.call (post := ?pc31) rfl (sm_call (args := [_, _]) ?hc31 ⟨Tryz.func31, rfl, rfl, rfl, rfl⟩ rfl rfl rfl rfl) ?_
    case hc31 => exact h1
    rintro _ rfl -
    try dsimp only
    refine AL.rp rfl rfl (rp_assign rfl rfl) ?_
    refine AL.nil ?_
    try simp only [thenS, S.put, S.newObj, setL, V.cs, List.length_cons, List.length_nil, List.take_succ_cons, List.take_zero, List.drop_succ_cons, List.drop_zero, List.drop_nil, List.nil_append, List.cons_append, List.append_nil, Nat.zero_add, Nat.reduceAdd, List.map_cons, List.map_nil, List.set_cons_zero, List.set_cons_succ]
    refine AW.seq ?_
    refine AW.region ?_
    refine AL.rp rfl rfl (rp_move rfl rfl) ?_
    (first | (refine AL.rp rfl rfl (rp_geqT rfl rfl rfl (by first | assumption | omega | (dsimp only; omega))) ?_) | (refine AL.rp rfl rfl (rp_geqF rfl rfl rfl (by first | assumption | omega | (dsimp only; omega))) ?_) | (refine AL.rp rfl rfl (rp_geq rfl rfl rfl) ?_))
    refine AL.nil ?_
    try simp only [thenS, S.put]
    refine AW.condT rfl ?_
    refine AW.draw [(0, true), (1, true), (2, true), (3, true), (4, true), (5, true), (6, true), (7, true), (8, true), (9, false)] (fun i => !([9] : List Nat).contains i) 10 (by kernel_rfl) (by kernel_rfl) rfl (by kernel_rfl) ?_
    (first | (refine AD1.rd rfl rfl rfl (fun _ _ h => h) (rd_load_ref Tryz.underlying9 rfl rfl rfl rfl rfl rfl) ?_) | (refine AD1.rd rfl rfl rfl (fun _ _ h => h) (rd_load_ad Tryz.underlying9 rfl rfl rfl rfl) ?_) | (refine AD1.rd rfl rfl rfl (fun _ _ h => h) (rd_load_map Tryz.underlying9 rfl rfl rfl rfl rfl rfl (by assumption)) ?_) | (refine AD1.rd rfl rfl rfl (fun _ _ h => h) (rd_load_flat Tryz.underlying9 rfl rfl rfl rfl rfl rfl (fun _ => rfl) (by assumption) rfl) ?_))
    refine AD1.rp rfl rfl rfl (fun _ _ h => h) (rp_move rfl rfl) ?_
    refine AD1.rp rfl rfl rfl (fun _ _ h => h) (rp_add rfl rfl rfl (by first | omega | (dsimp only; omega))) ?_
    refine AD1.rd rfl rfl rfl (fun _ _ h => h) ((rp_slice_strh (k := i + 1) Tryz.underlying9 rfl rfl rfl (by omega) (by omega)).rd) ?_
    (first | (refine AD1.rd rfl rfl rfl (fun _ _ h => h) (rd_load_ref Tryz.underlying9 rfl rfl rfl rfl rfl rfl) ?_) | (refine AD1.rd rfl rfl rfl (fun _ _ h => h) (rd_load_ad Tryz.underlying9 rfl rfl rfl rfl) ?_) | (refine AD1.rd rfl rfl rfl (fun _ _ h => h) (rd_load_map Tryz.underlying9 rfl rfl rfl rfl rfl rfl (by assumption)) ?_) | (refine AD1.rd rfl rfl rfl (fun _ _ h => h) (rd_load_flat Tryz.underlying9 rfl rfl rfl rfl rfl rfl (fun _ => rfl) (by assumption) rfl) ?_))
    refine AD1.rp rfl rfl rfl (fun _ _ h => h) (rp_move rfl rfl) ?_
    refine AD1.rp rfl rfl rfl (fun _ _ h => h) (rp_add rfl rfl rfl (by first | omega | (dsimp only; omega))) ?_
    refine AD1.rd rfl rfl rfl (fun _ _ h => h) ((rp_slice_strl (k := i + 1) Tryz.underlying9 rfl rfl rfl (by omega) (by omega)).rd) ?_
    refine AD1.rp rfl rfl rfl (fun _ _ h => h) (rp_assign rfl rfl) ?_
    refine AD1.go ?_
    refine AD2.go ?_
    (first | (refine AD3.st rfl rfl rfl (st_store_map2 inf9 rfl rfl rfl rfl rfl rfl rfl rfl (by first | assumption | omega)) ?_) | (refine AD3.st rfl rfl rfl (st_store inf9 rfl rfl rfl rfl rfl rfl rfl (by first | decide | (simp; done)) rfl) ?_))
    refine AD3.nil ?_
    try simp only [thenS, S.put, S.newObj, setL, V.cs, List.length_cons, List.length_nil, List.take_succ_cons, List.take_zero, List.drop_succ_cons, List.drop_zero, List.drop_nil, List.nil_append, List.cons_append, List.append_nil, Nat.zero_add, Nat.reduceAdd, List.map_cons, List.map_nil, List.set_cons_zero, List.set_cons_succ]
    rw [e1, e2]
    refine ⟨_, ?_, rfl⟩
    exact (Less.ofX rfl (by repeat (first | exact trivial | refine ⟨⟨_, rfl, Wk.refl _⟩, ?_⟩ | refine ⟨⟨_, rfl, Wk.nil _ _⟩, ?_⟩ | refine ⟨⟨_, rfl, Wk.junk _⟩, ?_⟩)) (fun _ _ h => fnd_shadow h) rfl)
  ·rintro s' rfl
   subst hK
   refine AW.seq (AF.aw (AF.regionL ?_))
   refine LF.rp rfl (fun d h => by cases h) rfl (rp_move rfl rfl) ?_
   refine LF.rp rfl (fun d h => by cases h) rfl (rp_move rfl rfl) ?_
   refine LF.yield [0, 1] (l := l) (ts := ts) (ts' := [ylV lb, .ref 790 0]) (n0 := n0) (p := p) rfl rfl rfl rfl hps hp hsz hrel (fun j u h => by simpa using h) rfl rfl fun kx => ?_
   refine (hround kx rem H hJ hne0).mono fun e s1 hq => ?_
   cases e <;> try exact hq
   obtain ⟨K2, k1, k2, k3⟩ := hq
   refine ⟨K2, k1, k2, k3.mono fun e s3 hq => ?_⟩
   have hnb : ∀ H' : List (Nat × Row), H'.all (fun x => !V.bksL x.2.cells) = true → NoBk lb [] ((790, lnRow (ln2 rem)) :: H') (ylV lb :: .ref 790 0 :: lnDf db w0.heap.size :: ts) := by
    intro H' hb
    refine ⟨rfl, by simpa [V.bksL, V.bks] using hb, fun v hv => ?_⟩
    simp only [List.mem_cons] at hv
    rcases hv with rfl | rfl | rfl | hv
    ·exact .inl rfl
    ·exact .inl rfl
    ·exact .inr ⟨_, _, _, rfl, hne⟩
    ·exact .inl (V.bksL_false.1 hts v hv)
   cases e with
   | normal =>
    obtain ⟨⟨n4, T4, H4, K4⟩, hle, hK4, hT4, H', hH', hb, hJ'⟩ := hq
    simp only at hK4 hT4 hH'
    subst hK4 hT4 hH'
    refine ⟨_, hle, _, rfl, hnb H' hb, ?_⟩
    refine LF.rp rfl (fun d h => by cases h) rfl (rp_not rfl rfl) ?_
    refine LF.nil ?_
    try simp only [thenS, S.put]
    refine AW.condF rfl ?_
    refine AW.skip ?_
    try simp only [thenS, inBlockS]
    exact ⟨(ln2 rem).length, ⟨25, [(0, ylV lb), (1, .ref 790 0)], (790, lnRow (ln2 rem)) :: H', _⟩, (Less.ofX rfl (by repeat (first | exact trivial | refine ⟨⟨_, rfl, Wk.refl _⟩, ?_⟩ | refine ⟨⟨_, rfl, Wk.nil _ _⟩, ?_⟩ | refine ⟨⟨_, rfl, Wk.junk _⟩, ?_⟩)) (fun _ _ h => h) rfl), ⟨ln2 rem, H', hJ', rfl, rfl⟩, hlt⟩
   | ret =>
    obtain ⟨⟨n4, T4, H4, K4⟩, hle, hK4, hT4, H', hH', hb, hJ'⟩ := hq
    simp only at hK4 hT4 hH'
    subst hK4 hT4 hH'
    refine ⟨_, hle, _, rfl, hnb H' hb, ?_⟩
    refine LF.rp rfl (fun d h => by cases h) rfl (rp_not rfl rfl) ?_
    refine LF.nil ?_
    try simp only [thenS, S.put]
    refine AW.condT rfl ?_
    refine AW.ret ?_
    try simp only [thenS, inBlockS]
    exact ⟨⟨25, [], (790, lnRow (ln2 rem)) :: H', _⟩, (Less.ofX rfl (by repeat (first | exact trivial | refine ⟨⟨_, rfl, Wk.refl _⟩, ?_⟩ | refine ⟨⟨_, rfl, Wk.nil _ _⟩, ?_⟩ | refine ⟨⟨_, rfl, Wk.junk _⟩, ?_⟩)) (fun _ _ h => h) rfl), ln2 rem, H', rfl, hb, hJ'⟩
   | _ => exact hq.elim
end Go.Proofs.YtkikceoccmoanaaGreatDoor
namespace Go.Proofs.YtkikceoccmoanaaGreatDoor
open Go.RowKit
set_option linter.unusedSimpArgs false
set_option linter.unusedVariables false
set_option maxRecDepth 100000

/-- How the body of such a function ends: without the loop's mark, or with it. -/
def RM (P : Program) (w0 : World) (out : Nat → Prop) (rs : List ResultVar) (post : V → Prop) : Exit → Act → World → Prop := fun e a w => (e = .normal ∨ e = .ret) ∧ ((∃ g s, Sim ⟨P, w0, out, [], []⟩ g s a w ∧ QF P rs post .ret s) ∨
  ∃ db g n T H, Sim ⟨P, w0, out, [undef], mk db⟩ g ⟨n, T, H, [lnDf db w0.heap.size]⟩ a w ∧ NoBk db T H [] ∧ QF P rs post .ret ⟨n, T, H, []⟩)
def AX (c : Cx) (code : Code) (R : Exit → Act → World → Prop) (s : S) : Prop := ∀ g a w, Sim c g s a w → code.wp c.P R a w
def QFK (P : Program) (rs : List ResultVar) (post : V → Prop) (db N : Nat) : Exit → S → Prop
  | .normal, s => ∃ T H, Less ⟨s.n, T, H, [lnDf db N]⟩ s ∧ NoBk db T H [] ∧ QF P rs post .ret ⟨s.n, T, H, []⟩
  | .ret, s => ∃ T H, Less ⟨s.n, T, H, [lnDf db N]⟩ s ∧ NoBk db T H [] ∧ QF P rs post .ret ⟨s.n, T, H, []⟩
  | _, _ => False
theorem FnP.introM {Pre : World → Prop} {P : Program} {f : FuncId} {fn : Func} {code : Code} {n : Nat} {rs : List ResultVar} {args : List V} {post : V → Prop} (hf : Is P f fn code n rs) (hp : ∀ v ∈ args, v.pure) (hn : args.length ≤ n)
    (h : ∀ w0 out, Pre w0 → AX ⟨P, w0, out, [], []⟩ code (RM P w0 out rs post) ⟨n, enum 0 args, [], []⟩) : FnP Pre P f args post := by
  intro w out g xs hw hout hx
  have hs : Sim ⟨P, w, out, [], []⟩ g ⟨n, enum 0 args, [], []⟩ { tmps := xs.toArray ++ Array.replicate (fn.ntmps - xs.toArray.size) undef, defers := [] } w := by
    refine ⟨?_, rfl, ?_, by simp [fnd], by simp [fnd], by simp, by simp [fnd], by simp [fnd], hout, Below.refl _ _⟩
    · simp [hf.ntmps, ← hx.1]; omega
    · intro i v hv
      obtain ⟨_, h2⟩ := fnd_enum args 0 i v hv
      simp only [Nat.sub_zero] at h2
      have hi : i < xs.length := by rw [← hx.1]; exact (List.getElem?_eq_some_iff.1 h2).1
      refine ⟨xs[i], ?_, ?_⟩
      · rw [hf.ntmps]
        exact enter_get (List.getElem?_eq_getElem hi) (by rw [← hx.1]; exact hn)
      · refine (hx.2 i v _ h2 (List.getElem?_eq_getElem hi)).mono Cells.rfl (fun b hb _ => ⟨hb, by simp [fnd]⟩) (fun r _ => rfl)
  refine (callsIn_wide (n := 0)).1 (callsIn_of_wp_marks hf.func hf.body trivial (wpIn_wide.2 (wp_mono (h w out hw g _ w hs) fun e a' w' hq => ?_)))
  obtain ⟨he, hq⟩ := hq
  have key : LeavesInM Fence.wide 0 P fn a'.tmps (fun e w' => ∃ v x, e = .returned x ∧ post v ∧ v.pure ∧ VRep w' (fun b => ¬ out b) g v x ∧ Below w.heap.size w w') a'.defers .returning w' := by
    rcases hq with ⟨g', s', h2, vs, k1, k2, k3⟩ | ⟨db, g', n', T, H, h2, hnb, vs, k1, k2, k3⟩
    · rw [h2.defers]
      obtain ⟨x, k4, k5⟩ := run_results hf.results h2 k1
      exact ⟨x, k5, _, x, rfl, k2, k3, (k4.repure k3).mono Cells.rfl (fun b hb _ => hb.1) (fun r _ => rfl), h2.below⟩
    · rw [h2.defers]
      obtain ⟨h3, h4⟩ := h2.headK
      have h5 := h2.tailK.setBlk (ob' := .deferred none) h4 rfl h3 hnb
      obtain ⟨x, k4, k5⟩ := run_results hf.results h5 k1
      exact ⟨by simp, .inl ⟨db, _, rfl, run_takeDeferred h4, x, k5, _, x, rfl, k2, k3, (k4.repure k3).mono Cells.rfl (fun b hb _ => hb.1) (fun r _ => rfl), h5.below⟩⟩
  rcases he with rfl | rfl
  · exact key
  · exact key
theorem AX.early {P : Program} {w0 : World} {out : Nat → Prop} {rs : List ResultVar} {post : V → Prop} {x y : Code} {s : S} (h : AW ⟨P, w0, out, [], []⟩ x (thenS (AX ⟨P, w0, out, [], []⟩ y (RM P w0 out rs post)) (QF P rs post)) s) : AX ⟨P, w0, out, [], []⟩ (.seq x y) (RM P w0 out rs post) s := fun g a w hs =>
  wp_seq (wp_mono (h g a w hs) fun e a' w' hq => by
    obtain ⟨g', s', h1, h2⟩ := hq
    cases e with
    | normal => exact h1 g' a' w' h2
    | ret => exact ⟨.inr rfl, .inl ⟨g', s', h2, h1⟩⟩
    | _ => exact h1.elim)
theorem rm_late {P : Program} {w0 : World} {out : Nat → Prop} {rs : List ResultVar} {post : V → Prop} {db : Nat} {e : Exit} {s : S} {g : Nat → Nat × Nat} {a : Act} {w : World} (h : QFK P rs post db w0.heap.size e s) (hs : Sim ⟨P, w0, out, [undef], mk db⟩ g s a w) : RM P w0 out rs post e a w := by
  cases e with
  | normal => obtain ⟨T, H, h1, h2, h3⟩ := h; exact ⟨.inl rfl, .inr ⟨db, g, _, T, H, hs.less h1, h2, h3⟩⟩
  | ret => obtain ⟨T, H, h1, h2, h3⟩ := h; exact ⟨.inr rfl, .inr ⟨db, g, _, T, H, hs.less h1, h2, h3⟩⟩
  | _ => exact h.elim
theorem AX.lines {w0 : World} {out : Nat → Prop} {rs : List ResultVar} {post : V → Prop} {u y asg body : Code} {id p n : Nat} {go : Operand} {s : S} (l : List Nat) (ts : List V) (J : List UInt8 → List (Nat × Row) → Prop) (Jr : List (Nat × Row) → Prop) (text : List UInt8)
    (h4 : AW ⟨Tryz.prog, w0, out, [], []⟩ u (thenS (fun s' => ∃ s2, Less s2 s' ∧ ∃ T H0, s2 = ⟨n, T, (790, lnRow text) :: H0, []⟩ ∧ S.ev s2 go = some (.fn 30 [.ref 790 0]) ∧ l.map (fun i => fnd T i) = ts.map some ∧ J text H0) (fun _ _ => False)) s)
    (hts : V.bksL ts = false) (hp : p < n) (hll : l.length = ts.length) (hlen : ∀ rem H, J rem H → rem.length ≤ 1000000 ∧ H.all (fun x => !V.bksL x.2.cells) = true)
    (hround : ∀ lb db kx rem H r0, db ≠ lb → r0.assign = asg → r0.body = body → J rem H → rem ≠ [] → AF (some lb) ⟨Tryz.prog, w0, out, undef :: kx, []⟩ asg (thenS (fun s1 => ∃ K2, s1.K = lnLoop lb w0.heap.size r0 .ready none :: K2 ∧ NoBk lb s1.T s1.H K2 ∧
      AF (some lb) ⟨Tryz.prog, w0, out, undef :: kx, []⟩ body (QB lb db w0.heap.size r0 ts (ln2 rem) (J (ln2 rem)) Jr) ⟨s1.n, s1.T, s1.H, lnLoop lb w0.heap.size r0 .busy none :: K2⟩) (fun _ _ => False))
      ⟨n, (p, .s (bs (ln1 rem))) :: l.zip ts, (790, lnRow (ln2 rem)) :: H, lnLoop lb w0.heap.size r0 .ready none :: ylV lb :: .ref 790 0 :: lnDf db w0.heap.size :: ts⟩)
    (hend : ∀ db H, J [] H → AW ⟨Tryz.prog, w0, out, [undef], mk db⟩ y (QFK Tryz.prog rs post db w0.heap.size) ⟨n, l.zip ts, (790, lnRow []) :: H, [lnDf db w0.heap.size]⟩)
    (hret : ∀ db rest H, Jr H → QFK Tryz.prog rs post db w0.heap.size .ret ⟨n, l.zip ts, (790, lnRow rest) :: H, [lnDf db w0.heap.size]⟩) :
    AX ⟨Tryz.prog, w0, out, [], []⟩ (.seq (.seq u (.block id (.rangeFunc go #[p] asg body))) y) (RM Tryz.prog w0 out rs post) s := by
  intro g a w hs
  refine wp_seq (wp_seq (wp_mono (h4 g a w hs) fun e a1 w1 hq => ?_))
  obtain ⟨g1, s1, h1, hs1⟩ := hq
  cases e with
  | normal =>
    obtain ⟨s2, hle, T, H0, rfl, hgo, hlT, hJ⟩ := h1
    have hs2 := hs1.less hle
    have hnbT : ∀ lb db H, db ≠ lb → H.all (fun x => !V.bksL x.2.cells) = true → ∀ rest, NoBk lb (l.zip ts) ((790, lnRow rest) :: H) (lnDf db w0.heap.size :: ts.drop l.length) := by
      intro lb db H hne hH rest
      refine ⟨List.all_eq_true.2 fun x hx => ?_, by simpa [V.bksL, V.bks] using hH, fun v hv => ?_⟩
      · have := V.bksL_false.1 hts x.2 (List.of_mem_zip hx).2
        simp [this]
      · rw [hll, List.drop_length] at hv
        simp only [List.mem_singleton] at hv
        exact .inr ⟨_, _, _, hv, hne⟩
    refine wp_block (wp_mono (range_fn (w0 := w0) (out := out) (R := fun e a w => (e = .normal ∧ y.wp Tryz.prog (RM Tryz.prog w0 out rs post) a w) ∨ (e = .ret ∧ RM Tryz.prog w0 out rs post .ret a w)) ⟨Tryz.func30, rfl, rfl, rfl, rfl⟩ hgo (by decide) l hlT
      (fun j db s' => (j = none ∧ AW ⟨Tryz.prog, w0, out, [undef], mk db⟩ y (QFK Tryz.prog rs post db w0.heap.size) s') ∨ (j = some .ret ∧ QFK Tryz.prog rs post db w0.heap.size .ret s')) ?_ ?_ g1 a1 w1 hs2) fun e a2 w2 hq => ?_)
    · rintro j db s' (⟨rfl, h⟩ | ⟨rfl, h⟩) g a w hs
      · exact .inl ⟨rfl, wp_mono (h g a w hs) fun e a' w' hq => by
          obtain ⟨g', s'', k1, k2⟩ := hq
          exact rm_late k1 k2⟩
      · exact .inr ⟨rfl, rm_late h hs⟩
    · intro lb db kx1 r0 hne hps hsz hasg hbd hrel
      refine AW.mono (am_lines (l := l) (n0 := n) J Jr hJ hne hps hp hsz hrel hts hlen (fun kx rem H hJr hr => ?_) rfl) fun e s3 hq => ?_
      · rw [hasg, hbd]
        exact hround lb db kx rem H r0 hne hasg hbd hJr hr
      · cases e with
        | normal =>
          obtain ⟨s', hle, H, rfl, hb, hJ'⟩ := hq
          refine ⟨.inl rfl, _, hle, none, .ready, ts, rfl, by decide, .inl rfl, hnbT lb db H hne hb _, .inl ⟨rfl, ?_⟩⟩
          rw [hll, List.drop_length]
          exact hend db H hJ'
        | ret =>
          obtain ⟨s', hle, rest, H, rfl, hb, hJ'⟩ := hq
          refine ⟨.inr rfl, _, hle, some .ret, .done, ts, rfl, by decide, .inr rfl, hnbT lb db H hne hb _, .inr ⟨rfl, ?_⟩⟩
          rw [hll, List.drop_length]
          exact hret db rest H hJ'
        | _ => exact hq.elim
    · rcases hq with ⟨rfl, h⟩ | ⟨rfl, h⟩
      · exact h
      · exact h
  | _ => exact h1.elim
end Go.Proofs.YtkikceoccmoanaaGreatDoor
namespace Go.Proofs.YtkikceoccmoanaaGreatDoor
open Go.RowKit
set_option linter.unusedSimpArgs false
set_option linter.unusedVariables false
set_option maxRecDepth 100000

def preN : World → Prop := fun w => preT w ∧ (∃ m : Int, w.cell? ⟨0, 0, none⟩ = some (.int .i64 m)) ∧ (∃ tp p, w.var? Tryz.prog "strconv.ErrSyntax" = some #[.iface tp p]) ∧ ∃ tp p, w.var? Tryz.prog "strconv.ErrRange" = some #[.iface tp p]
theorem var_kept {P : Program} {w w' : World} {nm : String} {cs : Array Value} (hb : Below w.heap.size w w') (h : w.var? P nm = some cs) : w'.var? P nm = some cs := by
 unfold World.var? at h ⊢
 cases hg : P.globalNamed nm with
 | none => rw [hg] at h; simp at h
 | some g =>
  rw [hg] at h
  simp only [Option.bind_some] at h ⊢
  cases hh : w.heap[g]? with
  | none => rw [hh] at h; cases h
  | some ob =>
   rw [hb.block _ (Array.getElem?_eq_some_iff.1 hh).1]
   exact h
theorem cell_lt {w : World} {b o : Nat} {x : Value} (h : w.cell? ⟨b, o, none⟩ = some x) : b < w.heap.size := by
 refine Classical.byContradiction fun hn => ?_
 unfold World.cell? at h
 simp [Array.getElem?_eq_none (Nat.le_of_not_lt hn)] at h
theorem preN_kept : Kept preN := fun w w' hb ⟨h1, ⟨m, h2⟩, ⟨t1, p1, h3⟩, t2, p2, h4⟩ => ⟨tab_kept _ _ _ _ w w' hb h1, ⟨m, (hb.cell (p := ⟨0, 0, none⟩) (cell_lt h2)).trans h2⟩, ⟨t1, p1, var_kept hb h3⟩, t2, p2, var_kept hb h4⟩
theorem FnP.pre {Pre Pre' : World → Prop} {P : Program} {f : FuncId} {args : List V} {post : V → Prop} (h : FnP Pre P f args post) (hp : ∀ w, Pre' w → Pre w) : FnP Pre' P f args post := fun w out g xs hw => h w out g xs (hp w hw)
theorem reps_s1n {a : ByteArray} {w : World} {q : Nat → Prop} {g : Nat → Nat × Nat} {zs : List Value} (h : VReps w q g [.s a] zs) : zs = [.string a] := by
 obtain ⟨h1, h2⟩ := h
 match zs, h1, h2 with
 | [z], _, h2 => rw [VRep.p_eq (h2 0 _ z rfl rfl)]
theorem am_TrimS (l : List UInt8) (hl : l.length ≤ 1000000) : Fn Tryz.prog 17 [.s (bs l), .s ⟨#[10]⟩] (fun v => v = .s (bs (Lib.trimSuffix l [10]))) :=
 Fn.ofCalls (xs := [.string (bs l), .string ⟨#[10]⟩]) (y := .string (bs (Lib.trimSuffix l [10]))) (fun w => (trimSuffix_call (bs l) ⟨#[10]⟩ w (by rw [bs_size]; omega)).mono fun e w' ⟨he, hw⟩ => ⟨by rw [he, bs_list]; rfl, by rw [hw]; exact Below.refl _ _⟩) (fun _ _ _ _ h => reps_sc h) (fun _ _ _ => .d _ _ (.p _)) (by simp [V.pure, V.has, V.hasL])
theorem indexB_at (l : List UInt8) : Lib.indexB (bs l) ⟨#[32]⟩ = Lib.indexByte l 32 := by
 show Lib.index (bs l).data.toList [32] = _
 rw [Lib.index_one, bs_list]
theorem split_prt : ∀ (n : Nat) (l : List UInt8), l.length ≤ n → Lib.splitB ⟨#[32]⟩ 0 (Lib.countB (bs l) ⟨#[32]⟩) (bs l) = (prt l).map bs := by
 intro n
 induction n with
 | zero =>
  intro l h
  obtain rfl : l = [] := List.length_eq_zero_iff.1 (by omega)
  rw [Lib.splitB_miss _ _ _ _ ((indexB_at []).trans (idx_none (by simp))), prt_one (by simp)]
  rfl
 | succ n ih =>
  intro l h
  by_cases hm : (32 : UInt8) ∈ l
  ·obtain ⟨p, r, rfl, hp⟩ := first_at hm
   have hi : Lib.indexB (bs (p ++ 32 :: r)) ⟨#[32]⟩ = (p.length : Nat) := (indexB_at _).trans (idx_no hp)
   have hs1 : (⟨#[32]⟩ : ByteArray).size = 1 := rfl
   have e1 : (bs (p ++ 32 :: r)).extract (p.length + 1) (bs (p ++ 32 :: r)).size = bs r := by
    rw [bs_drop, show p ++ 32 :: r = (p ++ [32]) ++ r by simp, show p.length + 1 = (p ++ [(32 : UInt8)]).length by simp, List.drop_left]
   rw [Lib.countB_hit (bs (p ++ 32 :: r)) ⟨#[32]⟩ p.length (Nat.le_refl 1) hi, hs1, e1, Nat.add_comm 1, Lib.splitB_hit _ _ _ _ p.length hi, hs1, e1, ih r (by simp at h; omega), prt_cons hp, Nat.add_zero, bs_take, List.take_left]
   rfl
  ·rw [Lib.splitB_miss _ _ _ _ ((indexB_at l).trans (idx_none hm)), prt_one hm]
   rfl
theorem am_Split (l : List UInt8) (hl : l.length ≤ 1000000) : FnP preN Tryz.prog 16 [.s (bs l), .s ⟨#[32]⟩] (fun v => v = .d (strsD (prt l))) := by
 rintro w out g xs ⟨_, ⟨m, hm⟩, _⟩ hlow hx
 obtain ⟨h1, h2⟩ := hx
 obtain rfl : xs = [.string (bs l), .string ⟨#[32]⟩] := by
  match xs, h1, h2 with
  | [x, y], _, h2 => rw [VRep.p_eq (h2 0 _ x rfl rfl), VRep.p_eq (h2 1 _ y rfl rfl)]
 have hc := split_call (bs l) ⟨#[32]⟩ m w (by rw [bs_size]; omega) hm (Nat.le_refl 1)
 have hlen := Lib.splitB_all ⟨#[32]⟩ (Nat.le_refl 1) 0 _ (bs l) rfl
 rw [split_prt _ l (Nat.le_refl _)] at hc hlen
 rw [← hlen, List.length_map, List.map_map] at hc
 refine hc.mono fun e w' ⟨he, hw⟩ => ⟨_, _, he, rfl, by simp [V.pure, V.has, V.hasL], ?_, by rw [hw]; exact (Below.refl _ _).alloc (Nat.le_refl _) _⟩
 have hn := prt_len l
 have key := DRep.sl (w := w') (q := fun b => ¬ out b) 1 16 ((prt l).map fun b => [D.p (.string (bs b))]) (some ⟨w.heap.size, 0, none⟩) (prt l).length w.heap.size 0 (fun i _ => .string (bs ((prt l)[i]?.getD []))) (by simp) (fun _ => ⟨rfl, fun h => Nat.lt_irrefl _ (hlow _ h), by rw [hw]; simp⟩) (by simp; omega) (fun i j row u hi hj => ?_) (fun i j row u hi hj => ?_)
 ·unfold strsD
  rw [List.length_map] at key
  exact .d _ _ key
 ·rw [List.getElem?_map] at hi
  cases hp : (prt l)[i]? with
  | none => rw [hp] at hi; cases hi
  | some x =>
   rw [hp] at hi
   simp only [Option.map_some, Option.some.injEq] at hi
   subst hi
   match j, hj with
   | 0, hj =>
    have hnew := World.alloc_heap_new w (.cells ((prt l).map (Value.string ∘ bs)).toArray 9)
    rw [hw]
    unfold World.cell?
    simp only
    rw [hnew]
    simp [hp]
 ·rw [List.getElem?_map] at hi
  cases hp : (prt l)[i]? with
  | none => rw [hp] at hi; cases hi
  | some x =>
   rw [hp] at hi
   simp only [Option.map_some, Option.some.injEq] at hi
   subst hi
   match j, hj with
   | 0, hj =>
    simp only [List.getElem?_cons_zero, Option.some.injEq] at hj
    subst hj
    exact .p _
section
variable {c : Cx} {s : S} {o : Oper}
theorem rp_neqI1 {t t' : TypeId} {x : Operand} {u v0 : Value} {u0 : TypeId} {ms : Array (String × TypeId)} (hu : c.P.underlying t = some (.interface ms)) (ho : o.op = .binOp .neq t x (.const u) t') (hx : s.ev x = some (.d (.p (.iface u0 v0)))) (hy : s.ev (.const u) = some (.d (.p .nilIface))) : RP c o s (.b true) :=
 rp_bin ho hx hy fun w => by
  have h1 : c.P.isIface t = true := by simp [Program.isIface, hu]
  have h2 := run_neq_iface_nil (P := c.P) w t h1 u0 v0
  simp [eqGuard, h2]
end
theorem rep_ii {w : World} {q : Nat → Prop} {g : Nat → Nat × Nat} {a b : Value} : VRep w q g (.tup [.d (.p a), .d (.p b)]) (.tuple #[a, b]) :=
 .tup _ [a, b] rfl fun j u y hu hy => by
  match j, hu, hy with
  | 0, hu, hy => simp at hu hy; subst hu hy; exact .d _ _ (.p _)
  | 1, hu, hy => simp at hu hy; subst hu hy; exact .d _ _ (.p _)
  | n + 2, hu, hy => simp at hu
theorem am_AtoiT (l : List UInt8) (hl : l.length ≤ 1000000) (v : Int) (h : Lib.atoiAll l = .ok v) : FnP preN Tryz.prog 34 [.s (bs l)] (fun v' => v' = .tup [.i v, .d (.p .nilIface)]) := by
 rintro w out g xs ⟨_, _, _, _⟩ ho hz
 obtain rfl := reps_s1n hz
 refine (atoi_ok (bs l) (by rw [bs_size]; omega) v (by rw [bs_list]; exact h) w).mono fun e w' ⟨he, hw'⟩ => ⟨_, _, he, rfl, by simp [V.pure, V.has, V.hasL], rep_ii, ?_⟩
 rcases hw' with rfl | ⟨t, rfl⟩
 ·exact Below.refl _ _
 ·exact Lib.bytesWorld_below _ _ _
theorem am_AtoiF (l : List UInt8) (hl : l.length ≤ 1000000) (h : ∀ v, Lib.atoiAll l ≠ .ok v) : FnP preN Tryz.prog 34 [.s (bs l)] (fun v' => ∃ a t p, v' = .tup [.i a, .d (.p (.iface t p))]) := by
 rintro w out g xs ⟨_, _, ⟨t1, p1, h1⟩, t2, p2, h2⟩ ho hz
 obtain rfl := reps_s1n hz
 cases hh : Lib.atoiAll l with
 | ok v => exact absurd hh (h v)
 | «syntax» => exact (atoi_syntax (bs l) (by rw [bs_size]; omega) (by rw [bs_list]; exact hh) t1 p1 w h1).mono fun e w' ⟨N, he, _, _, hb⟩ => ⟨_, _, he, ⟨_, _, _, rfl⟩, by simp [V.pure, V.has, V.hasL], rep_ii, hb⟩
 | range => exact (atoi_range (bs l) (by rw [bs_size]; omega) (by rw [bs_list]; exact hh) t2 p2 w h2).mono fun e w' ⟨N, he, _, _, hb⟩ => ⟨_, _, he, ⟨_, _, _, rfl⟩, by simp [V.pure, V.has, V.hasL], rep_ii, hb⟩
set_option maxHeartbeats 1000000 in
theorem am_numbers (ws : List (List UInt8)) (hwl : ws.length ≤ 1000000) (hall : ∀ w ∈ ws, w.length ≤ 1000000) : FnP preN Tryz.prog 18 [.d (strsD ws)] (fun v => v = .d (intsD (ws.map nbr))) := by
 obtain ⟨n, hn⟩ : ∃ n, ws.length = n := ⟨_, rfl⟩
 rw [hn] at hwl
 refine FnP.intro (n := 27) ⟨Tryz.func18, rfl, rfl, rfl, rfl⟩ (by simp [V.pure, V.has, V.hasL]) (by simp) fun w0 out hpre => ?_
 refine AW.seq ?_
 refine AW.region ?_
 refine AL.rp rfl rfl (rp_assign rfl rfl) ?_
 refine AL.nil ?_
 try simp only [thenS, S.put, enum, List.nil_append, List.cons_append, List.append_nil, Nat.zero_add, Nat.reduceAdd]
 refine AW.seq ?_
 refine AW.region ?_
 refine AL.rp rfl rfl (rp_assign rfl rfl) ?_
 refine AL.nil ?_
 try simp only [thenS, S.put]
 refine AW.seq ?_
 refine AW.seq ?_
 refine AW.region ?_
 refine AL.rp rfl rfl (rp_move rfl rfl) ?_
 (first | (refine AL.rp rfl rfl (rp_len_map Tryz.underlying33 rfl rfl (by assumption)) ?_) | (refine AL.rp rfl rfl (rp_len_own Tryz.underlying33 rfl rfl) ?_) | (refine AL.rp rfl rfl (rp_len_sl Tryz.underlying33 rfl rfl) ?_) | (refine AL.rp rfl rfl (rp_len_nil Tryz.underlying33 rfl rfl) ?_) | (refine AL.rp rfl rfl (rp_len_str Tryz.underlying33 rfl rfl) ?_))
 refine AL.rp rfl rfl (rp_move rfl rfl) ?_
 refine AL.nil ?_
 try simp only [thenS, S.put]
 refine AW.block ?_
 refine AW.adopt 3 30 1 3 rfl (by simp [S.clean, V.has, V.hasL]) ?_
 refine AW.loop (fun s' => ∃ (k : Nat) (z : Bool), k ≤ n ∧ z = ((ws.take k).map nbr).isEmpty ∧ s' = ⟨27, [(3, .own 30 1 k z), (8, .d (strsD ws)), (9, .i n), (10, .i k)], [(30, ⟨3, ((ws.take k).map nbr).map V.i, z, 1⟩)], []⟩) (fun s' => n - s'.nat 10) ⟨_, ?_, 0, true, by omega, rfl, rfl⟩ ?_
 ·exact (Less.of rfl (by repeat (first | exact trivial | refine ⟨⟨_, rfl, Wk.refl _⟩, ?_⟩ | refine ⟨⟨_, rfl, Wk.nil _ _⟩, ?_⟩ | refine ⟨⟨_, rfl, Wk.junk _⟩, ?_⟩)) (by repeat (first | exact trivial | refine ⟨rfl, ?_⟩)) rfl)
 rintro s' ⟨k, z, hk, hz, rfl⟩
 by_cases hlt : k < n
 ·obtain ⟨w, hw⟩ := get_lt hn hlt
  have hwsz := hall w (List.mem_of_getElem? hw)
  have hsn : (ws.take (k + 1)).map nbr = (ws.take k).map nbr ++ [nbr w] := by rw [take_snoc hw, List.map_append]; rfl
  have hli : ((ws.take k).map nbr).length = k := by rw [List.length_map, List.length_take]; omega
  obtain ⟨M, hM⟩ : ∃ M, (ws.take k).map nbr = M := ⟨_, rfl⟩
  rw [hM] at hsn hli hz ⊢
  subst hli
  have hzz : (M ++ [nbr w]).isEmpty = false := by cases M <;> rfl
  by_cases hok : ∃ v, Lib.atoiAll w = .ok v
  ·obtain ⟨v, hv⟩ := hok
   have hcon := am_AtoiT w hwsz v hv
   have hnb : nbr w = v := by unfold nbr; rw [hv]
   rw [hnb] at hsn
   refine AW.seq ?_
   refine AW.region ?_
   (first | (refine AL.rp rfl rfl (rp_lssT rfl rfl rfl (by first | assumption | omega | (dsimp only; omega))) ?_) | (refine AL.rp rfl rfl (rp_lssF rfl rfl rfl (by first | assumption | omega | (dsimp only; omega))) ?_) | (refine AL.rp rfl rfl (rp_lss rfl rfl rfl) ?_))
   refine AL.nil ?_
   try simp only [thenS, S.put]
   refine AW.seq ?_
   refine AW.condT rfl ?_
   refine AW.skip ?_
   try simp only [thenS]
   refine AW.seq ?_
   refine AW.block ?_
   refine AW.seq ?_
   refine AW.region ?_
   (first | (refine AL.rp rfl rfl (rp_index_own (k := M.length) Tryz.underlying33 inf9 rfl rfl rfl (by omega) (by omega)) ?_) | (refine AL.rp rfl rfl (rp_index_map (k := M.length) Tryz.underlying33 inf9 rfl rfl rfl (by omega) (by assumption)) ?_))
   (first | (refine AL.rd rfl rfl (rd_load_ref Tryz.underlying9 rfl rfl rfl rfl rfl rfl) ?_) | (refine AL.rd rfl rfl (rd_load_ad Tryz.underlying9 rfl rfl rfl rfl) ?_) | (refine AL.rd rfl rfl (rd_load_map Tryz.underlying9 rfl rfl rfl rfl rfl rfl (by assumption)) ?_) | (refine AL.rd rfl rfl (rd_load_flat Tryz.underlying9 rfl rfl rfl rfl rfl rfl (fun _ => rfl) (by assumption) rfl) ?_))
   refine AL.rp rfl rfl (rp_assign rfl rfl) ?_
   refine AL.nil ?_
   try simp only [thenS, S.put]
   refine AW.seq ?_
   refine AW.region ?_
   refine AL.rp rfl rfl (rp_move rfl rfl) ?_
   refine AL.call (post := ?pc47) rfl (sm_callP (args := [_]) (preN_kept) (by assumption) ?hc47 ⟨Tryz.func34, rfl, rfl, rfl, rfl⟩ rfl rfl rfl rfl) ?_
   case hc47 => exact hcon
   rintro _ rfl -
   try dsimp only
   refine AL.rp rfl rfl (rp_move rfl rfl) ?_
   refine AL.rp rfl rfl (rp_extract rfl rfl rfl) ?_
   refine AL.rp rfl rfl (rp_extract rfl rfl rfl) ?_
   refine AL.rp rfl rfl (rp_assign rfl rfl) ?_
   refine AL.rp rfl rfl (rp_assign rfl rfl) ?_
   refine AL.nil ?_
   try simp only [thenS, S.put, S.newObj, setL, V.cs, List.length_cons, List.length_nil, List.take_succ_cons, List.take_zero, List.drop_succ_cons, List.drop_zero, List.drop_nil, List.nil_append, List.cons_append, List.append_nil, Nat.zero_add, Nat.reduceAdd, List.map_cons, List.map_nil, List.set_cons_zero, List.set_cons_succ]
   refine AW.seq ?_
   refine AW.seq ?_
   refine AW.region ?_
   refine AL.rp rfl rfl (rp_move rfl rfl) ?_
   (first | (refine AL.rp rfl rfl (rp_neqI0 Tryz.underlying72 rfl rfl rfl) ?_) | (refine AL.rp rfl rfl (rp_neqI1 Tryz.underlying72 rfl rfl rfl) ?_))
   refine AL.nil ?_
   try simp only [thenS, S.put]
   refine AW.condF rfl ?_
   refine AW.skip ?_
   try simp only [thenS]
   refine AW.region ?_
   refine AL.rp rfl rfl (rp_move rfl rfl) ?_
   refine AL.rp rfl rfl (rp_move rfl rfl) ?_
   refine AL.sm rfl (sm_slice (vs := [(0, _)]) (zs := [.d (.p (.int .i64 0))]) 23 Tryz.underlying51 inf3 rfl rfl (by decide) (by decide) (by decide) rfl rfl rfl rfl (by first | rfl | simp [S.clean, S.put, S.newObj, S.forget, V.has, V.hasL, junkIf, setL, V.cs, hasL_i, hasL_d, hasL_b, hasL_s, hasL_n, hasL_rep, hasL_flat, hasL_append, -List.map_set]) (by first | rfl | simp [S.clean, S.put, S.newObj, S.forget, V.has, V.hasL, junkIf, setL, V.cs, hasL_i, hasL_d, hasL_b, hasL_s, hasL_n, hasL_rep, hasL_flat, hasL_append, -List.map_set]) rfl) ?_
   refine AL.st rfl (st_appendF Tryz.underlying51 inf3 rfl (by decide) rfl rfl rfl rfl rfl rfl (by first | assumption | rfl | (simp; done)) (by first | rfl | simp [S.clean, S.put, S.newObj, S.forget, V.has, V.hasL, junkIf, setL, V.cs, hasL_i, hasL_d, hasL_b, hasL_s, hasL_n, hasL_rep, hasL_flat, hasL_append, -List.map_set]) rfl rfl rfl rfl rfl (by first | rfl | simp [S.clean, S.put, S.newObj, S.forget, V.has, V.hasL, junkIf, setL, V.cs, hasL_i, hasL_d, hasL_b, hasL_s, hasL_n, hasL_rep, hasL_flat, hasL_append, -List.map_set]) rfl (by decide) (by omega) (by omega) rfl) ?_
   simp only [S.forget, S.put, S.newObj, junkIf, V.has, V.hasL, hasL_i, hasL_b, hasL_s, hasL_d, hasL_n, hasL_rep, hasL_flat, hasL_append, List.map_cons, List.map_nil, List.filter_cons, List.filter_nil, Nat.reduceBNe, Nat.reduceBEq, eq_self, bne_self_eq_false,  Bool.not_true, Bool.not_false, Bool.or_false, Bool.or_true, Bool.false_or, Bool.true_or, if_true, if_false, Bool.false_eq_true, ite_true, ite_false, ↓reduceIte, beq_self_eq_true, Nat.reduceEqDiff]
   refine AL.rp rfl rfl (rp_assign rfl rfl) ?_
   refine AL.nil ?_
   try simp only [thenS, S.put, S.newObj, setL, V.cs, List.length_cons, List.length_nil, List.take_succ_cons, List.take_zero, List.drop_succ_cons, List.drop_zero, List.drop_nil, List.nil_append, List.cons_append, List.append_nil, Nat.zero_add, Nat.reduceAdd, List.map_cons, List.map_nil, List.set_cons_zero, List.set_cons_succ]
   refine AW.region ?_
   refine AL.rp rfl rfl (rp_add rfl rfl rfl (by first | omega | (dsimp only; omega))) ?_
   refine AL.rp rfl rfl (rp_move rfl rfl) ?_
   refine AL.nil ?_
   try simp only [thenS, S.put]
   refine ⟨_, ?_, ⟨M.length + 1, false, by omega, by rw [hsn]; simp, rfl⟩, ?_⟩
   ·rw [hsn, List.map_append]
    exact (Less.of rfl (by repeat (first | exact trivial | refine ⟨⟨_, rfl, Wk.refl _⟩, ?_⟩ | refine ⟨⟨_, rfl, Wk.nil _ _⟩, ?_⟩ | refine ⟨⟨_, rfl, Wk.junk _⟩, ?_⟩)) (by repeat (first | exact trivial | refine ⟨rfl, ?_⟩)) rfl)
   ·simp [S.nat, fnd]; omega
  ·have hcon := am_AtoiF w hwsz fun v hv => hok ⟨v, hv⟩
   have hnb : nbr w = -1 := by
    unfold nbr
    cases hh : Lib.atoiAll w with
    | ok v => exact absurd ⟨v, hh⟩ hok
    | «syntax» => rfl
    | range => rfl
   rw [hnb] at hsn
   refine AW.seq ?_
   refine AW.region ?_
   (first | (refine AL.rp rfl rfl (rp_lssT rfl rfl rfl (by first | assumption | omega | (dsimp only; omega))) ?_) | (refine AL.rp rfl rfl (rp_lssF rfl rfl rfl (by first | assumption | omega | (dsimp only; omega))) ?_) | (refine AL.rp rfl rfl (rp_lss rfl rfl rfl) ?_))
   refine AL.nil ?_
   try simp only [thenS, S.put]
   refine AW.seq ?_
   refine AW.condT rfl ?_
   refine AW.skip ?_
   try simp only [thenS]
   refine AW.seq ?_
   refine AW.block ?_
   refine AW.seq ?_
   refine AW.region ?_
   (first | (refine AL.rp rfl rfl (rp_index_own (k := M.length) Tryz.underlying33 inf9 rfl rfl rfl (by omega) (by omega)) ?_) | (refine AL.rp rfl rfl (rp_index_map (k := M.length) Tryz.underlying33 inf9 rfl rfl rfl (by omega) (by assumption)) ?_))
   (first | (refine AL.rd rfl rfl (rd_load_ref Tryz.underlying9 rfl rfl rfl rfl rfl rfl) ?_) | (refine AL.rd rfl rfl (rd_load_ad Tryz.underlying9 rfl rfl rfl rfl) ?_) | (refine AL.rd rfl rfl (rd_load_map Tryz.underlying9 rfl rfl rfl rfl rfl rfl (by assumption)) ?_) | (refine AL.rd rfl rfl (rd_load_flat Tryz.underlying9 rfl rfl rfl rfl rfl rfl (fun _ => rfl) (by assumption) rfl) ?_))
   refine AL.rp rfl rfl (rp_assign rfl rfl) ?_
   refine AL.nil ?_
   try simp only [thenS, S.put]
   refine AW.seq ?_
   refine AW.region ?_
   refine AL.rp rfl rfl (rp_move rfl rfl) ?_
   refine AL.call (post := ?pc48) rfl (sm_callP (args := [_]) (preN_kept) (by assumption) ?hc48 ⟨Tryz.func34, rfl, rfl, rfl, rfl⟩ rfl rfl rfl rfl) ?_
   case hc48 => exact hcon
   rintro _ ⟨ea, et, ep, rfl⟩ -
   try dsimp only
   refine AL.rp rfl rfl (rp_move rfl rfl) ?_
   refine AL.rp rfl rfl (rp_extract rfl rfl rfl) ?_
   refine AL.rp rfl rfl (rp_extract rfl rfl rfl) ?_
   refine AL.rp rfl rfl (rp_assign rfl rfl) ?_
   refine AL.rp rfl rfl (rp_assign rfl rfl) ?_
   refine AL.nil ?_
   try simp only [thenS, S.put, S.newObj, setL, V.cs, List.length_cons, List.length_nil, List.take_succ_cons, List.take_zero, List.drop_succ_cons, List.drop_zero, List.drop_nil, List.nil_append, List.cons_append, List.append_nil, Nat.zero_add, Nat.reduceAdd, List.map_cons, List.map_nil, List.set_cons_zero, List.set_cons_succ]
   refine AW.seq ?_
   refine AW.seq ?_
   refine AW.region ?_
   refine AL.rp rfl rfl (rp_move rfl rfl) ?_
   (first | (refine AL.rp rfl rfl (rp_neqI0 Tryz.underlying72 rfl rfl rfl) ?_) | (refine AL.rp rfl rfl (rp_neqI1 Tryz.underlying72 rfl rfl rfl) ?_))
   refine AL.nil ?_
   try simp only [thenS, S.put]
   refine AW.condT rfl ?_
   refine AW.region ?_
   refine AL.rp rfl rfl (rp_assign rfl rfl) ?_
   refine AL.nil ?_
   try simp only [thenS, S.put]
   refine AW.region ?_
   refine AL.rp rfl rfl (rp_move rfl rfl) ?_
   refine AL.rp rfl rfl (rp_move rfl rfl) ?_
   refine AL.sm rfl (sm_slice (vs := [(0, _)]) (zs := [.d (.p (.int .i64 0))]) 23 Tryz.underlying51 inf3 rfl rfl (by decide) (by decide) (by decide) rfl rfl rfl rfl (by first | rfl | simp [S.clean, S.put, S.newObj, S.forget, V.has, V.hasL, junkIf, setL, V.cs, hasL_i, hasL_d, hasL_b, hasL_s, hasL_n, hasL_rep, hasL_flat, hasL_append, -List.map_set]) (by first | rfl | simp [S.clean, S.put, S.newObj, S.forget, V.has, V.hasL, junkIf, setL, V.cs, hasL_i, hasL_d, hasL_b, hasL_s, hasL_n, hasL_rep, hasL_flat, hasL_append, -List.map_set]) rfl) ?_
   refine AL.st rfl (st_appendF Tryz.underlying51 inf3 rfl (by decide) rfl rfl rfl rfl rfl rfl (by first | assumption | rfl | (simp; done)) (by first | rfl | simp [S.clean, S.put, S.newObj, S.forget, V.has, V.hasL, junkIf, setL, V.cs, hasL_i, hasL_d, hasL_b, hasL_s, hasL_n, hasL_rep, hasL_flat, hasL_append, -List.map_set]) rfl rfl rfl rfl rfl (by first | rfl | simp [S.clean, S.put, S.newObj, S.forget, V.has, V.hasL, junkIf, setL, V.cs, hasL_i, hasL_d, hasL_b, hasL_s, hasL_n, hasL_rep, hasL_flat, hasL_append, -List.map_set]) rfl (by decide) (by omega) (by omega) rfl) ?_
   simp only [S.forget, S.put, S.newObj, junkIf, V.has, V.hasL, hasL_i, hasL_b, hasL_s, hasL_d, hasL_n, hasL_rep, hasL_flat, hasL_append, List.map_cons, List.map_nil, List.filter_cons, List.filter_nil, Nat.reduceBNe, Nat.reduceBEq, eq_self, bne_self_eq_false,  Bool.not_true, Bool.not_false, Bool.or_false, Bool.or_true, Bool.false_or, Bool.true_or, if_true, if_false, Bool.false_eq_true, ite_true, ite_false, ↓reduceIte, beq_self_eq_true, Nat.reduceEqDiff]
   refine AL.rp rfl rfl (rp_assign rfl rfl) ?_
   refine AL.nil ?_
   try simp only [thenS, S.put, S.newObj, setL, V.cs, List.length_cons, List.length_nil, List.take_succ_cons, List.take_zero, List.drop_succ_cons, List.drop_zero, List.drop_nil, List.nil_append, List.cons_append, List.append_nil, Nat.zero_add, Nat.reduceAdd, List.map_cons, List.map_nil, List.set_cons_zero, List.set_cons_succ]
   refine AW.region ?_
   refine AL.rp rfl rfl (rp_add rfl rfl rfl (by first | omega | (dsimp only; omega))) ?_
   refine AL.rp rfl rfl (rp_move rfl rfl) ?_
   refine AL.nil ?_
   try simp only [thenS, S.put]
   refine ⟨_, ?_, ⟨M.length + 1, false, by omega, by rw [hsn]; simp, rfl⟩, ?_⟩
   ·rw [hsn, List.map_append]
    exact (Less.of rfl (by repeat (first | exact trivial | refine ⟨⟨_, rfl, Wk.refl _⟩, ?_⟩ | refine ⟨⟨_, rfl, Wk.nil _ _⟩, ?_⟩ | refine ⟨⟨_, rfl, Wk.junk _⟩, ?_⟩)) (by repeat (first | exact trivial | refine ⟨rfl, ?_⟩)) rfl)
   ·simp [S.nat, fnd]; omega
 ·obtain rfl : k = n := by omega
  rw [List.take_of_length_le (by omega)] at hz ⊢
  refine AW.freeze 3 8 ((ws.map nbr).map fun x => [D.p (.int .i64 x)]) rfl rfl rfl (by rw [List.length_map, List.length_map]; exact hn) (by omega) (rows1 (by rw [List.map_map])) ?_
  refine AW.seq ?_
  refine AW.region ?_
  (first | (refine AL.rp rfl rfl (rp_lssT rfl rfl rfl (by first | assumption | omega | (dsimp only; omega))) ?_) | (refine AL.rp rfl rfl (rp_lssF rfl rfl rfl (by first | assumption | omega | (dsimp only; omega))) ?_) | (refine AL.rp rfl rfl (rp_lss rfl rfl rfl) ?_))
  refine AL.nil ?_
  try simp only [thenS, S.put]
  refine AW.seq ?_
  refine AW.condF rfl ?_
  refine AW.exit ?_
  try simp only [thenS, inBlockS, ↓reduceIte, Nat.reduceEqDiff]
  refine AW.seq ?_
  refine AW.region ?_
  refine AL.rp rfl rfl (rp_move rfl rfl) ?_
  refine AL.rp rfl rfl (rp_assign rfl rfl) ?_
  refine AL.nil ?_
  try simp only [thenS, S.put]
  refine AW.ret ?_
  exact ⟨[_], ⟨rfl, trivial⟩, rfl, by simp [tupOf, V.pure, V.has, V.hasL]⟩
end Go.Proofs.YtkikceoccmoanaaGreatDoor
