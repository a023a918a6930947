/- Part 6 of what the law ScriptReads rests on. -/
import Derived.Test.YtlgnjehfojogmaaDoorPkSc1
import Derived.Test.YtlgnjehfojogmaaDoorPkSc2
import Derived.Test.YtlgnjehfojogmaaDoorPkSc3
import Derived.Test.YtlgnjehfojogmaaDoorPkSc4
import Derived.Test.YtlgnjehfojogmaaDoorPkSc5
namespace Go.Proofs.YtlgnjehfojogmaaDoor
open Go.RowKit
set_option linter.unusedSimpArgs false
set_option linter.unusedVariables false
set_option maxRecDepth 100000

theorem upI_strs (r pos : Nat) (l : List (List UInt8)) : upI r pos (.d (strsD l)) = .d (strsD l) := by
 have h : D.mpsR (l.map fun b => [D.p (.string (bs b))]) = false := mpsR_map _ (fun _ => rfl) l
 simp [upI, strsD, V.mps, D.mps, h]
/-- The table of forms, as one value. -/
def fms : List Value := (List.range 15).flatMap fun i => fmRow (i + 1)
theorem fms_get : ∀ i, i < 15 → ∀ r, r < 3 → fms[i * 3 + r]? = (fmRow (i + 1))[r]? := by
 intro i hi r hr
 rcases (by omega : i = 0 ∨ i = 1 ∨ i = 2 ∨ i = 3 ∨ i = 4 ∨ i = 5 ∨ i = 6 ∨ i = 7 ∨ i = 8 ∨ i = 9 ∨ i = 10 ∨ i = 11 ∨ i = 12 ∨ i = 13 ∨ i = 14) with rfl | rfl | rfl | rfl | rfl | rfl | rfl | rfl | rfl | rfl | rfl | rfl | rfl | rfl | rfl <;> rcases (by omega : r = 0 ∨ r = 1 ∨ r = 2) with rfl | rfl | rfl <;> rfl
theorem fms_cell {w : World} (h : preF w) : ∀ j v, fms[j]? = some v → w.cell? ⟨0, 0 + j, none⟩ = some v := by
 intro j v hj
 have hlt : j < 45 := (List.getElem?_eq_some_iff.1 hj).1
 rw [show j = j / 3 * 3 + j % 3 by omega, fms_get (j / 3) (by omega) (j % 3) (by omega)] at hj
 have := h (j / 3 + 1) (by omega) (by omega) (j % 3) v hj
 rw [show 0 + j = (j / 3 + 1 - 1) * 3 + j % 3 by omega]
 exact this
theorem fms_part : ∀ i, i < 15 → ((fms.map fun v => V.d (.p v)).drop (i * 3)).take 3 = [.i ((i + 1 : Nat) : Int), .s (wdK (i + 1)), .s (arK (ptK (i + 1)))] := by
 intro i hi
 rcases (by omega : i = 0 ∨ i = 1 ∨ i = 2 ∨ i = 3 ∨ i = 4 ∨ i = 5 ∨ i = 6 ∨ i = 7 ∨ i = 8 ∨ i = 9 ∨ i = 10 ∨ i = 11 ∨ i = 12 ∨ i = 13 ∨ i = 14) with rfl | rfl | rfl | rfl | rfl | rfl | rfl | rfl | rfl | rfl | rfl | rfl | rfl | rfl | rfl <;> rfl
/-- A register's word. -/
def regW : List UInt8 → Int
 | [b] => (b.toNat : Int) - 97
 | _ => -1
theorem regW_no {w : List UInt8} (h : w.length ≠ 1) : regW w = -1 := by
 match w, h with
 | [], _ => rfl
 | [_], h => exact absurd rfl h
 | _ :: _ :: _, _ => rfl
def setS (s : Stp) (c : Nat) (v : Int) : Stp := if c = 116 then { s with t := v } else if c = 97 then { s with a := v } else { s with b := v }
def fillS (ws : List (List UInt8)) : List UInt8 → Nat → Stp → Stp
 | [], _, s => s
 | c :: ls, i, s => fillS ws ls (i + 1) (if c.toNat = 110 then { s with n := bs (ws[i + 1]?.getD []) } else setS s c.toNat (regW (ws[i + 1]?.getD [])))
/-- What the program takes a line's words for: the forms from the one on that m are left of. -/
def stpF (ws : List (List UInt8)) : Nat → Stp
 | 0 => ⟨0, 0, 0, 0, ⟨#[]⟩⟩
 | m + 1 => if wdK (15 - m) = bs (ws[0]?.getD []) ∧ ws.length = (arK (ptK (15 - m))).size + 1 then fillS ws (arK (ptK (15 - m))).data.toList 0 ⟨(15 - m : Nat), 0, 0, 0, ⟨#[]⟩⟩ else stpF ws m
theorem stpF_step {ws : List (List UInt8)} {i : Nat} (h : i < 15) : stpF ws (15 - i) = if wdK (i + 1) = bs (ws[0]?.getD []) ∧ ws.length = (arK (ptK (i + 1))).size + 1 then fillS ws (arK (ptK (i + 1))).data.toList 0 ⟨(i + 1 : Nat), 0, 0, 0, ⟨#[]⟩⟩ else stpF ws (15 - (i + 1)) := by
 have e : 15 - i = (14 - i) + 1 := by omega
 rw [e, stpF, show 15 - (14 - i) = i + 1 by omega, show 15 - (i + 1) = 14 - i by omega]
def preS (w : World) : Prop := preF w ∧ preM w
theorem preS_kept : Kept preS := fun w w' hb h => ⟨preF_kept w w' hb h.1, preM_kept w w' hb h.2⟩
set_option maxHeartbeats 4000000 in
theorem am_scStep (l : List UInt8) (hl : l.length ≤ 20000) : FnP preS Tryd.prog 25 [.s (bs l)] (fun v => v = .agg ((stpD (stpF (prt (Lib.trimSuffix l [10])) 15)).map V.d)) := by
 have htrim := am_TrimS l (by omega)
 have hul := trim_len l
 obtain ⟨u, hu⟩ : ∃ u, Lib.trimSuffix l [10] = u := ⟨_, rfl⟩
 rw [hu] at htrim hul ⊢
 have hsp := (am_Split u (by omega)).pre (Pre' := preS) (fun w h => h.2)
 obtain ⟨p0, pr, hw0⟩ := prt_ne u
 have hwl := prt_len u
 obtain ⟨ws, hws⟩ : ∃ ws, prt u = ws := ⟨_, rfl⟩
 rw [hws] at hsp hw0 hwl ⊢
 obtain ⟨N, hN⟩ : ∃ N, ws.length = N := ⟨_, rfl⟩
 have hq0 : ws[0]? = some p0 := by rw [hw0]; rfl
 obtain ⟨R, hR⟩ : ∃ R, stpF ws 15 = R := ⟨_, rfl⟩
 rw [hR]
 rw [hN] at hwl
 clear hw0 hws hu
 refine FnP.intro (n := 67) ⟨Tryd.func25, rfl, rfl, rfl, rfl⟩ (by simp [V.pure, V.has, V.hasL]) (by simp) fun w0 out hpre => ?_
 have hfm := fms_cell hpre.1
 refine AW.seq ?_
 refine AW.region ?_
 refine AL.sm rfl (sm_alloc (l := [.d (.p (.int .i64 0)), .d (.p (.int .i64 0)), .d (.p (.int .i64 0)), .d (.p (.int .i64 0)), .d (.p (.string ⟨#[]⟩))]) 2 inf60 rfl (by first | rfl | simp [S.clean, S.put, S.newObj, S.forget, V.has, V.hasL, junkIf, setL, V.cs, hasL_i, hasL_d, hasL_b, hasL_s, hasL_n, hasL_rep, hasL_flat, hasL_append, -List.map_set]) rfl rfl) ?_
 refine AL.nil ?_
 try simp only [thenS, S.put, S.newObj, setL, V.cs, List.length_cons, List.length_nil, List.take_succ_cons, List.take_zero, List.drop_succ_cons, List.drop_zero, List.drop_nil, List.nil_append, List.cons_append, List.append_nil, Nat.zero_add, Nat.reduceAdd, List.map_cons, List.map_nil, List.set_cons_zero, List.set_cons_succ, enum]
 refine AW.seq ?_
 refine AW.region ?_
 refine AL.rp rfl rfl (rp_move rfl rfl) ?_
 refine AL.call (post := ?pc0) rfl (sm_call (args := [_, _]) ?hc0 ⟨Tryd.func19, rfl, rfl, rfl, rfl⟩ rfl rfl rfl rfl) ?_
 case hc0 => exact htrim
 rintro _ rfl -
 try dsimp only
 refine AL.call (post := ?pc1) rfl (sm_callP (args := [_, _]) (preS_kept) (by assumption) ?hc1 ⟨Tryd.func49, rfl, rfl, rfl, rfl⟩ rfl rfl rfl rfl) ?_
 case hc1 => exact hsp
 rintro _ rfl -
 try dsimp only
 refine AL.rp rfl rfl (rp_assign rfl rfl) ?_
 refine AL.nil ?_
 try simp only [thenS, S.put, S.newObj, setL, V.cs, List.length_cons, List.length_nil, List.take_succ_cons, List.take_zero, List.drop_succ_cons, List.drop_zero, List.drop_nil, List.nil_append, List.cons_append, List.append_nil, Nat.zero_add, Nat.reduceAdd, List.map_cons, List.map_nil, List.set_cons_zero, List.set_cons_succ]
 refine AW.seq ?_
 refine AW.seq ?_
 refine AW.region ?_
 refine AL.rd rfl rfl (rd_loadsG (fms) Tryd.underlying86 rfl inf86 rfl rfl rfl (by assumption)) ?_
 refine AL.rp rfl rfl (rp_move rfl rfl) ?_
 refine AL.nil ?_
 try simp only [thenS, S.put]
 refine AW.block ?_
 refine AW.loop (fun s' => ∃ i : Nat, i ≤ 15 ∧ stpF ws (15 - i) = R ∧ s' = ⟨67, [(2, .ref 2 0), (3, .d (strsD ws)), (13, .agg (fms.map fun v => .d (.p v))), (14, .i i)], [(2, ⟨60, [.i 0, .i 0, .i 0, .i 0, .s ⟨#[]⟩], false, 0⟩)], []⟩) (fun s' => 15 - s'.nat 14) ⟨_, ?_, 0, by omega, hR, rfl⟩ ?_
 ·exact (Less.of rfl (by repeat (first | exact trivial | refine ⟨⟨_, rfl, Wk.refl _⟩, ?_⟩ | refine ⟨⟨_, rfl, Wk.nil _ _⟩, ?_⟩ | refine ⟨⟨_, rfl, Wk.junk _⟩, ?_⟩)) (by repeat (first | exact trivial | refine ⟨rfl, ?_⟩)) rfl)
 rintro s' ⟨i, hi, hI, rfl⟩
 by_cases hlt : i < 15
 ·rw [stpF_step hlt, hq0, Option.getD_some, hN] at hI
  have hpart := fms_part i hlt
  have hp4 := ptK_lt (i + 1) (by omega)
  obtain ⟨p, hp⟩ : ∃ p, ptK (i + 1) = p := ⟨_, rfl⟩
  rw [hp] at hpart hI hp4
  have hal : (arK p).size ≤ 3 := by
   have := arK_len p hp4
   rw [show (arK p).size = (arK p).data.toList.length from Array.length_toList.symm]
   exact this
  by_cases hw : wdK (i + 1) = bs p0
  ·by_cases hn : N = (arK p).size + 1
   ·rw [if_pos ⟨hw, hn⟩] at hI
    have hlet := arK_let p hp4
    obtain ⟨ls, hls⟩ : ∃ ls, (arK p).data.toList = ls := ⟨_, rfl⟩
    obtain ⟨len, hln⟩ : ∃ n, ls.length = n := ⟨_, rfl⟩
    have hsz : (arK p).size = len := by rw [← hln, ← hls]; exact Array.length_toList.symm
    rw [hls] at hlet hI
    have hN2 : N = len + 1 := by omega
    refine AW.seq ?_
    refine AW.region ?_
    (first | (refine AL.rp rfl rfl (rp_lssT rfl rfl rfl (by first | assumption | omega | (dsimp only; omega))) ?_) | (refine AL.rp rfl rfl (rp_lssF rfl rfl rfl (by first | assumption | omega | (dsimp only; omega))) ?_) | (refine AL.rp rfl rfl (rp_lss rfl rfl rfl) ?_))
    refine AL.nil ?_
    try simp only [thenS, S.put]
    refine AW.seq ?_
    refine AW.condT rfl ?_
    refine AW.skip ?_
    try simp only [thenS]
    refine AW.seq ?_
    refine AW.block ?_
    refine AW.seq ?_
    refine AW.region ?_
    refine AL.rp rfl rfl (rp_index_agg (i) Tryd.underlying86 inf85 Tryd.underlying85 rfl rfl rfl rfl (by first | rfl | omega) (by omega) (by first | assumption | rfl)) ?_
    refine AL.sm rfl (sm_alloc (l := [.d (.p (.int .i64 0)), .d (.p (.string ⟨#[]⟩)), .d (.p (.string ⟨#[]⟩))]) 5 inf85 rfl (by first | rfl | simp [S.clean, S.put, S.newObj, S.forget, V.has, V.hasL, junkIf, setL, V.cs, hasL_i, hasL_d, hasL_b, hasL_s, hasL_n, hasL_rep, hasL_flat, hasL_append, -List.map_set]) rfl rfl) ?_
    refine AL.st rfl (st_store_any inf85 rfl rfl rfl rfl rfl rfl rfl rfl (by first | decide | (simp; done) | (simp; omega)) rfl) ?_
    refine AL.nil ?_
    try simp only [thenS, S.put, S.newObj, setL, V.cs, List.length_cons, List.length_nil, List.take_succ_cons, List.take_zero, List.drop_succ_cons, List.drop_zero, List.drop_nil, List.nil_append, List.cons_append, List.append_nil, Nat.zero_add, Nat.reduceAdd, List.map_cons, List.map_nil, List.set_cons_zero, List.set_cons_succ]
    refine AW.seq ?_
    refine AW.seq ?_
    refine AW.draw [(0, true), (1, true), (2, true), (3, true), (4, true), (5, true), (6, true), (7, true), (8, true), (9, true), (10, true), (11, true), (12, true), (13, true), (14, true)] (fun i => !([] : List Nat).contains i) 15 (by kernel_rfl) (by kernel_rfl) rfl (by kernel_rfl) ?_
    (first | (refine AD1.rp rfl rfl rfl (fun _ _ h => h) (rp_field_ref Tryd.underlying85 rfl rfl rfl inf9 (by decide) rfl) ?_) | (refine AD1.rp rfl rfl rfl (fun _ _ h => h) (rp_field_ad Tryd.underlying85 rfl rfl rfl inf9 (by decide) rfl) ?_))
    (first | (refine AD1.rd rfl rfl rfl (fun _ _ h => h) (rd_load_ref Tryd.underlying9 rfl rfl rfl rfl rfl rfl) ?_) | (refine AD1.rd rfl rfl rfl (fun _ _ h => h) (rd_load_ad Tryd.underlying9 rfl rfl rfl rfl) ?_) | (refine AD1.rd rfl rfl rfl (fun _ _ h => h) (rd_load_map Tryd.underlying9 rfl rfl rfl rfl rfl rfl (by assumption)) ?_) | (refine AD1.rd rfl rfl rfl (fun _ _ h => h) (rd_load_flat Tryd.underlying9 rfl rfl rfl rfl rfl rfl (fun _ => rfl) (by assumption) rfl) ?_))
    refine AD1.rp rfl rfl rfl (fun _ _ h => h) (rp_move rfl rfl) ?_
    (first | (refine AD1.rp rfl rfl rfl (fun _ _ h => h) (rp_index_own (k := 0) Tryd.underlying53 inf9 rfl rfl rfl (by omega) (by omega)) ?_) | (refine AD1.rp rfl rfl rfl (fun _ _ h => h) (rp_index_map (k := 0) Tryd.underlying53 inf9 rfl rfl rfl (by omega) (by assumption)) ?_))
    (first | (refine AD1.rd rfl rfl rfl (fun _ _ h => h) (rd_load_ref Tryd.underlying9 rfl rfl rfl rfl rfl rfl) ?_) | (refine AD1.rd rfl rfl rfl (fun _ _ h => h) (rd_load_ad Tryd.underlying9 rfl rfl rfl rfl) ?_) | (refine AD1.rd rfl rfl rfl (fun _ _ h => h) (rd_load_map Tryd.underlying9 rfl rfl rfl rfl rfl rfl (by assumption)) ?_) | (refine AD1.rd rfl rfl rfl (fun _ _ h => h) (rd_load_flat Tryd.underlying9 rfl rfl rfl rfl rfl rfl (fun _ => rfl) (by assumption) rfl) ?_))
    (first | (refine AD1.rp rfl rfl rfl (fun _ _ h => h) (rp_neqsF rfl rfl rfl (by assumption)) ?_) | (refine AD1.rp rfl rfl rfl (fun _ _ h => h) (rp_neqsT rfl rfl rfl (by assumption)) ?_) | (refine AD1.rp rfl rfl rfl (fun _ _ h => h) (rp_neqs rfl rfl rfl) ?_))
    refine AD1.rp rfl rfl rfl (fun _ _ h => h) (rp_move rfl rfl) ?_
    (first | (refine AD1.noV rfl rfl rfl rfl rfl (fun _ _ h => h) ?_) | (refine AD1.noU rfl rfl ⟨_, rfl, rfl⟩ rfl (fun _ _ h => h) ?_) | (refine AD1.rpy rfl rfl rfl rfl (fun _ _ h => h) (rp_move rfl rfl) ?_))
    (first | (refine AD1.noV rfl rfl rfl rfl rfl (fun _ _ h => h) ?_) | (refine AD1.noU rfl rfl ⟨_, rfl, rfl⟩ rfl (fun _ _ h => h) ?_) | (refine AD1.rpy rfl rfl rfl rfl (fun _ _ h => h) (rp_len_map Tryd.underlying53 rfl rfl (by assumption)) ?_) | (refine AD1.rpy rfl rfl rfl rfl (fun _ _ h => h) (rp_len_own Tryd.underlying53 rfl rfl) ?_) | (refine AD1.rpy rfl rfl rfl rfl (fun _ _ h => h) (rp_len_sl Tryd.underlying53 rfl rfl) ?_) | (refine AD1.rpy rfl rfl rfl rfl (fun _ _ h => h) (rp_len_nil Tryd.underlying53 rfl rfl) ?_) | (refine AD1.rpy rfl rfl rfl rfl (fun _ _ h => h) (rp_len_str Tryd.underlying53 rfl rfl) ?_))
    (first | (refine AD1.noV rfl rfl rfl rfl rfl (fun _ _ h => h) ?_) | (refine AD1.noU rfl rfl ⟨_, rfl, rfl⟩ rfl (fun _ _ h => h) ?_) | (refine AD1.rpy rfl rfl rfl rfl (fun _ _ h => h) (rp_field_ref Tryd.underlying85 rfl rfl rfl inf9 (by decide) rfl) ?_) | (refine AD1.rpy rfl rfl rfl rfl (fun _ _ h => h) (rp_field_ad Tryd.underlying85 rfl rfl rfl inf9 (by decide) rfl) ?_))
    (first | (refine AD1.noV rfl rfl rfl rfl rfl (fun _ _ h => h) ?_) | (refine AD1.noU rfl rfl ⟨_, rfl, rfl⟩ rfl (fun _ _ h => h) ?_) | (refine AD1.rdy rfl rfl rfl rfl (fun _ _ h => h) (rd_load_ref Tryd.underlying9 rfl rfl rfl rfl rfl rfl) ?_) | (refine AD1.rdy rfl rfl rfl rfl (fun _ _ h => h) (rd_load_ad Tryd.underlying9 rfl rfl rfl rfl) ?_) | (refine AD1.rdy rfl rfl rfl rfl (fun _ _ h => h) (rd_load_map Tryd.underlying9 rfl rfl rfl rfl rfl rfl (by assumption)) ?_) | (refine AD1.rdy rfl rfl rfl rfl (fun _ _ h => h) (rd_load_flat Tryd.underlying9 rfl rfl rfl rfl rfl rfl (fun _ => rfl) (by assumption) rfl) ?_))
    (first | (refine AD1.noV rfl rfl rfl rfl rfl (fun _ _ h => h) ?_) | (refine AD1.noU rfl rfl ⟨_, rfl, rfl⟩ rfl (fun _ _ h => h) ?_) | (refine AD1.rpy rfl rfl rfl rfl (fun _ _ h => h) (rp_len_map Tryd.underlying9 rfl rfl (by assumption)) ?_) | (refine AD1.rpy rfl rfl rfl rfl (fun _ _ h => h) (rp_len_own Tryd.underlying9 rfl rfl) ?_) | (refine AD1.rpy rfl rfl rfl rfl (fun _ _ h => h) (rp_len_sl Tryd.underlying9 rfl rfl) ?_) | (refine AD1.rpy rfl rfl rfl rfl (fun _ _ h => h) (rp_len_nil Tryd.underlying9 rfl rfl) ?_) | (refine AD1.rpy rfl rfl rfl rfl (fun _ _ h => h) (rp_len_str Tryd.underlying9 rfl rfl) ?_))
    (first | (refine AD1.noV rfl rfl rfl rfl rfl (fun _ _ h => h) ?_) | (refine AD1.noU rfl rfl ⟨_, rfl, rfl⟩ rfl (fun _ _ h => h) ?_) | (refine AD1.rpy rfl rfl rfl rfl (fun _ _ h => h) (rp_add rfl rfl rfl (by first | omega | (dsimp only; omega))) ?_))
    (first | (refine AD1.noV rfl rfl rfl rfl rfl (fun _ _ h => h) ?_) | (refine AD1.noU rfl rfl ⟨_, rfl, rfl⟩ rfl (fun _ _ h => h) ?_) | (refine AD1.rpy rfl rfl rfl rfl (fun _ _ h => h) (rp_neqT rfl rfl rfl (by first | assumption | omega | (dsimp only; omega))) ?_) | (refine AD1.rpy rfl rfl rfl rfl (fun _ _ h => h) (rp_neqF rfl rfl rfl (by first | assumption | omega | (dsimp only; omega))) ?_) | (refine AD1.rpy rfl rfl rfl rfl (fun _ _ h => h) (rp_neq rfl rfl rfl) ?_))
    refine AD1.rp rfl rfl rfl (fun _ _ h => h) (rp_pick rfl rfl rfl) ?_
    refine AD1.nil ?_
    try simp only [thenS, S.put]
    refine AW.condF rfl ?_
    refine AW.skip ?_
    try simp only [thenS]
    refine AW.seq ?_
    refine AW.region ?_
    (first | (refine AL.rp rfl rfl (rp_field_ref Tryd.underlying85 rfl rfl rfl inf3 (by decide) rfl) ?_) | (refine AL.rp rfl rfl (rp_field_ad Tryd.underlying85 rfl rfl rfl inf3 (by decide) rfl) ?_))
    (first | (refine AL.rd rfl rfl (rd_load_ref Tryd.underlying3 rfl rfl rfl rfl rfl rfl) ?_) | (refine AL.rd rfl rfl (rd_load_ad Tryd.underlying3 rfl rfl rfl rfl) ?_) | (refine AL.rd rfl rfl (rd_load_map Tryd.underlying3 rfl rfl rfl rfl rfl rfl (by assumption)) ?_) | (refine AL.rd rfl rfl (rd_load_flat Tryd.underlying3 rfl rfl rfl rfl rfl rfl (fun _ => rfl) (by assumption) rfl) ?_))
    refine AL.rp rfl rfl (rp_build (vs := [(0, _)]) (zs := [.d (.p (.int .i64 0)), .d (.p (.int .i64 0)), .d (.p (.int .i64 0)), .d (.p (.int .i64 0)), .d (.p (.string ⟨#[]⟩))]) pl60 inf60 rfl rfl rfl rfl) ?_
    refine AL.sm rfl (sm_alloc (l := [.d (.p (.int .i64 0)), .d (.p (.int .i64 0)), .d (.p (.int .i64 0)), .d (.p (.int .i64 0)), .d (.p (.string ⟨#[]⟩))]) 6 inf60 rfl (by first | rfl | simp [S.clean, S.put, S.newObj, S.forget, V.has, V.hasL, junkIf, setL, V.cs, hasL_i, hasL_d, hasL_b, hasL_s, hasL_n, hasL_rep, hasL_flat, hasL_append, -List.map_set]) rfl rfl) ?_
    refine AL.st rfl (st_store_any inf60 rfl rfl rfl rfl rfl rfl rfl rfl (by first | decide | (simp; done) | (simp; omega)) rfl) ?_
    refine AL.nil ?_
    try simp only [thenS, S.put, S.newObj, setL, V.cs, List.length_cons, List.length_nil, List.take_succ_cons, List.take_zero, List.drop_succ_cons, List.drop_zero, List.drop_nil, List.nil_append, List.cons_append, List.append_nil, Nat.zero_add, Nat.reduceAdd, List.map_cons, List.map_nil, List.set_cons_zero, List.set_cons_succ]
    refine AW.seq ?_
    refine AW.seq ?_
    refine AW.region ?_
    (first | (refine AL.rp rfl rfl (rp_field_ref Tryd.underlying85 rfl rfl rfl inf9 (by decide) rfl) ?_) | (refine AL.rp rfl rfl (rp_field_ad Tryd.underlying85 rfl rfl rfl inf9 (by decide) rfl) ?_))
    (first | (refine AL.rd rfl rfl (rd_load_ref Tryd.underlying9 rfl rfl rfl rfl rfl rfl) ?_) | (refine AL.rd rfl rfl (rd_load_ad Tryd.underlying9 rfl rfl rfl rfl) ?_) | (refine AL.rd rfl rfl (rd_load_map Tryd.underlying9 rfl rfl rfl rfl rfl rfl (by assumption)) ?_) | (refine AL.rd rfl rfl (rd_load_flat Tryd.underlying9 rfl rfl rfl rfl rfl rfl (fun _ => rfl) (by assumption) rfl) ?_))
    refine AL.sm rfl (sm_range 700 Tryd.underlying9 rfl rfl (by first | rfl | simp [S.clean, S.put, S.newObj, S.forget, V.has, V.hasL, junkIf, setL, V.cs, hasL_i, hasL_d, hasL_b, hasL_s, hasL_n, hasL_rep, hasL_flat, hasL_append, -List.map_set]) rfl) ?_
    refine AL.nil ?_
    try simp only [thenS, S.put, S.newObj, setL, V.cs, List.length_cons, List.length_nil, List.take_succ_cons, List.take_zero, List.drop_succ_cons, List.drop_zero, List.drop_nil, List.nil_append, List.cons_append, List.append_nil, Nat.zero_add, Nat.reduceAdd, List.map_cons, List.map_nil, List.set_cons_zero, List.set_cons_succ]
    refine AW.block ?_
    refine AW.loopN (fun μ s' => ∃ (j : Nat) (S : Stp), j + μ = len ∧ S.k = (i + 1 : Nat) ∧ fillS ws (ls.drop j) j S = R ∧ s' = ⟨67, [(2, .ref 2 0), (3, .d (strsD ws)), (6, .ref 6 0), (37, .it 700 w0.heap.size (arK p) j)], [(2, ⟨60, [.i 0, .i 0, .i 0, .i 0, .s ⟨#[]⟩], false, 0⟩), (6, ⟨60, [.i (i + 1 : Nat), .i S.t, .i S.a, .i S.b, .s S.n], false, 0⟩)], []⟩) ⟨len, _, ?_, 0, ⟨(i + 1 : Nat), 0, 0, 0, ⟨#[]⟩⟩, by omega, rfl, hI, rfl⟩ ?_
    ·exact (Less.of rfl (by repeat (first | exact trivial | refine ⟨⟨_, rfl, Wk.refl _⟩, ?_⟩ | refine ⟨⟨_, rfl, Wk.nil _ _⟩, ?_⟩ | refine ⟨⟨_, rfl, Wk.junk _⟩, ?_⟩)) (by repeat (first | exact trivial | refine ⟨rfl, ?_⟩)) rfl)
    rintro μ s' ⟨j, ⟨Sk, St, Sa, Sb, Sn⟩, hj, hSk, hF, rfl⟩
    simp only at hSk
    subst hSk
    dsimp only
    by_cases hjl : j < len
    ·obtain ⟨b, hb⟩ : ∃ b, ls[j]? = some b := ⟨_, List.getElem?_eq_getElem (by omega)⟩
     have hb' : (arK p).data.toList[j]? = some b := by rw [hls]; exact hb
     obtain ⟨wd, hwd⟩ : ∃ wd, ws[j + 1]? = some wd := ⟨_, List.getElem?_eq_getElem (by omega)⟩
     rw [drop_get hb, fillS, hwd, Option.getD_some] at hF
     have hb4 := hlet b (List.mem_of_getElem? hb)
     have hwz := bs_size wd
     by_cases h110 : b.toNat = 110
     ·rw [if_pos h110] at hF
      dsimp only at hF
      refine AW.seq ?_
      refine AW.region ?_
      (first | (refine AL.st rfl (st_next rfl rfl (by assumption) (by omega) rfl (by first | rfl | (simp [S.put, S.newObj, setL, V.cs, V.mpsL, V.mps, D.mps, D.mpsL, D.mpsR]; done)) (by first | rfl | (simp [S.put, S.newObj, setL, V.cs, V.mpsL, V.mps, D.mps, D.mpsL, D.mpsR]; done)) (by first | rfl | (simp [S.put]; done)) rfl) ?_; simp only [S.put, List.map_cons, List.map_nil, upI_p, upI_ref, upI_junk, upI_it, upI_strs]) | (refine AL.rd rfl rfl (rd_nextEnd rfl rfl (by omega)) ?_))
      refine AL.rp rfl rfl (rp_extract rfl rfl rfl) ?_
      refine AL.nil ?_
      try simp only [thenS, S.put, S.newObj, setL, V.cs, List.length_cons, List.length_nil, List.take_succ_cons, List.take_zero, List.drop_succ_cons, List.drop_zero, List.drop_nil, List.nil_append, List.cons_append, List.append_nil, Nat.zero_add, Nat.reduceAdd, List.map_cons, List.map_nil, List.set_cons_zero, List.set_cons_succ]
      refine AW.seq ?_
      refine AW.condT rfl ?_
      refine AW.skip ?_
      try simp only [thenS]
      refine AW.block ?_
      refine AW.seq ?_
      refine AW.region ?_
      refine AL.rp rfl rfl (rp_extract rfl rfl rfl) ?_
      refine AL.rp rfl rfl (rp_extract rfl rfl rfl) ?_
      refine AL.rp rfl rfl (rp_assign rfl rfl) ?_
      refine AL.rp rfl rfl (rp_assign rfl rfl) ?_
      refine AL.nil ?_
      try simp only [thenS, S.put]
      refine AW.seq ?_
      refine AW.region ?_
      refine AL.rp rfl rfl (rp_move rfl rfl) ?_
      refine AL.rp rfl rfl (rp_move rfl rfl) ?_
      refine AL.rp rfl rfl (rp_add rfl rfl rfl (by first | omega | (dsimp only; omega))) ?_
      (first | (refine AL.rp rfl rfl (rp_index_own (k := j + 1) Tryd.underlying53 inf9 rfl rfl rfl (by omega) (by omega)) ?_) | (refine AL.rp rfl rfl (rp_index_map (k := j + 1) Tryd.underlying53 inf9 rfl rfl rfl (by omega) (by assumption)) ?_))
      (first | (refine AL.rd rfl rfl (rd_load_ref Tryd.underlying9 rfl rfl rfl rfl rfl rfl) ?_) | (refine AL.rd rfl rfl (rd_load_ad Tryd.underlying9 rfl rfl rfl rfl) ?_) | (refine AL.rd rfl rfl (rd_load_map Tryd.underlying9 rfl rfl rfl rfl rfl rfl (by assumption)) ?_) | (refine AL.rd rfl rfl (rd_load_flat Tryd.underlying9 rfl rfl rfl rfl rfl rfl (fun _ => rfl) (by assumption) rfl) ?_))
      refine AL.rp rfl rfl (rp_assign rfl rfl) ?_
      refine AL.nil ?_
      try simp only [thenS, S.put]
      refine AW.seq ?_
      refine AW.region ?_
      refine AL.rp rfl rfl (rp_move rfl rfl) ?_
      (first | (refine AL.rp rfl rfl (rp_eqlT rfl rfl rfl (by first | assumption | omega | (dsimp only; omega))) ?_) | (refine AL.rp rfl rfl (rp_eqlF rfl rfl rfl (by first | assumption | omega | (dsimp only; omega))) ?_) | (refine AL.rp rfl rfl (rp_eql rfl rfl rfl) ?_))
      refine AL.nil ?_
      try simp only [thenS, S.put]
      refine AW.condT rfl ?_
      refine AW.region ?_
      refine AL.rp rfl rfl (rp_move rfl rfl) ?_
      (first | (refine AL.rp rfl rfl (rp_field_ref Tryd.underlying60 rfl rfl rfl inf9 (by decide) rfl) ?_) | (refine AL.rp rfl rfl (rp_field_ad Tryd.underlying60 rfl rfl rfl inf9 (by decide) rfl) ?_))
      (first | (refine AL.st rfl (st_store_map2 inf9 rfl rfl rfl rfl rfl rfl rfl rfl (by first | assumption | omega)) ?_) | (refine AL.st rfl (st_store inf9 rfl rfl rfl rfl rfl rfl rfl (by first | decide | (simp; done)) rfl) ?_))
      refine AL.nil ?_
      try simp only [thenS, S.put, S.newObj, setL, V.cs, List.length_cons, List.length_nil, List.take_succ_cons, List.take_zero, List.drop_succ_cons, List.drop_zero, List.drop_nil, List.nil_append, List.cons_append, List.append_nil, Nat.zero_add, Nat.reduceAdd, List.map_cons, List.map_nil, List.set_cons_zero, List.set_cons_succ]
      refine ⟨μ - 1, _, ?_, ⟨j + 1, ⟨(i + 1 : Nat), St, Sa, Sb, bs wd⟩, by omega, rfl, hF, rfl⟩, by omega⟩
      exact (Less.of rfl (by repeat (first | exact trivial | refine ⟨⟨_, rfl, Wk.refl _⟩, ?_⟩ | refine ⟨⟨_, rfl, Wk.nil _ _⟩, ?_⟩ | refine ⟨⟨_, rfl, Wk.junk _⟩, ?_⟩)) (by repeat (first | exact trivial | refine ⟨rfl, ?_⟩)) rfl)
     ·rw [if_neg h110] at hF
      by_cases h116 : b.toNat = 116
      ·skip
       by_cases h1 : wd.length = 1
       ·obtain ⟨b0, rfl⟩ : ∃ b0, wd = [b0] := List.length_eq_one_iff.1 h1
        have hb0 : (bs [b0]).data.toList[0]? = some b0 := rfl
        have hF' : fillS ws (ls.drop (j + 1)) (j + 1) ⟨(i + 1 : Nat), ((b0.toNat : Int) - 97), Sa, Sb, Sn⟩ = R := by rw [← hF]; simp [setS, h116, regW]
        have hlo := b0.toNat_lt
        refine AW.seq ?_
        refine AW.region ?_
        (first | (refine AL.st rfl (st_next rfl rfl (by assumption) (by omega) rfl (by first | rfl | (simp [S.put, S.newObj, setL, V.cs, V.mpsL, V.mps, D.mps, D.mpsL, D.mpsR]; done)) (by first | rfl | (simp [S.put, S.newObj, setL, V.cs, V.mpsL, V.mps, D.mps, D.mpsL, D.mpsR]; done)) (by first | rfl | (simp [S.put]; done)) rfl) ?_; simp only [S.put, List.map_cons, List.map_nil, upI_p, upI_ref, upI_junk, upI_it, upI_strs]) | (refine AL.rd rfl rfl (rd_nextEnd rfl rfl (by omega)) ?_))
        refine AL.rp rfl rfl (rp_extract rfl rfl rfl) ?_
        refine AL.nil ?_
        try simp only [thenS, S.put, S.newObj, setL, V.cs, List.length_cons, List.length_nil, List.take_succ_cons, List.take_zero, List.drop_succ_cons, List.drop_zero, List.drop_nil, List.nil_append, List.cons_append, List.append_nil, Nat.zero_add, Nat.reduceAdd, List.map_cons, List.map_nil, List.set_cons_zero, List.set_cons_succ]
        refine AW.seq ?_
        refine AW.condT rfl ?_
        refine AW.skip ?_
        try simp only [thenS]
        refine AW.block ?_
        refine AW.seq ?_
        refine AW.region ?_
        refine AL.rp rfl rfl (rp_extract rfl rfl rfl) ?_
        refine AL.rp rfl rfl (rp_extract rfl rfl rfl) ?_
        refine AL.rp rfl rfl (rp_assign rfl rfl) ?_
        refine AL.rp rfl rfl (rp_assign rfl rfl) ?_
        refine AL.nil ?_
        try simp only [thenS, S.put]
        refine AW.seq ?_
        refine AW.region ?_
        refine AL.rp rfl rfl (rp_move rfl rfl) ?_
        refine AL.rp rfl rfl (rp_move rfl rfl) ?_
        refine AL.rp rfl rfl (rp_add rfl rfl rfl (by first | omega | (dsimp only; omega))) ?_
        (first | (refine AL.rp rfl rfl (rp_index_own (k := j + 1) Tryd.underlying53 inf9 rfl rfl rfl (by omega) (by omega)) ?_) | (refine AL.rp rfl rfl (rp_index_map (k := j + 1) Tryd.underlying53 inf9 rfl rfl rfl (by omega) (by assumption)) ?_))
        (first | (refine AL.rd rfl rfl (rd_load_ref Tryd.underlying9 rfl rfl rfl rfl rfl rfl) ?_) | (refine AL.rd rfl rfl (rd_load_ad Tryd.underlying9 rfl rfl rfl rfl) ?_) | (refine AL.rd rfl rfl (rd_load_map Tryd.underlying9 rfl rfl rfl rfl rfl rfl (by assumption)) ?_) | (refine AL.rd rfl rfl (rd_load_flat Tryd.underlying9 rfl rfl rfl rfl rfl rfl (fun _ => rfl) (by assumption) rfl) ?_))
        refine AL.rp rfl rfl (rp_assign rfl rfl) ?_
        refine AL.nil ?_
        try simp only [thenS, S.put]
        refine AW.seq ?_
        refine AW.region ?_
        refine AL.rp rfl rfl (rp_move rfl rfl) ?_
        (first | (refine AL.rp rfl rfl (rp_eqlT rfl rfl rfl (by first | assumption | omega | (dsimp only; omega))) ?_) | (refine AL.rp rfl rfl (rp_eqlF rfl rfl rfl (by first | assumption | omega | (dsimp only; omega))) ?_) | (refine AL.rp rfl rfl (rp_eql rfl rfl rfl) ?_))
        refine AL.nil ?_
        try simp only [thenS, S.put]
        refine AW.condF rfl ?_
        refine AW.seq ?_
        refine AW.region ?_
        refine AL.rp rfl rfl (rp_move rfl rfl) ?_
        (first | (refine AL.rp rfl rfl (rp_len_map Tryd.underlying9 rfl rfl (by assumption)) ?_) | (refine AL.rp rfl rfl (rp_len_own Tryd.underlying9 rfl rfl) ?_) | (refine AL.rp rfl rfl (rp_len_sl Tryd.underlying9 rfl rfl) ?_) | (refine AL.rp rfl rfl (rp_len_nil Tryd.underlying9 rfl rfl) ?_) | (refine AL.rp rfl rfl (rp_len_str Tryd.underlying9 rfl rfl) ?_))
        (first | (refine AL.rp rfl rfl (rp_eqlT rfl rfl rfl (by first | assumption | omega | (dsimp only; omega))) ?_) | (refine AL.rp rfl rfl (rp_eqlF rfl rfl rfl (by first | assumption | omega | (dsimp only; omega))) ?_) | (refine AL.rp rfl rfl (rp_eql rfl rfl rfl) ?_))
        refine AL.nil ?_
        try simp only [thenS, S.put]
        refine AW.condT rfl ?_
        refine AW.drawT (N := ?N3) (l := #[false, false, false, false, false, false, false, false]) 8 (by kernel_rfl) rfl rfl ?_ ?_
        rotate_left
        refine AN.rp (i := 0) (l' := #[true, false, false, false, false, false, false, false]) rfl rfl rfl (fun _ _ h => h) (by kernel_rfl) rfl (rp_move rfl rfl) ?_
        refine AN.rp (i := 2) (l' := #[true, false, true, false, false, false, false, false]) rfl rfl rfl (fun _ _ h => h) (by kernel_rfl) rfl (rp_move rfl rfl) ?_
        refine AN.br2 (i := 1) (j := 3) (by kernel_rfl) ?_ ?_
        ·refine BR.mk (l' := #[true, true, true, false, false, false, false, false]) rfl rfl rfl ?_
         try simp only [S.put, S.newObj, setL, V.cs, List.length_cons, List.length_nil, List.take_succ_cons, List.take_zero, List.drop_succ_cons, List.drop_zero, List.drop_nil, List.nil_append, List.cons_append, List.append_nil, Nat.zero_add, Nat.reduceAdd]
         refine ST.pc [2, 3, 6, 9, 37, 56] (ts := [_, _, _, _, _, _]) (args := [_, _]) (post := ?pc3) ?hc3 rfl rfl rfl rfl rfl rfl rfl rfl rfl ?_
         case hc3 => (refine pc_fieldT 6 (b.toNat : Int) (by omega) _ _ <;> first | rfl | (simp [V.lowL, V.low]; done))
         rintro _ _ _ ⟨rfl, rfl, rfl⟩
         simp only [back, S.put, List.cons_append, List.nil_append, List.zip_cons_cons, List.zip_nil_left, List.drop_succ_cons, List.drop_zero, List.length_cons, List.length_nil, Nat.zero_add, Nat.reduceAdd]
         refine AN.br1 (i := 3) (by kernel_rfl) ?_
         refine BR.mk (l' := #[true, true, true, true, false, false, false, false]) rfl rfl rfl ?_
         refine ST.rp rfl (rp_index_str Tryd.underlying9 rfl rfl rfl (by first | rfl | omega) (by assumption)) ?_
         refine AN.rp (i := 4) (l' := #[true, true, true, true, true, false, false, false]) rfl rfl rfl (fun _ _ h => h) (by kernel_rfl) rfl (rp_conv Tryd.underlying5 (by intro e h; cases h) (by intro h; cases h) Tryd.underlying3 rfl rfl (r := _) (by first | (rw [wrap8]; omega) | (rw [wrap8]; dsimp only; omega) | (rw [wrap16]; omega) | (rw [wrap64 (by omega)] <;> omega) | (rw [wrapU64 (by omega)] <;> omega))) ?_
         refine AN.rp (i := 5) (l' := #[true, true, true, true, true, true, false, false]) rfl rfl rfl (fun _ _ h => h) (by kernel_rfl) rfl (rp_sub rfl rfl rfl (by first | omega | (dsimp only; omega))) ?_
         (first | (refine AN.rp (i := 6) (l' := #[true, true, true, true, true, true, true, false]) rfl rfl rfl (fun _ _ h => h) (by kernel_rfl) rfl (rp_nilCheck rfl rfl) ?_) | (refine AN.rp (i := 6) (l' := #[true, true, true, true, true, true, true, false]) rfl rfl rfl (fun _ _ h => h) (by kernel_rfl) rfl (rp_nilCheck_ad rfl rfl) ?_))
         refine AN.br1 (i := 7) (by kernel_rfl) ?_
         refine BR.mk (l' := #[true, true, true, true, true, true, true, true]) rfl rfl rfl ?_
         (first | (refine ST.st (st_store_map2 inf3 rfl rfl rfl rfl rfl rfl rfl rfl (by first | assumption | omega)) ?_) | (refine ST.st (st_store inf3 rfl rfl rfl rfl rfl rfl rfl (by first | decide | (simp; done)) rfl) ?_))
         refine AN.nil (by kernel_rfl) ?_
         show Less _ _
         exact Less.dd _
        ·refine BR.mk (l' := #[true, false, true, true, false, false, false, false]) rfl rfl rfl ?_
         refine ST.rp rfl (rp_index_str Tryd.underlying9 rfl rfl rfl (by first | rfl | omega) (by assumption)) ?_
         refine AN.rp (i := 4) (l' := #[true, false, true, true, true, false, false, false]) rfl rfl rfl (fun _ _ h => h) (by kernel_rfl) rfl (rp_conv Tryd.underlying5 (by intro e h; cases h) (by intro h; cases h) Tryd.underlying3 rfl rfl (r := _) (by first | (rw [wrap8]; omega) | (rw [wrap8]; dsimp only; omega) | (rw [wrap16]; omega) | (rw [wrap64 (by omega)] <;> omega) | (rw [wrapU64 (by omega)] <;> omega))) ?_
         refine AN.rp (i := 5) (l' := #[true, false, true, true, true, true, false, false]) rfl rfl rfl (fun _ _ h => h) (by kernel_rfl) rfl (rp_sub rfl rfl rfl (by first | omega | (dsimp only; omega))) ?_
         refine AN.br1 (i := 1) (by kernel_rfl) ?_
         refine BR.mk (l' := #[true, true, true, true, true, true, false, false]) rfl rfl rfl ?_
         try simp only [S.put, S.newObj, setL, V.cs, List.length_cons, List.length_nil, List.take_succ_cons, List.take_zero, List.drop_succ_cons, List.drop_zero, List.drop_nil, List.nil_append, List.cons_append, List.append_nil, Nat.zero_add, Nat.reduceAdd]
         refine ST.pc [2, 3, 6, 9, 37, 56, 57, 58, 59] (ts := [_, _, _, _, _, _, _, _, _]) (args := [_, _]) (post := ?pc4) ?hc4 rfl rfl rfl rfl rfl rfl rfl rfl rfl ?_
         case hc4 => (refine pc_fieldT 6 (b.toNat : Int) (by omega) _ _ <;> first | rfl | (simp [V.lowL, V.low]; done))
         rintro _ _ _ ⟨rfl, rfl, rfl⟩
         simp only [back, S.put, List.cons_append, List.nil_append, List.zip_cons_cons, List.zip_nil_left, List.drop_succ_cons, List.drop_zero, List.length_cons, List.length_nil, Nat.zero_add, Nat.reduceAdd]
         (first | (refine AN.rp (i := 6) (l' := #[true, true, true, true, true, true, true, false]) rfl rfl rfl (fun _ _ h => h) (by kernel_rfl) rfl (rp_nilCheck rfl rfl) ?_) | (refine AN.rp (i := 6) (l' := #[true, true, true, true, true, true, true, false]) rfl rfl rfl (fun _ _ h => h) (by kernel_rfl) rfl (rp_nilCheck_ad rfl rfl) ?_))
         refine AN.br1 (i := 7) (by kernel_rfl) ?_
         refine BR.mk (l' := #[true, true, true, true, true, true, true, true]) rfl rfl rfl ?_
         (first | (refine ST.st (st_store_map2 inf3 rfl rfl rfl rfl rfl rfl rfl rfl (by first | assumption | omega)) ?_) | (refine ST.st (st_store inf3 rfl rfl rfl rfl rfl rfl rfl (by first | decide | (simp; done)) rfl) ?_))
         refine AN.nil (by kernel_rfl) ?_
         show Less _ _
         (try simp only [S.put, S.newObj, setL, V.cs, List.length_cons, List.length_nil, List.take_succ_cons, List.take_zero, List.drop_succ_cons, List.drop_zero, List.drop_nil, List.nil_append, List.cons_append, List.append_nil, Nat.zero_add, Nat.reduceAdd, List.map_cons, List.map_nil, List.set_cons_zero, List.set_cons_succ])
         try simp only [S.dd, ddL, List.contains_cons, List.contains_nil, Nat.reduceBEq, beq_self_eq_true, Bool.or_false, Bool.or_true, Bool.false_or, Bool.true_or, Bool.or_self, if_true, if_false, Bool.false_eq_true, ↓reduceIte]
         exact (Less.of rfl (by repeat (first | exact trivial | refine ⟨⟨_, rfl, Wk.refl _⟩, ?_⟩)) (by repeat (first | exact trivial | refine ⟨rfl, ?_⟩)) rfl)
        (try simp only [S.put, S.newObj, setL, V.cs, List.length_cons, List.length_nil, List.take_succ_cons, List.take_zero, List.drop_succ_cons, List.drop_zero, List.drop_nil, List.nil_append, List.cons_append, List.append_nil, Nat.zero_add, Nat.reduceAdd, List.map_cons, List.map_nil, List.set_cons_zero, List.set_cons_succ])
        try simp only [S.dd, ddL, List.contains_cons, List.contains_nil, Nat.reduceBEq, beq_self_eq_true, Bool.or_false, Bool.or_true, Bool.false_or, Bool.true_or, Bool.or_self, if_true, if_false, Bool.false_eq_true, ↓reduceIte]
        try simp only [thenS, S.put, S.newObj, setL, V.cs, List.length_cons, List.length_nil, List.take_succ_cons, List.take_zero, List.drop_succ_cons, List.drop_zero, List.drop_nil, List.nil_append, List.cons_append, List.append_nil, Nat.zero_add, Nat.reduceAdd, List.map_cons, List.map_nil, List.set_cons_zero, List.set_cons_succ]
        all_goals
         refine ⟨μ - 1, _, ?_, ⟨j + 1, ⟨(i + 1 : Nat), ((b0.toNat : Int) - 97), Sa, Sb, Sn⟩, by omega, rfl, hF', rfl⟩, by omega⟩
         exact (Less.of rfl (by repeat (first | exact trivial | refine ⟨⟨_, rfl, Wk.refl _⟩, ?_⟩ | refine ⟨⟨_, rfl, Wk.nil _ _⟩, ?_⟩ | refine ⟨⟨_, rfl, Wk.junk _⟩, ?_⟩)) (by repeat (first | exact trivial | refine ⟨rfl, ?_⟩)) rfl)
       ·have hF' : fillS ws (ls.drop (j + 1)) (j + 1) ⟨(i + 1 : Nat), (-1), Sa, Sb, Sn⟩ = R := by rw [← hF, regW_no h1]; simp [setS, h116]
        refine AW.seq ?_
        refine AW.region ?_
        (first | (refine AL.st rfl (st_next rfl rfl (by assumption) (by omega) rfl (by first | rfl | (simp [S.put, S.newObj, setL, V.cs, V.mpsL, V.mps, D.mps, D.mpsL, D.mpsR]; done)) (by first | rfl | (simp [S.put, S.newObj, setL, V.cs, V.mpsL, V.mps, D.mps, D.mpsL, D.mpsR]; done)) (by first | rfl | (simp [S.put]; done)) rfl) ?_; simp only [S.put, List.map_cons, List.map_nil, upI_p, upI_ref, upI_junk, upI_it, upI_strs]) | (refine AL.rd rfl rfl (rd_nextEnd rfl rfl (by omega)) ?_))
        refine AL.rp rfl rfl (rp_extract rfl rfl rfl) ?_
        refine AL.nil ?_
        try simp only [thenS, S.put, S.newObj, setL, V.cs, List.length_cons, List.length_nil, List.take_succ_cons, List.take_zero, List.drop_succ_cons, List.drop_zero, List.drop_nil, List.nil_append, List.cons_append, List.append_nil, Nat.zero_add, Nat.reduceAdd, List.map_cons, List.map_nil, List.set_cons_zero, List.set_cons_succ]
        refine AW.seq ?_
        refine AW.condT rfl ?_
        refine AW.skip ?_
        try simp only [thenS]
        refine AW.block ?_
        refine AW.seq ?_
        refine AW.region ?_
        refine AL.rp rfl rfl (rp_extract rfl rfl rfl) ?_
        refine AL.rp rfl rfl (rp_extract rfl rfl rfl) ?_
        refine AL.rp rfl rfl (rp_assign rfl rfl) ?_
        refine AL.rp rfl rfl (rp_assign rfl rfl) ?_
        refine AL.nil ?_
        try simp only [thenS, S.put]
        refine AW.seq ?_
        refine AW.region ?_
        refine AL.rp rfl rfl (rp_move rfl rfl) ?_
        refine AL.rp rfl rfl (rp_move rfl rfl) ?_
        refine AL.rp rfl rfl (rp_add rfl rfl rfl (by first | omega | (dsimp only; omega))) ?_
        (first | (refine AL.rp rfl rfl (rp_index_own (k := j + 1) Tryd.underlying53 inf9 rfl rfl rfl (by omega) (by omega)) ?_) | (refine AL.rp rfl rfl (rp_index_map (k := j + 1) Tryd.underlying53 inf9 rfl rfl rfl (by omega) (by assumption)) ?_))
        (first | (refine AL.rd rfl rfl (rd_load_ref Tryd.underlying9 rfl rfl rfl rfl rfl rfl) ?_) | (refine AL.rd rfl rfl (rd_load_ad Tryd.underlying9 rfl rfl rfl rfl) ?_) | (refine AL.rd rfl rfl (rd_load_map Tryd.underlying9 rfl rfl rfl rfl rfl rfl (by assumption)) ?_) | (refine AL.rd rfl rfl (rd_load_flat Tryd.underlying9 rfl rfl rfl rfl rfl rfl (fun _ => rfl) (by assumption) rfl) ?_))
        refine AL.rp rfl rfl (rp_assign rfl rfl) ?_
        refine AL.nil ?_
        try simp only [thenS, S.put]
        refine AW.seq ?_
        refine AW.region ?_
        refine AL.rp rfl rfl (rp_move rfl rfl) ?_
        (first | (refine AL.rp rfl rfl (rp_eqlT rfl rfl rfl (by first | assumption | omega | (dsimp only; omega))) ?_) | (refine AL.rp rfl rfl (rp_eqlF rfl rfl rfl (by first | assumption | omega | (dsimp only; omega))) ?_) | (refine AL.rp rfl rfl (rp_eql rfl rfl rfl) ?_))
        refine AL.nil ?_
        try simp only [thenS, S.put]
        refine AW.condF rfl ?_
        refine AW.seq ?_
        refine AW.region ?_
        refine AL.rp rfl rfl (rp_move rfl rfl) ?_
        (first | (refine AL.rp rfl rfl (rp_len_map Tryd.underlying9 rfl rfl (by assumption)) ?_) | (refine AL.rp rfl rfl (rp_len_own Tryd.underlying9 rfl rfl) ?_) | (refine AL.rp rfl rfl (rp_len_sl Tryd.underlying9 rfl rfl) ?_) | (refine AL.rp rfl rfl (rp_len_nil Tryd.underlying9 rfl rfl) ?_) | (refine AL.rp rfl rfl (rp_len_str Tryd.underlying9 rfl rfl) ?_))
        (first | (refine AL.rp rfl rfl (rp_eqlT rfl rfl rfl (by first | assumption | omega | (dsimp only; omega))) ?_) | (refine AL.rp rfl rfl (rp_eqlF rfl rfl rfl (by first | assumption | omega | (dsimp only; omega))) ?_) | (refine AL.rp rfl rfl (rp_eql rfl rfl rfl) ?_))
        refine AL.nil ?_
        try simp only [thenS, S.put]
        refine AW.condF rfl ?_
        refine AW.region ?_
        refine AL.rp rfl rfl (rp_move rfl rfl) ?_
        try simp only [S.put, S.newObj, setL, V.cs, List.length_cons, List.length_nil, List.take_succ_cons, List.take_zero, List.drop_succ_cons, List.drop_zero, List.drop_nil, List.nil_append, List.cons_append, List.append_nil, Nat.zero_add, Nat.reduceAdd]
        refine AL.pc [2, 3, 6, 37] (ts := [_, _, _, _]) (args := [_, _]) (post := ?pc5) ?hc5 rfl rfl rfl rfl rfl rfl rfl rfl rfl ?_
        case hc5 => (refine pc_fieldT 6 (b.toNat : Int) (by omega) _ _ <;> first | rfl | (simp [V.lowL, V.low]; done))
        rintro _ _ _ ⟨rfl, rfl, rfl⟩
        simp only [back, S.put, List.cons_append, List.nil_append, List.zip_cons_cons, List.zip_nil_left, List.drop_succ_cons, List.drop_zero, List.length_cons, List.length_nil, Nat.zero_add, Nat.reduceAdd]
        (first | (refine AL.rp rfl rfl (rp_nilCheck rfl rfl) ?_) | (refine AL.rp rfl rfl (rp_nilCheck_ad rfl rfl) ?_))
        (first | (refine AL.st rfl (st_store_map2 inf3 rfl rfl rfl rfl rfl rfl rfl rfl (by first | assumption | omega)) ?_) | (refine AL.st rfl (st_store inf3 rfl rfl rfl rfl rfl rfl rfl (by first | decide | (simp; done)) rfl) ?_))
        refine AL.nil ?_
        try simp only [thenS, S.put, S.newObj, setL, V.cs, List.length_cons, List.length_nil, List.take_succ_cons, List.take_zero, List.drop_succ_cons, List.drop_zero, List.drop_nil, List.nil_append, List.cons_append, List.append_nil, Nat.zero_add, Nat.reduceAdd, List.map_cons, List.map_nil, List.set_cons_zero, List.set_cons_succ]
        refine ⟨μ - 1, _, ?_, ⟨j + 1, ⟨(i + 1 : Nat), (-1), Sa, Sb, Sn⟩, by omega, rfl, hF', rfl⟩, by omega⟩
        exact (Less.of rfl (by repeat (first | exact trivial | refine ⟨⟨_, rfl, Wk.refl _⟩, ?_⟩ | refine ⟨⟨_, rfl, Wk.nil _ _⟩, ?_⟩ | refine ⟨⟨_, rfl, Wk.junk _⟩, ?_⟩)) (by repeat (first | exact trivial | refine ⟨rfl, ?_⟩)) rfl)
      ·by_cases h97 : b.toNat = 97
       ·skip
        by_cases h1 : wd.length = 1
        ·obtain ⟨b0, rfl⟩ : ∃ b0, wd = [b0] := List.length_eq_one_iff.1 h1
         have hb0 : (bs [b0]).data.toList[0]? = some b0 := rfl
         have hF' : fillS ws (ls.drop (j + 1)) (j + 1) ⟨(i + 1 : Nat), St, ((b0.toNat : Int) - 97), Sb, Sn⟩ = R := by rw [← hF]; simp [setS, h97, regW]
         have hlo := b0.toNat_lt
         refine AW.seq ?_
         refine AW.region ?_
         (first | (refine AL.st rfl (st_next rfl rfl (by assumption) (by omega) rfl (by first | rfl | (simp [S.put, S.newObj, setL, V.cs, V.mpsL, V.mps, D.mps, D.mpsL, D.mpsR]; done)) (by first | rfl | (simp [S.put, S.newObj, setL, V.cs, V.mpsL, V.mps, D.mps, D.mpsL, D.mpsR]; done)) (by first | rfl | (simp [S.put]; done)) rfl) ?_; simp only [S.put, List.map_cons, List.map_nil, upI_p, upI_ref, upI_junk, upI_it, upI_strs]) | (refine AL.rd rfl rfl (rd_nextEnd rfl rfl (by omega)) ?_))
         refine AL.rp rfl rfl (rp_extract rfl rfl rfl) ?_
         refine AL.nil ?_
         try simp only [thenS, S.put, S.newObj, setL, V.cs, List.length_cons, List.length_nil, List.take_succ_cons, List.take_zero, List.drop_succ_cons, List.drop_zero, List.drop_nil, List.nil_append, List.cons_append, List.append_nil, Nat.zero_add, Nat.reduceAdd, List.map_cons, List.map_nil, List.set_cons_zero, List.set_cons_succ]
         refine AW.seq ?_
         refine AW.condT rfl ?_
         refine AW.skip ?_
         try simp only [thenS]
         refine AW.block ?_
         refine AW.seq ?_
         refine AW.region ?_
         refine AL.rp rfl rfl (rp_extract rfl rfl rfl) ?_
         refine AL.rp rfl rfl (rp_extract rfl rfl rfl) ?_
         refine AL.rp rfl rfl (rp_assign rfl rfl) ?_
         refine AL.rp rfl rfl (rp_assign rfl rfl) ?_
         refine AL.nil ?_
         try simp only [thenS, S.put]
         refine AW.seq ?_
         refine AW.region ?_
         refine AL.rp rfl rfl (rp_move rfl rfl) ?_
         refine AL.rp rfl rfl (rp_move rfl rfl) ?_
         refine AL.rp rfl rfl (rp_add rfl rfl rfl (by first | omega | (dsimp only; omega))) ?_
         (first | (refine AL.rp rfl rfl (rp_index_own (k := j + 1) Tryd.underlying53 inf9 rfl rfl rfl (by omega) (by omega)) ?_) | (refine AL.rp rfl rfl (rp_index_map (k := j + 1) Tryd.underlying53 inf9 rfl rfl rfl (by omega) (by assumption)) ?_))
         (first | (refine AL.rd rfl rfl (rd_load_ref Tryd.underlying9 rfl rfl rfl rfl rfl rfl) ?_) | (refine AL.rd rfl rfl (rd_load_ad Tryd.underlying9 rfl rfl rfl rfl) ?_) | (refine AL.rd rfl rfl (rd_load_map Tryd.underlying9 rfl rfl rfl rfl rfl rfl (by assumption)) ?_) | (refine AL.rd rfl rfl (rd_load_flat Tryd.underlying9 rfl rfl rfl rfl rfl rfl (fun _ => rfl) (by assumption) rfl) ?_))
         refine AL.rp rfl rfl (rp_assign rfl rfl) ?_
         refine AL.nil ?_
         try simp only [thenS, S.put]
         refine AW.seq ?_
         refine AW.region ?_
         refine AL.rp rfl rfl (rp_move rfl rfl) ?_
         (first | (refine AL.rp rfl rfl (rp_eqlT rfl rfl rfl (by first | assumption | omega | (dsimp only; omega))) ?_) | (refine AL.rp rfl rfl (rp_eqlF rfl rfl rfl (by first | assumption | omega | (dsimp only; omega))) ?_) | (refine AL.rp rfl rfl (rp_eql rfl rfl rfl) ?_))
         refine AL.nil ?_
         try simp only [thenS, S.put]
         refine AW.condF rfl ?_
         refine AW.seq ?_
         refine AW.region ?_
         refine AL.rp rfl rfl (rp_move rfl rfl) ?_
         (first | (refine AL.rp rfl rfl (rp_len_map Tryd.underlying9 rfl rfl (by assumption)) ?_) | (refine AL.rp rfl rfl (rp_len_own Tryd.underlying9 rfl rfl) ?_) | (refine AL.rp rfl rfl (rp_len_sl Tryd.underlying9 rfl rfl) ?_) | (refine AL.rp rfl rfl (rp_len_nil Tryd.underlying9 rfl rfl) ?_) | (refine AL.rp rfl rfl (rp_len_str Tryd.underlying9 rfl rfl) ?_))
         (first | (refine AL.rp rfl rfl (rp_eqlT rfl rfl rfl (by first | assumption | omega | (dsimp only; omega))) ?_) | (refine AL.rp rfl rfl (rp_eqlF rfl rfl rfl (by first | assumption | omega | (dsimp only; omega))) ?_) | (refine AL.rp rfl rfl (rp_eql rfl rfl rfl) ?_))
         refine AL.nil ?_
         try simp only [thenS, S.put]
         refine AW.condT rfl ?_
         refine AW.drawT (N := ?N7) (l := #[false, false, false, false, false, false, false, false]) 8 (by kernel_rfl) rfl rfl ?_ ?_
         rotate_left
         refine AN.rp (i := 0) (l' := #[true, false, false, false, false, false, false, false]) rfl rfl rfl (fun _ _ h => h) (by kernel_rfl) rfl (rp_move rfl rfl) ?_
         refine AN.rp (i := 2) (l' := #[true, false, true, false, false, false, false, false]) rfl rfl rfl (fun _ _ h => h) (by kernel_rfl) rfl (rp_move rfl rfl) ?_
         refine AN.br2 (i := 1) (j := 3) (by kernel_rfl) ?_ ?_
         ·refine BR.mk (l' := #[true, true, true, false, false, false, false, false]) rfl rfl rfl ?_
          try simp only [S.put, S.newObj, setL, V.cs, List.length_cons, List.length_nil, List.take_succ_cons, List.take_zero, List.drop_succ_cons, List.drop_zero, List.drop_nil, List.nil_append, List.cons_append, List.append_nil, Nat.zero_add, Nat.reduceAdd]
          refine ST.pc [2, 3, 6, 9, 37, 56] (ts := [_, _, _, _, _, _]) (args := [_, _]) (post := ?pc7) ?hc7 rfl rfl rfl rfl rfl rfl rfl rfl rfl ?_
          case hc7 => (refine pc_fieldA 6 (b.toNat : Int) (by omega) _ _ <;> first | rfl | (simp [V.lowL, V.low]; done))
          rintro _ _ _ ⟨rfl, rfl, rfl⟩
          simp only [back, S.put, List.cons_append, List.nil_append, List.zip_cons_cons, List.zip_nil_left, List.drop_succ_cons, List.drop_zero, List.length_cons, List.length_nil, Nat.zero_add, Nat.reduceAdd]
          refine AN.br1 (i := 3) (by kernel_rfl) ?_
          refine BR.mk (l' := #[true, true, true, true, false, false, false, false]) rfl rfl rfl ?_
          refine ST.rp rfl (rp_index_str Tryd.underlying9 rfl rfl rfl (by first | rfl | omega) (by assumption)) ?_
          refine AN.rp (i := 4) (l' := #[true, true, true, true, true, false, false, false]) rfl rfl rfl (fun _ _ h => h) (by kernel_rfl) rfl (rp_conv Tryd.underlying5 (by intro e h; cases h) (by intro h; cases h) Tryd.underlying3 rfl rfl (r := _) (by first | (rw [wrap8]; omega) | (rw [wrap8]; dsimp only; omega) | (rw [wrap16]; omega) | (rw [wrap64 (by omega)] <;> omega) | (rw [wrapU64 (by omega)] <;> omega))) ?_
          refine AN.rp (i := 5) (l' := #[true, true, true, true, true, true, false, false]) rfl rfl rfl (fun _ _ h => h) (by kernel_rfl) rfl (rp_sub rfl rfl rfl (by first | omega | (dsimp only; omega))) ?_
          (first | (refine AN.rp (i := 6) (l' := #[true, true, true, true, true, true, true, false]) rfl rfl rfl (fun _ _ h => h) (by kernel_rfl) rfl (rp_nilCheck rfl rfl) ?_) | (refine AN.rp (i := 6) (l' := #[true, true, true, true, true, true, true, false]) rfl rfl rfl (fun _ _ h => h) (by kernel_rfl) rfl (rp_nilCheck_ad rfl rfl) ?_))
          refine AN.br1 (i := 7) (by kernel_rfl) ?_
          refine BR.mk (l' := #[true, true, true, true, true, true, true, true]) rfl rfl rfl ?_
          (first | (refine ST.st (st_store_map2 inf3 rfl rfl rfl rfl rfl rfl rfl rfl (by first | assumption | omega)) ?_) | (refine ST.st (st_store inf3 rfl rfl rfl rfl rfl rfl rfl (by first | decide | (simp; done)) rfl) ?_))
          refine AN.nil (by kernel_rfl) ?_
          show Less _ _
          exact Less.dd _
         ·refine BR.mk (l' := #[true, false, true, true, false, false, false, false]) rfl rfl rfl ?_
          refine ST.rp rfl (rp_index_str Tryd.underlying9 rfl rfl rfl (by first | rfl | omega) (by assumption)) ?_
          refine AN.rp (i := 4) (l' := #[true, false, true, true, true, false, false, false]) rfl rfl rfl (fun _ _ h => h) (by kernel_rfl) rfl (rp_conv Tryd.underlying5 (by intro e h; cases h) (by intro h; cases h) Tryd.underlying3 rfl rfl (r := _) (by first | (rw [wrap8]; omega) | (rw [wrap8]; dsimp only; omega) | (rw [wrap16]; omega) | (rw [wrap64 (by omega)] <;> omega) | (rw [wrapU64 (by omega)] <;> omega))) ?_
          refine AN.rp (i := 5) (l' := #[true, false, true, true, true, true, false, false]) rfl rfl rfl (fun _ _ h => h) (by kernel_rfl) rfl (rp_sub rfl rfl rfl (by first | omega | (dsimp only; omega))) ?_
          refine AN.br1 (i := 1) (by kernel_rfl) ?_
          refine BR.mk (l' := #[true, true, true, true, true, true, false, false]) rfl rfl rfl ?_
          try simp only [S.put, S.newObj, setL, V.cs, List.length_cons, List.length_nil, List.take_succ_cons, List.take_zero, List.drop_succ_cons, List.drop_zero, List.drop_nil, List.nil_append, List.cons_append, List.append_nil, Nat.zero_add, Nat.reduceAdd]
          refine ST.pc [2, 3, 6, 9, 37, 56, 57, 58, 59] (ts := [_, _, _, _, _, _, _, _, _]) (args := [_, _]) (post := ?pc8) ?hc8 rfl rfl rfl rfl rfl rfl rfl rfl rfl ?_
          case hc8 => (refine pc_fieldA 6 (b.toNat : Int) (by omega) _ _ <;> first | rfl | (simp [V.lowL, V.low]; done))
          rintro _ _ _ ⟨rfl, rfl, rfl⟩
          simp only [back, S.put, List.cons_append, List.nil_append, List.zip_cons_cons, List.zip_nil_left, List.drop_succ_cons, List.drop_zero, List.length_cons, List.length_nil, Nat.zero_add, Nat.reduceAdd]
          (first | (refine AN.rp (i := 6) (l' := #[true, true, true, true, true, true, true, false]) rfl rfl rfl (fun _ _ h => h) (by kernel_rfl) rfl (rp_nilCheck rfl rfl) ?_) | (refine AN.rp (i := 6) (l' := #[true, true, true, true, true, true, true, false]) rfl rfl rfl (fun _ _ h => h) (by kernel_rfl) rfl (rp_nilCheck_ad rfl rfl) ?_))
          refine AN.br1 (i := 7) (by kernel_rfl) ?_
          refine BR.mk (l' := #[true, true, true, true, true, true, true, true]) rfl rfl rfl ?_
          (first | (refine ST.st (st_store_map2 inf3 rfl rfl rfl rfl rfl rfl rfl rfl (by first | assumption | omega)) ?_) | (refine ST.st (st_store inf3 rfl rfl rfl rfl rfl rfl rfl (by first | decide | (simp; done)) rfl) ?_))
          refine AN.nil (by kernel_rfl) ?_
          show Less _ _
          (try simp only [S.put, S.newObj, setL, V.cs, List.length_cons, List.length_nil, List.take_succ_cons, List.take_zero, List.drop_succ_cons, List.drop_zero, List.drop_nil, List.nil_append, List.cons_append, List.append_nil, Nat.zero_add, Nat.reduceAdd, List.map_cons, List.map_nil, List.set_cons_zero, List.set_cons_succ])
          try simp only [S.dd, ddL, List.contains_cons, List.contains_nil, Nat.reduceBEq, beq_self_eq_true, Bool.or_false, Bool.or_true, Bool.false_or, Bool.true_or, Bool.or_self, if_true, if_false, Bool.false_eq_true, ↓reduceIte]
          exact (Less.of rfl (by repeat (first | exact trivial | refine ⟨⟨_, rfl, Wk.refl _⟩, ?_⟩)) (by repeat (first | exact trivial | refine ⟨rfl, ?_⟩)) rfl)
         (try simp only [S.put, S.newObj, setL, V.cs, List.length_cons, List.length_nil, List.take_succ_cons, List.take_zero, List.drop_succ_cons, List.drop_zero, List.drop_nil, List.nil_append, List.cons_append, List.append_nil, Nat.zero_add, Nat.reduceAdd, List.map_cons, List.map_nil, List.set_cons_zero, List.set_cons_succ])
         try simp only [S.dd, ddL, List.contains_cons, List.contains_nil, Nat.reduceBEq, beq_self_eq_true, Bool.or_false, Bool.or_true, Bool.false_or, Bool.true_or, Bool.or_self, if_true, if_false, Bool.false_eq_true, ↓reduceIte]
         try simp only [thenS, S.put, S.newObj, setL, V.cs, List.length_cons, List.length_nil, List.take_succ_cons, List.take_zero, List.drop_succ_cons, List.drop_zero, List.drop_nil, List.nil_append, List.cons_append, List.append_nil, Nat.zero_add, Nat.reduceAdd, List.map_cons, List.map_nil, List.set_cons_zero, List.set_cons_succ]
         all_goals
          refine ⟨μ - 1, _, ?_, ⟨j + 1, ⟨(i + 1 : Nat), St, ((b0.toNat : Int) - 97), Sb, Sn⟩, by omega, rfl, hF', rfl⟩, by omega⟩
          exact (Less.of rfl (by repeat (first | exact trivial | refine ⟨⟨_, rfl, Wk.refl _⟩, ?_⟩ | refine ⟨⟨_, rfl, Wk.nil _ _⟩, ?_⟩ | refine ⟨⟨_, rfl, Wk.junk _⟩, ?_⟩)) (by repeat (first | exact trivial | refine ⟨rfl, ?_⟩)) rfl)
        ·have hF' : fillS ws (ls.drop (j + 1)) (j + 1) ⟨(i + 1 : Nat), St, (-1), Sb, Sn⟩ = R := by rw [← hF, regW_no h1]; simp [setS, h97]
         refine AW.seq ?_
         refine AW.region ?_
         (first | (refine AL.st rfl (st_next rfl rfl (by assumption) (by omega) rfl (by first | rfl | (simp [S.put, S.newObj, setL, V.cs, V.mpsL, V.mps, D.mps, D.mpsL, D.mpsR]; done)) (by first | rfl | (simp [S.put, S.newObj, setL, V.cs, V.mpsL, V.mps, D.mps, D.mpsL, D.mpsR]; done)) (by first | rfl | (simp [S.put]; done)) rfl) ?_; simp only [S.put, List.map_cons, List.map_nil, upI_p, upI_ref, upI_junk, upI_it, upI_strs]) | (refine AL.rd rfl rfl (rd_nextEnd rfl rfl (by omega)) ?_))
         refine AL.rp rfl rfl (rp_extract rfl rfl rfl) ?_
         refine AL.nil ?_
         try simp only [thenS, S.put, S.newObj, setL, V.cs, List.length_cons, List.length_nil, List.take_succ_cons, List.take_zero, List.drop_succ_cons, List.drop_zero, List.drop_nil, List.nil_append, List.cons_append, List.append_nil, Nat.zero_add, Nat.reduceAdd, List.map_cons, List.map_nil, List.set_cons_zero, List.set_cons_succ]
         refine AW.seq ?_
         refine AW.condT rfl ?_
         refine AW.skip ?_
         try simp only [thenS]
         refine AW.block ?_
         refine AW.seq ?_
         refine AW.region ?_
         refine AL.rp rfl rfl (rp_extract rfl rfl rfl) ?_
         refine AL.rp rfl rfl (rp_extract rfl rfl rfl) ?_
         refine AL.rp rfl rfl (rp_assign rfl rfl) ?_
         refine AL.rp rfl rfl (rp_assign rfl rfl) ?_
         refine AL.nil ?_
         try simp only [thenS, S.put]
         refine AW.seq ?_
         refine AW.region ?_
         refine AL.rp rfl rfl (rp_move rfl rfl) ?_
         refine AL.rp rfl rfl (rp_move rfl rfl) ?_
         refine AL.rp rfl rfl (rp_add rfl rfl rfl (by first | omega | (dsimp only; omega))) ?_
         (first | (refine AL.rp rfl rfl (rp_index_own (k := j + 1) Tryd.underlying53 inf9 rfl rfl rfl (by omega) (by omega)) ?_) | (refine AL.rp rfl rfl (rp_index_map (k := j + 1) Tryd.underlying53 inf9 rfl rfl rfl (by omega) (by assumption)) ?_))
         (first | (refine AL.rd rfl rfl (rd_load_ref Tryd.underlying9 rfl rfl rfl rfl rfl rfl) ?_) | (refine AL.rd rfl rfl (rd_load_ad Tryd.underlying9 rfl rfl rfl rfl) ?_) | (refine AL.rd rfl rfl (rd_load_map Tryd.underlying9 rfl rfl rfl rfl rfl rfl (by assumption)) ?_) | (refine AL.rd rfl rfl (rd_load_flat Tryd.underlying9 rfl rfl rfl rfl rfl rfl (fun _ => rfl) (by assumption) rfl) ?_))
         refine AL.rp rfl rfl (rp_assign rfl rfl) ?_
         refine AL.nil ?_
         try simp only [thenS, S.put]
         refine AW.seq ?_
         refine AW.region ?_
         refine AL.rp rfl rfl (rp_move rfl rfl) ?_
         (first | (refine AL.rp rfl rfl (rp_eqlT rfl rfl rfl (by first | assumption | omega | (dsimp only; omega))) ?_) | (refine AL.rp rfl rfl (rp_eqlF rfl rfl rfl (by first | assumption | omega | (dsimp only; omega))) ?_) | (refine AL.rp rfl rfl (rp_eql rfl rfl rfl) ?_))
         refine AL.nil ?_
         try simp only [thenS, S.put]
         refine AW.condF rfl ?_
         refine AW.seq ?_
         refine AW.region ?_
         refine AL.rp rfl rfl (rp_move rfl rfl) ?_
         (first | (refine AL.rp rfl rfl (rp_len_map Tryd.underlying9 rfl rfl (by assumption)) ?_) | (refine AL.rp rfl rfl (rp_len_own Tryd.underlying9 rfl rfl) ?_) | (refine AL.rp rfl rfl (rp_len_sl Tryd.underlying9 rfl rfl) ?_) | (refine AL.rp rfl rfl (rp_len_nil Tryd.underlying9 rfl rfl) ?_) | (refine AL.rp rfl rfl (rp_len_str Tryd.underlying9 rfl rfl) ?_))
         (first | (refine AL.rp rfl rfl (rp_eqlT rfl rfl rfl (by first | assumption | omega | (dsimp only; omega))) ?_) | (refine AL.rp rfl rfl (rp_eqlF rfl rfl rfl (by first | assumption | omega | (dsimp only; omega))) ?_) | (refine AL.rp rfl rfl (rp_eql rfl rfl rfl) ?_))
         refine AL.nil ?_
         try simp only [thenS, S.put]
         refine AW.condF rfl ?_
         refine AW.region ?_
         refine AL.rp rfl rfl (rp_move rfl rfl) ?_
         try simp only [S.put, S.newObj, setL, V.cs, List.length_cons, List.length_nil, List.take_succ_cons, List.take_zero, List.drop_succ_cons, List.drop_zero, List.drop_nil, List.nil_append, List.cons_append, List.append_nil, Nat.zero_add, Nat.reduceAdd]
         refine AL.pc [2, 3, 6, 37] (ts := [_, _, _, _]) (args := [_, _]) (post := ?pc9) ?hc9 rfl rfl rfl rfl rfl rfl rfl rfl rfl ?_
         case hc9 => (refine pc_fieldA 6 (b.toNat : Int) (by omega) _ _ <;> first | rfl | (simp [V.lowL, V.low]; done))
         rintro _ _ _ ⟨rfl, rfl, rfl⟩
         simp only [back, S.put, List.cons_append, List.nil_append, List.zip_cons_cons, List.zip_nil_left, List.drop_succ_cons, List.drop_zero, List.length_cons, List.length_nil, Nat.zero_add, Nat.reduceAdd]
         (first | (refine AL.rp rfl rfl (rp_nilCheck rfl rfl) ?_) | (refine AL.rp rfl rfl (rp_nilCheck_ad rfl rfl) ?_))
         (first | (refine AL.st rfl (st_store_map2 inf3 rfl rfl rfl rfl rfl rfl rfl rfl (by first | assumption | omega)) ?_) | (refine AL.st rfl (st_store inf3 rfl rfl rfl rfl rfl rfl rfl (by first | decide | (simp; done)) rfl) ?_))
         refine AL.nil ?_
         try simp only [thenS, S.put, S.newObj, setL, V.cs, List.length_cons, List.length_nil, List.take_succ_cons, List.take_zero, List.drop_succ_cons, List.drop_zero, List.drop_nil, List.nil_append, List.cons_append, List.append_nil, Nat.zero_add, Nat.reduceAdd, List.map_cons, List.map_nil, List.set_cons_zero, List.set_cons_succ]
         refine ⟨μ - 1, _, ?_, ⟨j + 1, ⟨(i + 1 : Nat), St, (-1), Sb, Sn⟩, by omega, rfl, hF', rfl⟩, by omega⟩
         exact (Less.of rfl (by repeat (first | exact trivial | refine ⟨⟨_, rfl, Wk.refl _⟩, ?_⟩ | refine ⟨⟨_, rfl, Wk.nil _ _⟩, ?_⟩ | refine ⟨⟨_, rfl, Wk.junk _⟩, ?_⟩)) (by repeat (first | exact trivial | refine ⟨rfl, ?_⟩)) rfl)
       ·have h98 : b.toNat = 98 := by omega
        by_cases h1 : wd.length = 1
        ·obtain ⟨b0, rfl⟩ : ∃ b0, wd = [b0] := List.length_eq_one_iff.1 h1
         have hb0 : (bs [b0]).data.toList[0]? = some b0 := rfl
         have hF' : fillS ws (ls.drop (j + 1)) (j + 1) ⟨(i + 1 : Nat), St, Sa, ((b0.toNat : Int) - 97), Sn⟩ = R := by rw [← hF]; simp [setS, h98, regW]
         have hlo := b0.toNat_lt
         refine AW.seq ?_
         refine AW.region ?_
         (first | (refine AL.st rfl (st_next rfl rfl (by assumption) (by omega) rfl (by first | rfl | (simp [S.put, S.newObj, setL, V.cs, V.mpsL, V.mps, D.mps, D.mpsL, D.mpsR]; done)) (by first | rfl | (simp [S.put, S.newObj, setL, V.cs, V.mpsL, V.mps, D.mps, D.mpsL, D.mpsR]; done)) (by first | rfl | (simp [S.put]; done)) rfl) ?_; simp only [S.put, List.map_cons, List.map_nil, upI_p, upI_ref, upI_junk, upI_it, upI_strs]) | (refine AL.rd rfl rfl (rd_nextEnd rfl rfl (by omega)) ?_))
         refine AL.rp rfl rfl (rp_extract rfl rfl rfl) ?_
         refine AL.nil ?_
         try simp only [thenS, S.put, S.newObj, setL, V.cs, List.length_cons, List.length_nil, List.take_succ_cons, List.take_zero, List.drop_succ_cons, List.drop_zero, List.drop_nil, List.nil_append, List.cons_append, List.append_nil, Nat.zero_add, Nat.reduceAdd, List.map_cons, List.map_nil, List.set_cons_zero, List.set_cons_succ]
         refine AW.seq ?_
         refine AW.condT rfl ?_
         refine AW.skip ?_
         try simp only [thenS]
         refine AW.block ?_
         refine AW.seq ?_
         refine AW.region ?_
         refine AL.rp rfl rfl (rp_extract rfl rfl rfl) ?_
         refine AL.rp rfl rfl (rp_extract rfl rfl rfl) ?_
         refine AL.rp rfl rfl (rp_assign rfl rfl) ?_
         refine AL.rp rfl rfl (rp_assign rfl rfl) ?_
         refine AL.nil ?_
         try simp only [thenS, S.put]
         refine AW.seq ?_
         refine AW.region ?_
         refine AL.rp rfl rfl (rp_move rfl rfl) ?_
         refine AL.rp rfl rfl (rp_move rfl rfl) ?_
         refine AL.rp rfl rfl (rp_add rfl rfl rfl (by first | omega | (dsimp only; omega))) ?_
         (first | (refine AL.rp rfl rfl (rp_index_own (k := j + 1) Tryd.underlying53 inf9 rfl rfl rfl (by omega) (by omega)) ?_) | (refine AL.rp rfl rfl (rp_index_map (k := j + 1) Tryd.underlying53 inf9 rfl rfl rfl (by omega) (by assumption)) ?_))
         (first | (refine AL.rd rfl rfl (rd_load_ref Tryd.underlying9 rfl rfl rfl rfl rfl rfl) ?_) | (refine AL.rd rfl rfl (rd_load_ad Tryd.underlying9 rfl rfl rfl rfl) ?_) | (refine AL.rd rfl rfl (rd_load_map Tryd.underlying9 rfl rfl rfl rfl rfl rfl (by assumption)) ?_) | (refine AL.rd rfl rfl (rd_load_flat Tryd.underlying9 rfl rfl rfl rfl rfl rfl (fun _ => rfl) (by assumption) rfl) ?_))
         refine AL.rp rfl rfl (rp_assign rfl rfl) ?_
         refine AL.nil ?_
         try simp only [thenS, S.put]
         refine AW.seq ?_
         refine AW.region ?_
         refine AL.rp rfl rfl (rp_move rfl rfl) ?_
         (first | (refine AL.rp rfl rfl (rp_eqlT rfl rfl rfl (by first | assumption | omega | (dsimp only; omega))) ?_) | (refine AL.rp rfl rfl (rp_eqlF rfl rfl rfl (by first | assumption | omega | (dsimp only; omega))) ?_) | (refine AL.rp rfl rfl (rp_eql rfl rfl rfl) ?_))
         refine AL.nil ?_
         try simp only [thenS, S.put]
         refine AW.condF rfl ?_
         refine AW.seq ?_
         refine AW.region ?_
         refine AL.rp rfl rfl (rp_move rfl rfl) ?_
         (first | (refine AL.rp rfl rfl (rp_len_map Tryd.underlying9 rfl rfl (by assumption)) ?_) | (refine AL.rp rfl rfl (rp_len_own Tryd.underlying9 rfl rfl) ?_) | (refine AL.rp rfl rfl (rp_len_sl Tryd.underlying9 rfl rfl) ?_) | (refine AL.rp rfl rfl (rp_len_nil Tryd.underlying9 rfl rfl) ?_) | (refine AL.rp rfl rfl (rp_len_str Tryd.underlying9 rfl rfl) ?_))
         (first | (refine AL.rp rfl rfl (rp_eqlT rfl rfl rfl (by first | assumption | omega | (dsimp only; omega))) ?_) | (refine AL.rp rfl rfl (rp_eqlF rfl rfl rfl (by first | assumption | omega | (dsimp only; omega))) ?_) | (refine AL.rp rfl rfl (rp_eql rfl rfl rfl) ?_))
         refine AL.nil ?_
         try simp only [thenS, S.put]
         refine AW.condT rfl ?_
         refine AW.drawT (N := ?N11) (l := #[false, false, false, false, false, false, false, false]) 8 (by kernel_rfl) rfl rfl ?_ ?_
         rotate_left
         refine AN.rp (i := 0) (l' := #[true, false, false, false, false, false, false, false]) rfl rfl rfl (fun _ _ h => h) (by kernel_rfl) rfl (rp_move rfl rfl) ?_
         refine AN.rp (i := 2) (l' := #[true, false, true, false, false, false, false, false]) rfl rfl rfl (fun _ _ h => h) (by kernel_rfl) rfl (rp_move rfl rfl) ?_
         refine AN.br2 (i := 1) (j := 3) (by kernel_rfl) ?_ ?_
         ·refine BR.mk (l' := #[true, true, true, false, false, false, false, false]) rfl rfl rfl ?_
          try simp only [S.put, S.newObj, setL, V.cs, List.length_cons, List.length_nil, List.take_succ_cons, List.take_zero, List.drop_succ_cons, List.drop_zero, List.drop_nil, List.nil_append, List.cons_append, List.append_nil, Nat.zero_add, Nat.reduceAdd]
          refine ST.pc [2, 3, 6, 9, 37, 56] (ts := [_, _, _, _, _, _]) (args := [_, _]) (post := ?pc11) ?hc11 rfl rfl rfl rfl rfl rfl rfl rfl rfl ?_
          case hc11 => (refine pc_fieldB 6 (b.toNat : Int) (by omega) _ _ <;> first | rfl | (simp [V.lowL, V.low]; done))
          rintro _ _ _ ⟨rfl, rfl, rfl⟩
          simp only [back, S.put, List.cons_append, List.nil_append, List.zip_cons_cons, List.zip_nil_left, List.drop_succ_cons, List.drop_zero, List.length_cons, List.length_nil, Nat.zero_add, Nat.reduceAdd]
          refine AN.br1 (i := 3) (by kernel_rfl) ?_
          refine BR.mk (l' := #[true, true, true, true, false, false, false, false]) rfl rfl rfl ?_
          refine ST.rp rfl (rp_index_str Tryd.underlying9 rfl rfl rfl (by first | rfl | omega) (by assumption)) ?_
          refine AN.rp (i := 4) (l' := #[true, true, true, true, true, false, false, false]) rfl rfl rfl (fun _ _ h => h) (by kernel_rfl) rfl (rp_conv Tryd.underlying5 (by intro e h; cases h) (by intro h; cases h) Tryd.underlying3 rfl rfl (r := _) (by first | (rw [wrap8]; omega) | (rw [wrap8]; dsimp only; omega) | (rw [wrap16]; omega) | (rw [wrap64 (by omega)] <;> omega) | (rw [wrapU64 (by omega)] <;> omega))) ?_
          refine AN.rp (i := 5) (l' := #[true, true, true, true, true, true, false, false]) rfl rfl rfl (fun _ _ h => h) (by kernel_rfl) rfl (rp_sub rfl rfl rfl (by first | omega | (dsimp only; omega))) ?_
          (first | (refine AN.rp (i := 6) (l' := #[true, true, true, true, true, true, true, false]) rfl rfl rfl (fun _ _ h => h) (by kernel_rfl) rfl (rp_nilCheck rfl rfl) ?_) | (refine AN.rp (i := 6) (l' := #[true, true, true, true, true, true, true, false]) rfl rfl rfl (fun _ _ h => h) (by kernel_rfl) rfl (rp_nilCheck_ad rfl rfl) ?_))
          refine AN.br1 (i := 7) (by kernel_rfl) ?_
          refine BR.mk (l' := #[true, true, true, true, true, true, true, true]) rfl rfl rfl ?_
          (first | (refine ST.st (st_store_map2 inf3 rfl rfl rfl rfl rfl rfl rfl rfl (by first | assumption | omega)) ?_) | (refine ST.st (st_store inf3 rfl rfl rfl rfl rfl rfl rfl (by first | decide | (simp; done)) rfl) ?_))
          refine AN.nil (by kernel_rfl) ?_
          show Less _ _
          exact Less.dd _
         ·refine BR.mk (l' := #[true, false, true, true, false, false, false, false]) rfl rfl rfl ?_
          refine ST.rp rfl (rp_index_str Tryd.underlying9 rfl rfl rfl (by first | rfl | omega) (by assumption)) ?_
          refine AN.rp (i := 4) (l' := #[true, false, true, true, true, false, false, false]) rfl rfl rfl (fun _ _ h => h) (by kernel_rfl) rfl (rp_conv Tryd.underlying5 (by intro e h; cases h) (by intro h; cases h) Tryd.underlying3 rfl rfl (r := _) (by first | (rw [wrap8]; omega) | (rw [wrap8]; dsimp only; omega) | (rw [wrap16]; omega) | (rw [wrap64 (by omega)] <;> omega) | (rw [wrapU64 (by omega)] <;> omega))) ?_
          refine AN.rp (i := 5) (l' := #[true, false, true, true, true, true, false, false]) rfl rfl rfl (fun _ _ h => h) (by kernel_rfl) rfl (rp_sub rfl rfl rfl (by first | omega | (dsimp only; omega))) ?_
          refine AN.br1 (i := 1) (by kernel_rfl) ?_
          refine BR.mk (l' := #[true, true, true, true, true, true, false, false]) rfl rfl rfl ?_
          try simp only [S.put, S.newObj, setL, V.cs, List.length_cons, List.length_nil, List.take_succ_cons, List.take_zero, List.drop_succ_cons, List.drop_zero, List.drop_nil, List.nil_append, List.cons_append, List.append_nil, Nat.zero_add, Nat.reduceAdd]
          refine ST.pc [2, 3, 6, 9, 37, 56, 57, 58, 59] (ts := [_, _, _, _, _, _, _, _, _]) (args := [_, _]) (post := ?pc12) ?hc12 rfl rfl rfl rfl rfl rfl rfl rfl rfl ?_
          case hc12 => (refine pc_fieldB 6 (b.toNat : Int) (by omega) _ _ <;> first | rfl | (simp [V.lowL, V.low]; done))
          rintro _ _ _ ⟨rfl, rfl, rfl⟩
          simp only [back, S.put, List.cons_append, List.nil_append, List.zip_cons_cons, List.zip_nil_left, List.drop_succ_cons, List.drop_zero, List.length_cons, List.length_nil, Nat.zero_add, Nat.reduceAdd]
          (first | (refine AN.rp (i := 6) (l' := #[true, true, true, true, true, true, true, false]) rfl rfl rfl (fun _ _ h => h) (by kernel_rfl) rfl (rp_nilCheck rfl rfl) ?_) | (refine AN.rp (i := 6) (l' := #[true, true, true, true, true, true, true, false]) rfl rfl rfl (fun _ _ h => h) (by kernel_rfl) rfl (rp_nilCheck_ad rfl rfl) ?_))
          refine AN.br1 (i := 7) (by kernel_rfl) ?_
          refine BR.mk (l' := #[true, true, true, true, true, true, true, true]) rfl rfl rfl ?_
          (first | (refine ST.st (st_store_map2 inf3 rfl rfl rfl rfl rfl rfl rfl rfl (by first | assumption | omega)) ?_) | (refine ST.st (st_store inf3 rfl rfl rfl rfl rfl rfl rfl (by first | decide | (simp; done)) rfl) ?_))
          refine AN.nil (by kernel_rfl) ?_
          show Less _ _
          (try simp only [S.put, S.newObj, setL, V.cs, List.length_cons, List.length_nil, List.take_succ_cons, List.take_zero, List.drop_succ_cons, List.drop_zero, List.drop_nil, List.nil_append, List.cons_append, List.append_nil, Nat.zero_add, Nat.reduceAdd, List.map_cons, List.map_nil, List.set_cons_zero, List.set_cons_succ])
          try simp only [S.dd, ddL, List.contains_cons, List.contains_nil, Nat.reduceBEq, beq_self_eq_true, Bool.or_false, Bool.or_true, Bool.false_or, Bool.true_or, Bool.or_self, if_true, if_false, Bool.false_eq_true, ↓reduceIte]
          exact (Less.of rfl (by repeat (first | exact trivial | refine ⟨⟨_, rfl, Wk.refl _⟩, ?_⟩)) (by repeat (first | exact trivial | refine ⟨rfl, ?_⟩)) rfl)
         (try simp only [S.put, S.newObj, setL, V.cs, List.length_cons, List.length_nil, List.take_succ_cons, List.take_zero, List.drop_succ_cons, List.drop_zero, List.drop_nil, List.nil_append, List.cons_append, List.append_nil, Nat.zero_add, Nat.reduceAdd, List.map_cons, List.map_nil, List.set_cons_zero, List.set_cons_succ])
         try simp only [S.dd, ddL, List.contains_cons, List.contains_nil, Nat.reduceBEq, beq_self_eq_true, Bool.or_false, Bool.or_true, Bool.false_or, Bool.true_or, Bool.or_self, if_true, if_false, Bool.false_eq_true, ↓reduceIte]
         try simp only [thenS, S.put, S.newObj, setL, V.cs, List.length_cons, List.length_nil, List.take_succ_cons, List.take_zero, List.drop_succ_cons, List.drop_zero, List.drop_nil, List.nil_append, List.cons_append, List.append_nil, Nat.zero_add, Nat.reduceAdd, List.map_cons, List.map_nil, List.set_cons_zero, List.set_cons_succ]
         all_goals
          refine ⟨μ - 1, _, ?_, ⟨j + 1, ⟨(i + 1 : Nat), St, Sa, ((b0.toNat : Int) - 97), Sn⟩, by omega, rfl, hF', rfl⟩, by omega⟩
          exact (Less.of rfl (by repeat (first | exact trivial | refine ⟨⟨_, rfl, Wk.refl _⟩, ?_⟩ | refine ⟨⟨_, rfl, Wk.nil _ _⟩, ?_⟩ | refine ⟨⟨_, rfl, Wk.junk _⟩, ?_⟩)) (by repeat (first | exact trivial | refine ⟨rfl, ?_⟩)) rfl)
        ·have hF' : fillS ws (ls.drop (j + 1)) (j + 1) ⟨(i + 1 : Nat), St, Sa, (-1), Sn⟩ = R := by rw [← hF, regW_no h1]; simp [setS, h98]
         refine AW.seq ?_
         refine AW.region ?_
         (first | (refine AL.st rfl (st_next rfl rfl (by assumption) (by omega) rfl (by first | rfl | (simp [S.put, S.newObj, setL, V.cs, V.mpsL, V.mps, D.mps, D.mpsL, D.mpsR]; done)) (by first | rfl | (simp [S.put, S.newObj, setL, V.cs, V.mpsL, V.mps, D.mps, D.mpsL, D.mpsR]; done)) (by first | rfl | (simp [S.put]; done)) rfl) ?_; simp only [S.put, List.map_cons, List.map_nil, upI_p, upI_ref, upI_junk, upI_it, upI_strs]) | (refine AL.rd rfl rfl (rd_nextEnd rfl rfl (by omega)) ?_))
         refine AL.rp rfl rfl (rp_extract rfl rfl rfl) ?_
         refine AL.nil ?_
         try simp only [thenS, S.put, S.newObj, setL, V.cs, List.length_cons, List.length_nil, List.take_succ_cons, List.take_zero, List.drop_succ_cons, List.drop_zero, List.drop_nil, List.nil_append, List.cons_append, List.append_nil, Nat.zero_add, Nat.reduceAdd, List.map_cons, List.map_nil, List.set_cons_zero, List.set_cons_succ]
         refine AW.seq ?_
         refine AW.condT rfl ?_
         refine AW.skip ?_
         try simp only [thenS]
         refine AW.block ?_
         refine AW.seq ?_
         refine AW.region ?_
         refine AL.rp rfl rfl (rp_extract rfl rfl rfl) ?_
         refine AL.rp rfl rfl (rp_extract rfl rfl rfl) ?_
         refine AL.rp rfl rfl (rp_assign rfl rfl) ?_
         refine AL.rp rfl rfl (rp_assign rfl rfl) ?_
         refine AL.nil ?_
         try simp only [thenS, S.put]
         refine AW.seq ?_
         refine AW.region ?_
         refine AL.rp rfl rfl (rp_move rfl rfl) ?_
         refine AL.rp rfl rfl (rp_move rfl rfl) ?_
         refine AL.rp rfl rfl (rp_add rfl rfl rfl (by first | omega | (dsimp only; omega))) ?_
         (first | (refine AL.rp rfl rfl (rp_index_own (k := j + 1) Tryd.underlying53 inf9 rfl rfl rfl (by omega) (by omega)) ?_) | (refine AL.rp rfl rfl (rp_index_map (k := j + 1) Tryd.underlying53 inf9 rfl rfl rfl (by omega) (by assumption)) ?_))
         (first | (refine AL.rd rfl rfl (rd_load_ref Tryd.underlying9 rfl rfl rfl rfl rfl rfl) ?_) | (refine AL.rd rfl rfl (rd_load_ad Tryd.underlying9 rfl rfl rfl rfl) ?_) | (refine AL.rd rfl rfl (rd_load_map Tryd.underlying9 rfl rfl rfl rfl rfl rfl (by assumption)) ?_) | (refine AL.rd rfl rfl (rd_load_flat Tryd.underlying9 rfl rfl rfl rfl rfl rfl (fun _ => rfl) (by assumption) rfl) ?_))
         refine AL.rp rfl rfl (rp_assign rfl rfl) ?_
         refine AL.nil ?_
         try simp only [thenS, S.put]
         refine AW.seq ?_
         refine AW.region ?_
         refine AL.rp rfl rfl (rp_move rfl rfl) ?_
         (first | (refine AL.rp rfl rfl (rp_eqlT rfl rfl rfl (by first | assumption | omega | (dsimp only; omega))) ?_) | (refine AL.rp rfl rfl (rp_eqlF rfl rfl rfl (by first | assumption | omega | (dsimp only; omega))) ?_) | (refine AL.rp rfl rfl (rp_eql rfl rfl rfl) ?_))
         refine AL.nil ?_
         try simp only [thenS, S.put]
         refine AW.condF rfl ?_
         refine AW.seq ?_
         refine AW.region ?_
         refine AL.rp rfl rfl (rp_move rfl rfl) ?_
         (first | (refine AL.rp rfl rfl (rp_len_map Tryd.underlying9 rfl rfl (by assumption)) ?_) | (refine AL.rp rfl rfl (rp_len_own Tryd.underlying9 rfl rfl) ?_) | (refine AL.rp rfl rfl (rp_len_sl Tryd.underlying9 rfl rfl) ?_) | (refine AL.rp rfl rfl (rp_len_nil Tryd.underlying9 rfl rfl) ?_) | (refine AL.rp rfl rfl (rp_len_str Tryd.underlying9 rfl rfl) ?_))
         (first | (refine AL.rp rfl rfl (rp_eqlT rfl rfl rfl (by first | assumption | omega | (dsimp only; omega))) ?_) | (refine AL.rp rfl rfl (rp_eqlF rfl rfl rfl (by first | assumption | omega | (dsimp only; omega))) ?_) | (refine AL.rp rfl rfl (rp_eql rfl rfl rfl) ?_))
         refine AL.nil ?_
         try simp only [thenS, S.put]
         refine AW.condF rfl ?_
         refine AW.region ?_
         refine AL.rp rfl rfl (rp_move rfl rfl) ?_
         try simp only [S.put, S.newObj, setL, V.cs, List.length_cons, List.length_nil, List.take_succ_cons, List.take_zero, List.drop_succ_cons, List.drop_zero, List.drop_nil, List.nil_append, List.cons_append, List.append_nil, Nat.zero_add, Nat.reduceAdd]
         refine AL.pc [2, 3, 6, 37] (ts := [_, _, _, _]) (args := [_, _]) (post := ?pc13) ?hc13 rfl rfl rfl rfl rfl rfl rfl rfl rfl ?_
         case hc13 => (refine pc_fieldB 6 (b.toNat : Int) (by omega) _ _ <;> first | rfl | (simp [V.lowL, V.low]; done))
         rintro _ _ _ ⟨rfl, rfl, rfl⟩
         simp only [back, S.put, List.cons_append, List.nil_append, List.zip_cons_cons, List.zip_nil_left, List.drop_succ_cons, List.drop_zero, List.length_cons, List.length_nil, Nat.zero_add, Nat.reduceAdd]
         (first | (refine AL.rp rfl rfl (rp_nilCheck rfl rfl) ?_) | (refine AL.rp rfl rfl (rp_nilCheck_ad rfl rfl) ?_))
         (first | (refine AL.st rfl (st_store_map2 inf3 rfl rfl rfl rfl rfl rfl rfl rfl (by first | assumption | omega)) ?_) | (refine AL.st rfl (st_store inf3 rfl rfl rfl rfl rfl rfl rfl (by first | decide | (simp; done)) rfl) ?_))
         refine AL.nil ?_
         try simp only [thenS, S.put, S.newObj, setL, V.cs, List.length_cons, List.length_nil, List.take_succ_cons, List.take_zero, List.drop_succ_cons, List.drop_zero, List.drop_nil, List.nil_append, List.cons_append, List.append_nil, Nat.zero_add, Nat.reduceAdd, List.map_cons, List.map_nil, List.set_cons_zero, List.set_cons_succ]
         refine ⟨μ - 1, _, ?_, ⟨j + 1, ⟨(i + 1 : Nat), St, Sa, (-1), Sn⟩, by omega, rfl, hF', rfl⟩, by omega⟩
         exact (Less.of rfl (by repeat (first | exact trivial | refine ⟨⟨_, rfl, Wk.refl _⟩, ?_⟩ | refine ⟨⟨_, rfl, Wk.nil _ _⟩, ?_⟩ | refine ⟨⟨_, rfl, Wk.junk _⟩, ?_⟩)) (by repeat (first | exact trivial | refine ⟨rfl, ?_⟩)) rfl)
    ·have hjl' : j = len := by omega
     rw [List.drop_eq_nil_of_le (by omega), fillS] at hF
     subst hF
     refine AW.seq ?_
     refine AW.region ?_
     (first | (refine AL.st rfl (st_next rfl rfl (by assumption) (by omega) rfl (by first | rfl | (simp [S.put, S.newObj, setL, V.cs, V.mpsL, V.mps, D.mps, D.mpsL, D.mpsR]; done)) (by first | rfl | (simp [S.put, S.newObj, setL, V.cs, V.mpsL, V.mps, D.mps, D.mpsL, D.mpsR]; done)) (by first | rfl | (simp [S.put]; done)) rfl) ?_; simp only [S.put, List.map_cons, List.map_nil, upI_p, upI_ref, upI_junk, upI_it, upI_strs]) | (refine AL.rd rfl rfl (rd_nextEnd rfl rfl (by omega)) ?_))
     refine AL.rp rfl rfl (rp_extract rfl rfl rfl) ?_
     refine AL.nil ?_
     try simp only [thenS, S.put, S.newObj, setL, V.cs, List.length_cons, List.length_nil, List.take_succ_cons, List.take_zero, List.drop_succ_cons, List.drop_zero, List.drop_nil, List.nil_append, List.cons_append, List.append_nil, Nat.zero_add, Nat.reduceAdd, List.map_cons, List.map_nil, List.set_cons_zero, List.set_cons_succ]
     refine AW.seq ?_
     refine AW.condF rfl ?_
     refine AW.exit ?_
     try simp only [thenS, inBlockS, ↓reduceIte, Nat.reduceEqDiff]
     refine AW.seq ?_
     refine AW.region ?_
     (first | (refine AL.rd rfl rfl (rd_loads_ref Tryd.underlying60 rfl inf60 rfl rfl rfl rfl rfl rfl) ?_) | (refine AL.rd rfl rfl (rd_loads_ad Tryd.underlying60 rfl inf60 rfl rfl rfl rfl) ?_))
     refine AL.st rfl (st_store_any inf60 rfl rfl rfl rfl rfl rfl rfl rfl (by first | decide | (simp; done) | (simp; omega)) rfl) ?_
     refine AL.nil ?_
     try simp only [thenS, S.put, S.newObj, setL, V.cs, List.length_cons, List.length_nil, List.take_succ_cons, List.take_zero, List.drop_succ_cons, List.drop_zero, List.drop_nil, List.nil_append, List.cons_append, List.append_nil, Nat.zero_add, Nat.reduceAdd, List.map_cons, List.map_nil, List.set_cons_zero, List.set_cons_succ]
     refine AW.ret ?_
     exact ⟨[_], ⟨⟨2, 0, _, _, rfl, rfl, rfl, Tryd.underlying60, .inr ⟨rfl, _, _, _, _, inf60, rfl, rfl, rfl⟩⟩, trivial⟩, rfl, by simp [tupOf, V.pure, V.has, V.hasL]⟩
   ·rw [if_neg (fun h => hn h.2)] at hI
    refine AW.seq ?_
    refine AW.region ?_
    (first | (refine AL.rp rfl rfl (rp_lssT rfl rfl rfl (by first | assumption | omega | (dsimp only; omega))) ?_) | (refine AL.rp rfl rfl (rp_lssF rfl rfl rfl (by first | assumption | omega | (dsimp only; omega))) ?_) | (refine AL.rp rfl rfl (rp_lss rfl rfl rfl) ?_))
    refine AL.nil ?_
    try simp only [thenS, S.put]
    refine AW.seq ?_
    refine AW.condT rfl ?_
    refine AW.skip ?_
    try simp only [thenS]
    refine AW.seq ?_
    refine AW.block ?_
    refine AW.seq ?_
    refine AW.region ?_
    refine AL.rp rfl rfl (rp_index_agg (i) Tryd.underlying86 inf85 Tryd.underlying85 rfl rfl rfl rfl (by first | rfl | omega) (by omega) (by first | assumption | rfl)) ?_
    refine AL.sm rfl (sm_alloc (l := [.d (.p (.int .i64 0)), .d (.p (.string ⟨#[]⟩)), .d (.p (.string ⟨#[]⟩))]) 5 inf85 rfl (by first | rfl | simp [S.clean, S.put, S.newObj, S.forget, V.has, V.hasL, junkIf, setL, V.cs, hasL_i, hasL_d, hasL_b, hasL_s, hasL_n, hasL_rep, hasL_flat, hasL_append, -List.map_set]) rfl rfl) ?_
    refine AL.st rfl (st_store_any inf85 rfl rfl rfl rfl rfl rfl rfl rfl (by first | decide | (simp; done) | (simp; omega)) rfl) ?_
    refine AL.nil ?_
    try simp only [thenS, S.put, S.newObj, setL, V.cs, List.length_cons, List.length_nil, List.take_succ_cons, List.take_zero, List.drop_succ_cons, List.drop_zero, List.drop_nil, List.nil_append, List.cons_append, List.append_nil, Nat.zero_add, Nat.reduceAdd, List.map_cons, List.map_nil, List.set_cons_zero, List.set_cons_succ]
    refine AW.seq ?_
    refine AW.seq ?_
    refine AW.draw [(0, true), (1, true), (2, true), (3, true), (4, true), (5, true), (6, true), (7, true), (8, true), (9, true), (10, true), (11, true), (12, true), (13, true), (14, true)] (fun i => !([] : List Nat).contains i) 15 (by kernel_rfl) (by kernel_rfl) rfl (by kernel_rfl) ?_
    (first | (refine AD1.rp rfl rfl rfl (fun _ _ h => h) (rp_field_ref Tryd.underlying85 rfl rfl rfl inf9 (by decide) rfl) ?_) | (refine AD1.rp rfl rfl rfl (fun _ _ h => h) (rp_field_ad Tryd.underlying85 rfl rfl rfl inf9 (by decide) rfl) ?_))
    (first | (refine AD1.rd rfl rfl rfl (fun _ _ h => h) (rd_load_ref Tryd.underlying9 rfl rfl rfl rfl rfl rfl) ?_) | (refine AD1.rd rfl rfl rfl (fun _ _ h => h) (rd_load_ad Tryd.underlying9 rfl rfl rfl rfl) ?_) | (refine AD1.rd rfl rfl rfl (fun _ _ h => h) (rd_load_map Tryd.underlying9 rfl rfl rfl rfl rfl rfl (by assumption)) ?_) | (refine AD1.rd rfl rfl rfl (fun _ _ h => h) (rd_load_flat Tryd.underlying9 rfl rfl rfl rfl rfl rfl (fun _ => rfl) (by assumption) rfl) ?_))
    refine AD1.rp rfl rfl rfl (fun _ _ h => h) (rp_move rfl rfl) ?_
    (first | (refine AD1.rp rfl rfl rfl (fun _ _ h => h) (rp_index_own (k := 0) Tryd.underlying53 inf9 rfl rfl rfl (by omega) (by omega)) ?_) | (refine AD1.rp rfl rfl rfl (fun _ _ h => h) (rp_index_map (k := 0) Tryd.underlying53 inf9 rfl rfl rfl (by omega) (by assumption)) ?_))
    (first | (refine AD1.rd rfl rfl rfl (fun _ _ h => h) (rd_load_ref Tryd.underlying9 rfl rfl rfl rfl rfl rfl) ?_) | (refine AD1.rd rfl rfl rfl (fun _ _ h => h) (rd_load_ad Tryd.underlying9 rfl rfl rfl rfl) ?_) | (refine AD1.rd rfl rfl rfl (fun _ _ h => h) (rd_load_map Tryd.underlying9 rfl rfl rfl rfl rfl rfl (by assumption)) ?_) | (refine AD1.rd rfl rfl rfl (fun _ _ h => h) (rd_load_flat Tryd.underlying9 rfl rfl rfl rfl rfl rfl (fun _ => rfl) (by assumption) rfl) ?_))
    (first | (refine AD1.rp rfl rfl rfl (fun _ _ h => h) (rp_neqsF rfl rfl rfl (by assumption)) ?_) | (refine AD1.rp rfl rfl rfl (fun _ _ h => h) (rp_neqsT rfl rfl rfl (by assumption)) ?_) | (refine AD1.rp rfl rfl rfl (fun _ _ h => h) (rp_neqs rfl rfl rfl) ?_))
    refine AD1.rp rfl rfl rfl (fun _ _ h => h) (rp_move rfl rfl) ?_
    (first | (refine AD1.noV rfl rfl rfl rfl rfl (fun _ _ h => h) ?_) | (refine AD1.noU rfl rfl ⟨_, rfl, rfl⟩ rfl (fun _ _ h => h) ?_) | (refine AD1.rpy rfl rfl rfl rfl (fun _ _ h => h) (rp_move rfl rfl) ?_))
    (first | (refine AD1.noV rfl rfl rfl rfl rfl (fun _ _ h => h) ?_) | (refine AD1.noU rfl rfl ⟨_, rfl, rfl⟩ rfl (fun _ _ h => h) ?_) | (refine AD1.rpy rfl rfl rfl rfl (fun _ _ h => h) (rp_len_map Tryd.underlying53 rfl rfl (by assumption)) ?_) | (refine AD1.rpy rfl rfl rfl rfl (fun _ _ h => h) (rp_len_own Tryd.underlying53 rfl rfl) ?_) | (refine AD1.rpy rfl rfl rfl rfl (fun _ _ h => h) (rp_len_sl Tryd.underlying53 rfl rfl) ?_) | (refine AD1.rpy rfl rfl rfl rfl (fun _ _ h => h) (rp_len_nil Tryd.underlying53 rfl rfl) ?_) | (refine AD1.rpy rfl rfl rfl rfl (fun _ _ h => h) (rp_len_str Tryd.underlying53 rfl rfl) ?_))
    (first | (refine AD1.noV rfl rfl rfl rfl rfl (fun _ _ h => h) ?_) | (refine AD1.noU rfl rfl ⟨_, rfl, rfl⟩ rfl (fun _ _ h => h) ?_) | (refine AD1.rpy rfl rfl rfl rfl (fun _ _ h => h) (rp_field_ref Tryd.underlying85 rfl rfl rfl inf9 (by decide) rfl) ?_) | (refine AD1.rpy rfl rfl rfl rfl (fun _ _ h => h) (rp_field_ad Tryd.underlying85 rfl rfl rfl inf9 (by decide) rfl) ?_))
    (first | (refine AD1.noV rfl rfl rfl rfl rfl (fun _ _ h => h) ?_) | (refine AD1.noU rfl rfl ⟨_, rfl, rfl⟩ rfl (fun _ _ h => h) ?_) | (refine AD1.rdy rfl rfl rfl rfl (fun _ _ h => h) (rd_load_ref Tryd.underlying9 rfl rfl rfl rfl rfl rfl) ?_) | (refine AD1.rdy rfl rfl rfl rfl (fun _ _ h => h) (rd_load_ad Tryd.underlying9 rfl rfl rfl rfl) ?_) | (refine AD1.rdy rfl rfl rfl rfl (fun _ _ h => h) (rd_load_map Tryd.underlying9 rfl rfl rfl rfl rfl rfl (by assumption)) ?_) | (refine AD1.rdy rfl rfl rfl rfl (fun _ _ h => h) (rd_load_flat Tryd.underlying9 rfl rfl rfl rfl rfl rfl (fun _ => rfl) (by assumption) rfl) ?_))
    (first | (refine AD1.noV rfl rfl rfl rfl rfl (fun _ _ h => h) ?_) | (refine AD1.noU rfl rfl ⟨_, rfl, rfl⟩ rfl (fun _ _ h => h) ?_) | (refine AD1.rpy rfl rfl rfl rfl (fun _ _ h => h) (rp_len_map Tryd.underlying9 rfl rfl (by assumption)) ?_) | (refine AD1.rpy rfl rfl rfl rfl (fun _ _ h => h) (rp_len_own Tryd.underlying9 rfl rfl) ?_) | (refine AD1.rpy rfl rfl rfl rfl (fun _ _ h => h) (rp_len_sl Tryd.underlying9 rfl rfl) ?_) | (refine AD1.rpy rfl rfl rfl rfl (fun _ _ h => h) (rp_len_nil Tryd.underlying9 rfl rfl) ?_) | (refine AD1.rpy rfl rfl rfl rfl (fun _ _ h => h) (rp_len_str Tryd.underlying9 rfl rfl) ?_))
    (first | (refine AD1.noV rfl rfl rfl rfl rfl (fun _ _ h => h) ?_) | (refine AD1.noU rfl rfl ⟨_, rfl, rfl⟩ rfl (fun _ _ h => h) ?_) | (refine AD1.rpy rfl rfl rfl rfl (fun _ _ h => h) (rp_add rfl rfl rfl (by first | omega | (dsimp only; omega))) ?_))
    (first | (refine AD1.noV rfl rfl rfl rfl rfl (fun _ _ h => h) ?_) | (refine AD1.noU rfl rfl ⟨_, rfl, rfl⟩ rfl (fun _ _ h => h) ?_) | (refine AD1.rpy rfl rfl rfl rfl (fun _ _ h => h) (rp_neqT rfl rfl rfl (by first | assumption | omega | (dsimp only; omega))) ?_) | (refine AD1.rpy rfl rfl rfl rfl (fun _ _ h => h) (rp_neqF rfl rfl rfl (by first | assumption | omega | (dsimp only; omega))) ?_) | (refine AD1.rpy rfl rfl rfl rfl (fun _ _ h => h) (rp_neq rfl rfl rfl) ?_))
    refine AD1.rp rfl rfl rfl (fun _ _ h => h) (rp_pick rfl rfl rfl) ?_
    refine AD1.nil ?_
    try simp only [thenS, S.put]
    refine AW.condT rfl ?_
    refine AW.exit ?_
    try simp only [thenS, inBlockS, ↓reduceIte, Nat.reduceEqDiff]
    refine AW.region ?_
    refine AL.rp rfl rfl (rp_add rfl rfl rfl (by first | omega | (dsimp only; omega))) ?_
    refine AL.rp rfl rfl (rp_move rfl rfl) ?_
    refine AL.nil ?_
    try simp only [thenS, S.put]
    refine ⟨_, ?_, ⟨i + 1, by omega, hI, rfl⟩, ?_⟩
    ·exact (Less.of rfl (by repeat (first | exact trivial | refine ⟨⟨_, rfl, Wk.refl _⟩, ?_⟩ | refine ⟨⟨_, rfl, Wk.nil _ _⟩, ?_⟩ | refine ⟨⟨_, rfl, Wk.junk _⟩, ?_⟩)) (by repeat (first | exact trivial | refine ⟨rfl, ?_⟩)) rfl)
    ·simp [S.nat, fnd]; omega
  ·rw [if_neg (fun h => hw h.1)] at hI
   have hw' : (wdK (i + 1)).data.toList ≠ (bs p0).data.toList := fun h => hw (bs_ext h)
   refine AW.seq ?_
   refine AW.region ?_
   (first | (refine AL.rp rfl rfl (rp_lssT rfl rfl rfl (by first | assumption | omega | (dsimp only; omega))) ?_) | (refine AL.rp rfl rfl (rp_lssF rfl rfl rfl (by first | assumption | omega | (dsimp only; omega))) ?_) | (refine AL.rp rfl rfl (rp_lss rfl rfl rfl) ?_))
   refine AL.nil ?_
   try simp only [thenS, S.put]
   refine AW.seq ?_
   refine AW.condT rfl ?_
   refine AW.skip ?_
   try simp only [thenS]
   refine AW.seq ?_
   refine AW.block ?_
   refine AW.seq ?_
   refine AW.region ?_
   refine AL.rp rfl rfl (rp_index_agg (i) Tryd.underlying86 inf85 Tryd.underlying85 rfl rfl rfl rfl (by first | rfl | omega) (by omega) (by first | assumption | rfl)) ?_
   refine AL.sm rfl (sm_alloc (l := [.d (.p (.int .i64 0)), .d (.p (.string ⟨#[]⟩)), .d (.p (.string ⟨#[]⟩))]) 5 inf85 rfl (by first | rfl | simp [S.clean, S.put, S.newObj, S.forget, V.has, V.hasL, junkIf, setL, V.cs, hasL_i, hasL_d, hasL_b, hasL_s, hasL_n, hasL_rep, hasL_flat, hasL_append, -List.map_set]) rfl rfl) ?_
   refine AL.st rfl (st_store_any inf85 rfl rfl rfl rfl rfl rfl rfl rfl (by first | decide | (simp; done) | (simp; omega)) rfl) ?_
   refine AL.nil ?_
   try simp only [thenS, S.put, S.newObj, setL, V.cs, List.length_cons, List.length_nil, List.take_succ_cons, List.take_zero, List.drop_succ_cons, List.drop_zero, List.drop_nil, List.nil_append, List.cons_append, List.append_nil, Nat.zero_add, Nat.reduceAdd, List.map_cons, List.map_nil, List.set_cons_zero, List.set_cons_succ]
   refine AW.seq ?_
   refine AW.seq ?_
   refine AW.draw [(0, true), (1, true), (2, true), (3, true), (4, true), (5, true), (6, true), (7, true), (8, true), (9, true), (10, true), (11, true), (12, true), (13, true), (14, true)] (fun i => !([] : List Nat).contains i) 15 (by kernel_rfl) (by kernel_rfl) rfl (by kernel_rfl) ?_
   (first | (refine AD1.rp rfl rfl rfl (fun _ _ h => h) (rp_field_ref Tryd.underlying85 rfl rfl rfl inf9 (by decide) rfl) ?_) | (refine AD1.rp rfl rfl rfl (fun _ _ h => h) (rp_field_ad Tryd.underlying85 rfl rfl rfl inf9 (by decide) rfl) ?_))
   (first | (refine AD1.rd rfl rfl rfl (fun _ _ h => h) (rd_load_ref Tryd.underlying9 rfl rfl rfl rfl rfl rfl) ?_) | (refine AD1.rd rfl rfl rfl (fun _ _ h => h) (rd_load_ad Tryd.underlying9 rfl rfl rfl rfl) ?_) | (refine AD1.rd rfl rfl rfl (fun _ _ h => h) (rd_load_map Tryd.underlying9 rfl rfl rfl rfl rfl rfl (by assumption)) ?_) | (refine AD1.rd rfl rfl rfl (fun _ _ h => h) (rd_load_flat Tryd.underlying9 rfl rfl rfl rfl rfl rfl (fun _ => rfl) (by assumption) rfl) ?_))
   refine AD1.rp rfl rfl rfl (fun _ _ h => h) (rp_move rfl rfl) ?_
   (first | (refine AD1.rp rfl rfl rfl (fun _ _ h => h) (rp_index_own (k := 0) Tryd.underlying53 inf9 rfl rfl rfl (by omega) (by omega)) ?_) | (refine AD1.rp rfl rfl rfl (fun _ _ h => h) (rp_index_map (k := 0) Tryd.underlying53 inf9 rfl rfl rfl (by omega) (by assumption)) ?_))
   (first | (refine AD1.rd rfl rfl rfl (fun _ _ h => h) (rd_load_ref Tryd.underlying9 rfl rfl rfl rfl rfl rfl) ?_) | (refine AD1.rd rfl rfl rfl (fun _ _ h => h) (rd_load_ad Tryd.underlying9 rfl rfl rfl rfl) ?_) | (refine AD1.rd rfl rfl rfl (fun _ _ h => h) (rd_load_map Tryd.underlying9 rfl rfl rfl rfl rfl rfl (by assumption)) ?_) | (refine AD1.rd rfl rfl rfl (fun _ _ h => h) (rd_load_flat Tryd.underlying9 rfl rfl rfl rfl rfl rfl (fun _ => rfl) (by assumption) rfl) ?_))
   (first | (refine AD1.rp rfl rfl rfl (fun _ _ h => h) (rp_neqsF rfl rfl rfl (by assumption)) ?_) | (refine AD1.rp rfl rfl rfl (fun _ _ h => h) (rp_neqsT rfl rfl rfl (by assumption)) ?_) | (refine AD1.rp rfl rfl rfl (fun _ _ h => h) (rp_neqs rfl rfl rfl) ?_))
   refine AD1.rp rfl rfl rfl (fun _ _ h => h) (rp_move rfl rfl) ?_
   (first | (refine AD1.noV rfl rfl rfl rfl rfl (fun _ _ h => h) ?_) | (refine AD1.noU rfl rfl ⟨_, rfl, rfl⟩ rfl (fun _ _ h => h) ?_) | (refine AD1.rpy rfl rfl rfl rfl (fun _ _ h => h) (rp_move rfl rfl) ?_))
   (first | (refine AD1.noV rfl rfl rfl rfl rfl (fun _ _ h => h) ?_) | (refine AD1.noU rfl rfl ⟨_, rfl, rfl⟩ rfl (fun _ _ h => h) ?_) | (refine AD1.rpy rfl rfl rfl rfl (fun _ _ h => h) (rp_len_map Tryd.underlying53 rfl rfl (by assumption)) ?_) | (refine AD1.rpy rfl rfl rfl rfl (fun _ _ h => h) (rp_len_own Tryd.underlying53 rfl rfl) ?_) | (refine AD1.rpy rfl rfl rfl rfl (fun _ _ h => h) (rp_len_sl Tryd.underlying53 rfl rfl) ?_) | (refine AD1.rpy rfl rfl rfl rfl (fun _ _ h => h) (rp_len_nil Tryd.underlying53 rfl rfl) ?_) | (refine AD1.rpy rfl rfl rfl rfl (fun _ _ h => h) (rp_len_str Tryd.underlying53 rfl rfl) ?_))
   (first | (refine AD1.noV rfl rfl rfl rfl rfl (fun _ _ h => h) ?_) | (refine AD1.noU rfl rfl ⟨_, rfl, rfl⟩ rfl (fun _ _ h => h) ?_) | (refine AD1.rpy rfl rfl rfl rfl (fun _ _ h => h) (rp_field_ref Tryd.underlying85 rfl rfl rfl inf9 (by decide) rfl) ?_) | (refine AD1.rpy rfl rfl rfl rfl (fun _ _ h => h) (rp_field_ad Tryd.underlying85 rfl rfl rfl inf9 (by decide) rfl) ?_))
   (first | (refine AD1.noV rfl rfl rfl rfl rfl (fun _ _ h => h) ?_) | (refine AD1.noU rfl rfl ⟨_, rfl, rfl⟩ rfl (fun _ _ h => h) ?_) | (refine AD1.rdy rfl rfl rfl rfl (fun _ _ h => h) (rd_load_ref Tryd.underlying9 rfl rfl rfl rfl rfl rfl) ?_) | (refine AD1.rdy rfl rfl rfl rfl (fun _ _ h => h) (rd_load_ad Tryd.underlying9 rfl rfl rfl rfl) ?_) | (refine AD1.rdy rfl rfl rfl rfl (fun _ _ h => h) (rd_load_map Tryd.underlying9 rfl rfl rfl rfl rfl rfl (by assumption)) ?_) | (refine AD1.rdy rfl rfl rfl rfl (fun _ _ h => h) (rd_load_flat Tryd.underlying9 rfl rfl rfl rfl rfl rfl (fun _ => rfl) (by assumption) rfl) ?_))
   (first | (refine AD1.noV rfl rfl rfl rfl rfl (fun _ _ h => h) ?_) | (refine AD1.noU rfl rfl ⟨_, rfl, rfl⟩ rfl (fun _ _ h => h) ?_) | (refine AD1.rpy rfl rfl rfl rfl (fun _ _ h => h) (rp_len_map Tryd.underlying9 rfl rfl (by assumption)) ?_) | (refine AD1.rpy rfl rfl rfl rfl (fun _ _ h => h) (rp_len_own Tryd.underlying9 rfl rfl) ?_) | (refine AD1.rpy rfl rfl rfl rfl (fun _ _ h => h) (rp_len_sl Tryd.underlying9 rfl rfl) ?_) | (refine AD1.rpy rfl rfl rfl rfl (fun _ _ h => h) (rp_len_nil Tryd.underlying9 rfl rfl) ?_) | (refine AD1.rpy rfl rfl rfl rfl (fun _ _ h => h) (rp_len_str Tryd.underlying9 rfl rfl) ?_))
   (first | (refine AD1.noV rfl rfl rfl rfl rfl (fun _ _ h => h) ?_) | (refine AD1.noU rfl rfl ⟨_, rfl, rfl⟩ rfl (fun _ _ h => h) ?_) | (refine AD1.rpy rfl rfl rfl rfl (fun _ _ h => h) (rp_add rfl rfl rfl (by first | omega | (dsimp only; omega))) ?_))
   (first | (refine AD1.noV rfl rfl rfl rfl rfl (fun _ _ h => h) ?_) | (refine AD1.noU rfl rfl ⟨_, rfl, rfl⟩ rfl (fun _ _ h => h) ?_) | (refine AD1.rpy rfl rfl rfl rfl (fun _ _ h => h) (rp_neqT rfl rfl rfl (by first | assumption | omega | (dsimp only; omega))) ?_) | (refine AD1.rpy rfl rfl rfl rfl (fun _ _ h => h) (rp_neqF rfl rfl rfl (by first | assumption | omega | (dsimp only; omega))) ?_) | (refine AD1.rpy rfl rfl rfl rfl (fun _ _ h => h) (rp_neq rfl rfl rfl) ?_))
   refine AD1.rp rfl rfl rfl (fun _ _ h => h) (rp_pick rfl rfl rfl) ?_
   refine AD1.nil ?_
   try simp only [thenS, S.put]
   refine AW.condT rfl ?_
   refine AW.exit ?_
   try simp only [thenS, inBlockS, ↓reduceIte, Nat.reduceEqDiff]
   refine AW.region ?_
   refine AL.rp rfl rfl (rp_add rfl rfl rfl (by first | omega | (dsimp only; omega))) ?_
   refine AL.rp rfl rfl (rp_move rfl rfl) ?_
   refine AL.nil ?_
   try simp only [thenS, S.put]
   refine ⟨_, ?_, ⟨i + 1, by omega, hI, rfl⟩, ?_⟩
   ·exact (Less.of rfl (by repeat (first | exact trivial | refine ⟨⟨_, rfl, Wk.refl _⟩, ?_⟩ | refine ⟨⟨_, rfl, Wk.nil _ _⟩, ?_⟩ | refine ⟨⟨_, rfl, Wk.junk _⟩, ?_⟩)) (by repeat (first | exact trivial | refine ⟨rfl, ?_⟩)) rfl)
   ·simp [S.nat, fnd]; omega
 ·obtain rfl : i = 15 := by omega
  have hI' : R = ⟨0, 0, 0, 0, ⟨#[]⟩⟩ := hI.symm
  subst hI'
  refine AW.seq ?_
  refine AW.region ?_
  (first | (refine AL.rp rfl rfl (rp_lssT rfl rfl rfl (by first | assumption | omega | (dsimp only; omega))) ?_) | (refine AL.rp rfl rfl (rp_lssF rfl rfl rfl (by first | assumption | omega | (dsimp only; omega))) ?_) | (refine AL.rp rfl rfl (rp_lss rfl rfl rfl) ?_))
  refine AL.nil ?_
  try simp only [thenS, S.put]
  refine AW.seq ?_
  refine AW.condF rfl ?_
  refine AW.exit ?_
  try simp only [thenS, inBlockS, ↓reduceIte, Nat.reduceEqDiff]
  refine AW.seq ?_
  refine AW.region ?_
  refine AL.rp rfl rfl (rp_build (vs := []) (zs := [.d (.p (.int .i64 0)), .d (.p (.int .i64 0)), .d (.p (.int .i64 0)), .d (.p (.int .i64 0)), .d (.p (.string ⟨#[]⟩))]) pl60 inf60 rfl rfl rfl rfl) ?_
  refine AL.st rfl (st_store_any inf60 rfl rfl rfl rfl rfl rfl rfl rfl (by first | decide | (simp; done) | (simp; omega)) rfl) ?_
  refine AL.nil ?_
  try simp only [thenS, S.put, S.newObj, setL, V.cs, List.length_cons, List.length_nil, List.take_succ_cons, List.take_zero, List.drop_succ_cons, List.drop_zero, List.drop_nil, List.nil_append, List.cons_append, List.append_nil, Nat.zero_add, Nat.reduceAdd, List.map_cons, List.map_nil, List.set_cons_zero, List.set_cons_succ]
  refine AW.ret ?_
  exact ⟨[_], ⟨⟨2, 0, _, _, rfl, rfl, rfl, Tryd.underlying60, .inr ⟨rfl, _, _, _, _, inf60, rfl, rfl, rfl⟩⟩, trivial⟩, rfl, by simp [tupOf, V.pure, V.has, V.hasL]⟩
end Go.Proofs.YtlgnjehfojogmaaDoor
