/- A machine is copied. -/
import Derived.Test.YtnnmdcagbcdfpaaMach
import Derived.Test.YtnnmdcagbcdfpaaOrder
namespace Go.Proofs.Ytnnmdcagbcdfpaa
open Go.RowKit
set_option linter.unusedSimpArgs false
set_option linter.unusedVariables false

/-- What one round of the copy does to memory. -/
theorem copy_step (w wr w1 w2 : World) (sv v2 : Value) (ts : List (Int × Value × List Ar)) (f : Int) (a1 : Option Addr) (cap1 : Nat) (l : List Ar) (base : Nat) (hbase : w.heap.size ≤ base)
    (hz : base ≤ wr.heap.size) (HB : Bld wr base sv ts) (hbel : Below w.heap.size w wr) (hbl : Below wr.drew.heap.size wr.drew w1)
    (hat1 : ArcsAt w1 (.slice a1 l.length cap1) l) (hown1 : w1.ownsRow wr.drew.heap.size 59 4 (.slice a1 l.length cap1) l.length (l.flatMap arCells))
    (hown2 : w2.ownsRow base 55 2 v2 (ts.length + 1) ((ts ++ [((f, Value.slice a1 l.length cap1, l) : Int × Value × List Ar)]).flatMap stCells))
    (hv2 : ∃ g cap, v2 = .slice (some ⟨g, 0, none⟩) (ts.length + 1) cap ∧ (sv.ownBlock = some g ∨ g = (w1.alloc (.cells #[.int .i64 f, .slice a1 l.length cap1] 55)).heap.size) ∧ g < w2.heap.size)
    (hgrow2 : (w1.alloc (.cells #[.int .i64 f, .slice a1 l.length cap1] 55)).grownBy w2 sv.ownBlock) :
    (∀ bb, bb < base → w2.heap[bb]? = wr.heap[bb]?) ∧ Bld w2 base v2 (ts ++ [((f, Value.slice a1 l.length cap1, l) : Int × Value × List Ar)]) ∧ Below w.heap.size w w2 ∧ wr.heap.size ≤ w2.heap.size := by
  have hd : Below wr.heap.size wr wr.drew := (Below.refl _ _).drew
  have hW : Below wr.heap.size wr (w1.alloc (.cells #[.int .i64 f, .slice a1 l.length cap1] 55)) := (hd.trans hbl).alloc hbl.size _
  have hbz : base ≤ wr.drew.heap.size := hz
  refine push_step w wr _ w2 sv v2 ts (f, .slice a1 l.length cap1, l) base hbase hz HB hbel hW ((hown1.lower hbz).alloc _) (SlAt.lt hat1) ?_ hown2 hv2 hgrow2
  intro kk hkk
  exact (hown1.lt kk hkk).1

set_option maxHeartbeats 2000000 in
theorem law_machine (v : Value) (m : Mach) (w : World) (h : MachAt w v m) : Calls Try.prog 16 #[v] w fun e w' => ∃ v', e = .returned v' ∧ MachAt w' v' m ∧ Below w.heap.size w w' := by
  obtain ⟨a, len, cap, rfl, hl, H, Hl⟩ := MachAt.opens h
  clear h
  obtain ⟨st, sts⟩ := m
  simp only at H Hl ⊢
  go_enter Try.func16, Try.ntmps16
  go_wp2_with fail
  go_loopw [4] (fun i wr => ∃ (k : Nat) (sv : Value) (ts : List (Int × Value × List Ar)), k ≤ len ∧ i = .int .i64 k ∧ wr.cell? ⟨w.heap.size, 1, none⟩ = some (.slice a len cap) ∧
      wr.cell? ⟨w.heap.size + 1 + 1, 0, none⟩ = some (.int .i64 st) ∧ wr.cell? ⟨w.heap.size + 1 + 1, 1, none⟩ = some sv ∧ wr.frozen? ⟨w.heap.size + 1 + 1, 1, none⟩ = false ∧
      Bld wr (w.heap.size + 1 + 1 + 1) sv ts ∧ ts.length = k ∧ sts.take k = ts.map (fun x => ⟨x.1, x.2.2⟩) ∧ Below w.heap.size w wr ∧
      (∃ r0 r1, wr.cell? ⟨w.heap.size + 1, 0, none⟩ = some r0 ∧ wr.cell? ⟨w.heap.size + 1, 1, none⟩ = some r1) ∧ wr.frozen? ⟨w.heap.size + 1, 0, none⟩ = false ∧ wr.frozen? ⟨w.heap.size + 1, 1, none⟩ = false) (fun i _ => len - (intOf i).toNat)
  case atStart => exact ⟨0, .slice none 0 0, [], Nat.zero_le _, rfl, by simp [go_sem], by simp [go_sem], by simp [go_sem], by simp [go_sem], Bld.nil _ _, rfl, rfl, (by repeat' (first | (with_reducible exact Below.refl _ _) | (with_reducible assumption) | (with_reducible refine Below.dr ?_ _) | (with_reducible refine Below.d1 ?_) | (with_reducible refine Below.al ?_ _) | (with_reducible refine Below.tr ?_ (by assumption)) | (with_reducible refine Below.drewN ?_ _) | (with_reducible refine Below.drew ?_) | (with_reducible refine Below.alloc ?_ ?_ _) | (with_reducible refine Below.setCell ?_ ?_ _) | (with_reducible refine Below.trans ?_ (Below.mono (by assumption) ?_)) | omega | (simp; done) | (simp; omega) | (simp [*]; done))), ⟨_, _, by simp [go_sem]; rfl, by simp [go_sem]; rfl⟩, by simp [go_sem], by simp [go_sem]⟩
  case round =>
    obtain ⟨k, sv, ts, hk, rfl, c0, d0, d1, df, hB, hn, hst, hbel, hr, hr0, hr1⟩ := hrel
    have HB := Lib.hid hB
    have Hn := Lib.hid hn
    have Hst := Lib.hid hst
    clear hB hn hst
    have hz0 := blt c0
    have hz1 := blt d0
    by_cases hlt : k < len
    · have HR := Lib.hid hr
      have HR0 := Lib.hid hr0
      have HR1 := Lib.hid hr1
      clear hr hr0 hr1
      obtain ⟨b, o, x, av, rfl, hx, e0', e1', eA'⟩ := StatesAt.at H.out hlt
      have hb0 := blt e0'
      have e0 := (hbel.cell (p := ⟨b, o + k * 2, none⟩) hb0).trans e0'
      have e1 := (hbel.cell (p := ⟨b, o + k * 2 + 1, none⟩) hb0).trans e1'
      have eA := eA'.mono hbel
      clear e0' e1' eA'
      have hb1 := blt e0
      have Hfar := Lib.hid HB.out.far
      have HLe : Hid (w.heap.size ≤ w.heap.size + 1 + 1 + 1 ∧ w.heap.size + 1 + 1 + 1 ≤ wr.heap.size) := ⟨by omega, by omega⟩
      have Hx := Lib.hid hx
      have HA := Lib.hid eA
      clear hx eA
      have HA' : Hid (ArcsAt wr.drew av x.arcs) := HA.out.mono (by repeat' (first | (with_reducible exact Below.refl _ _) | (with_reducible assumption) | (with_reducible refine Below.dr ?_ _) | (with_reducible refine Below.d1 ?_) | (with_reducible refine Below.al ?_ _) | (with_reducible refine Below.tr ?_ (by assumption)) | (with_reducible refine Below.drewN ?_ _) | (with_reducible refine Below.drew ?_) | (with_reducible refine Below.alloc ?_ ?_ _) | (with_reducible refine Below.setCell ?_ ?_ _) | (with_reducible refine Below.trans ?_ (Below.mono (by assumption) ?_)) | omega | (simp; done) | (simp; omega) | (simp [*]; done)))
      have HB' : Hid (Bld wr.drew (w.heap.size + 1 + 1 + 1) sv ts) := HB.out.below (by repeat' (first | (with_reducible exact Below.refl _ _) | (with_reducible assumption) | (with_reducible refine Below.dr ?_ _) | (with_reducible refine Below.d1 ?_) | (with_reducible refine Below.al ?_ _) | (with_reducible refine Below.tr ?_ (by assumption)) | (with_reducible refine Below.drewN ?_ _) | (with_reducible refine Below.drew ?_) | (with_reducible refine Below.alloc ?_ ?_ _) | (with_reducible refine Below.setCell ?_ ?_ _) | (with_reducible refine Below.trans ?_ (Below.mono (by assumption) ?_)) | omega | (simp; done) | (simp; omega) | (simp [*]; done)))
      go_wp2_with fail
      refine region_any (fun w' => w'.cell? ⟨w.heap.size, 1, none⟩ = some (.slice (some ⟨b, o, none⟩) len cap) ∧ w'.cell? ⟨w.heap.size + 1 + 1, 1, none⟩ = some sv ∧ w'.cell? ⟨b, o + k * 2, none⟩ = some (.int .i64 x.fin) ∧ w'.cell? ⟨b, o + k * 2 + 1, none⟩ = some av ∧ w'.frozen? ⟨w.heap.size + 1 + 1, 1, none⟩ = false) 19 20 rfl (by kernel_rfl) ⟨c0, d1, e0, e1, df⟩ (fun hS => ?_)
      (refine any_take 0 (v := ?_) (by kernel_rfl) rfl rfl (by kernel_rfl) (by kernel_rfl) (by kernel_rfl) (fun _ _ _ h => h) (Or.inl ⟨by rfl, ?_⟩) (by assumption) ?_; rotate_left; (focus (intro w' hS'; (try dsimp only at hS'); go_split_ands; go_simp; try with_reducible rfl)); try simp only [Act.put, List.setIfInBounds_toArray, List.set_cons_zero, List.set_cons_succ])
      (refine any_take 1 (v := ?_) (by kernel_rfl) rfl rfl (by kernel_rfl) (by kernel_rfl) (by kernel_rfl) (fun _ _ _ h => h) (Or.inl ⟨by rfl, ?_⟩) (by assumption) ?_; rotate_left; (focus (intro w' hS'; (try dsimp only at hS'); go_split_ands; go_simp; try with_reducible rfl)); try simp only [Act.put, List.setIfInBounds_toArray, List.set_cons_zero, List.set_cons_succ])
      (refine any_take 2 (v := ?_) (by kernel_rfl) rfl rfl (by kernel_rfl) (by kernel_rfl) (by kernel_rfl) (fun _ _ _ h => h) (Or.inl ⟨by rfl, ?_⟩) (by assumption) ?_; rotate_left; (focus (intro w' hS'; (try dsimp only at hS'); go_split_ands; go_simp; try with_reducible rfl)); try simp only [Act.put, List.setIfInBounds_toArray, List.set_cons_zero, List.set_cons_succ])
      (refine any_take 3 (v := ?_) (by kernel_rfl) rfl rfl (by kernel_rfl) (by kernel_rfl) (by kernel_rfl) (fun _ _ _ h => h) (Or.inl ⟨by rfl, ?_⟩) (by assumption) ?_; rotate_left; (focus (intro w' hS'; (try dsimp only at hS'); go_split_ands; go_simp; try with_reducible rfl)); try simp only [Act.put, List.setIfInBounds_toArray, List.set_cons_zero, List.set_cons_succ])
      (refine any_take 4 (v := ?_) (by kernel_rfl) rfl rfl (by kernel_rfl) (by kernel_rfl) (by kernel_rfl) (fun _ _ _ h => h) (Or.inl ⟨by rfl, ?_⟩) (by assumption) ?_; rotate_left; (focus (intro w' hS'; (try dsimp only at hS'); go_split_ands; go_simp; try with_reducible rfl)); try simp only [Act.put, List.setIfInBounds_toArray, List.set_cons_zero, List.set_cons_succ])
      (refine any_take 5 (v := ?_) (by kernel_rfl) rfl rfl (by kernel_rfl) (by kernel_rfl) (by kernel_rfl) (fun _ _ _ h => h) (Or.inl ⟨by rfl, ?_⟩) (by assumption) ?_; rotate_left; (focus (intro w' hS'; (try dsimp only at hS'); go_split_ands; go_simp; try with_reducible rfl)); try simp only [Act.put, List.setIfInBounds_toArray, List.set_cons_zero, List.set_cons_succ])
      (refine any_take 6 (v := ?_) (by kernel_rfl) rfl rfl (by kernel_rfl) (by kernel_rfl) (by kernel_rfl) (fun _ _ _ h => h) (Or.inl ⟨by rfl, ?_⟩) (by assumption) ?_; rotate_left; (focus (intro w' hS'; (try dsimp only at hS'); go_split_ands; go_simp; try with_reducible rfl)); try simp only [Act.put, List.setIfInBounds_toArray, List.set_cons_zero, List.set_cons_succ])
      (refine any_take 7 (v := ?_) (by kernel_rfl) rfl rfl (by kernel_rfl) (by kernel_rfl) (by kernel_rfl) (fun _ _ _ h => h) (Or.inl ⟨by rfl, ?_⟩) (by assumption) ?_; rotate_left; (focus (intro w' hS'; (try dsimp only at hS'); go_split_ands; go_simp; try with_reducible rfl)); try simp only [Act.put, List.setIfInBounds_toArray, List.set_cons_zero, List.set_cons_succ])
      (refine any_take 8 (v := ?_) (by kernel_rfl) rfl rfl (by kernel_rfl) (by kernel_rfl) (by kernel_rfl) (fun _ _ _ h => h) (Or.inl ⟨by rfl, ?_⟩) (by assumption) ?_; rotate_left; (focus (intro w' hS'; (try dsimp only at hS'); go_split_ands; go_simp; try with_reducible rfl)); try simp only [Act.put, List.setIfInBounds_toArray, List.set_cons_zero, List.set_cons_succ])
      (refine any_take 9 (v := ?_) (by kernel_rfl) rfl rfl (by kernel_rfl) (by kernel_rfl) (by kernel_rfl) (fun _ _ _ h => h) (Or.inl ⟨by rfl, ?_⟩) (by assumption) ?_; rotate_left; (focus (intro w' hS'; (try dsimp only at hS'); go_split_ands; go_simp; try with_reducible rfl)); try simp only [Act.put, List.setIfInBounds_toArray, List.set_cons_zero, List.set_cons_succ])
      (refine any_take 10 (v := ?_) (by kernel_rfl) rfl rfl (by kernel_rfl) (by kernel_rfl) (by kernel_rfl) (fun _ _ _ h => h) (Or.inl ⟨by rfl, ?_⟩) (by assumption) ?_; rotate_left; (focus (intro w' hS'; (try dsimp only at hS'); go_split_ands; go_simp; try with_reducible rfl)); try simp only [Act.put, List.setIfInBounds_toArray, List.set_cons_zero, List.set_cons_succ])
      (refine any_take 11 (v := ?_) (by kernel_rfl) rfl rfl (by kernel_rfl) (by kernel_rfl) (by kernel_rfl) (fun _ _ _ h => h) (Or.inl ⟨by rfl, ?_⟩) (by assumption) ?_; rotate_left; (focus (intro w' hS'; (try dsimp only at hS'); go_split_ands; go_simp; try with_reducible rfl)); try simp only [Act.put, List.setIfInBounds_toArray, List.set_cons_zero, List.set_cons_succ])
      (refine any_take 12 (v := ?_) (by kernel_rfl) rfl rfl (by kernel_rfl) (by kernel_rfl) (by kernel_rfl) (fun _ _ _ h => h) (Or.inl ⟨by rfl, ?_⟩) (by assumption) ?_; rotate_left; (focus (intro w' hS'; (try dsimp only at hS'); go_split_ands; go_simp; try with_reducible rfl)); try simp only [Act.put, List.setIfInBounds_toArray, List.set_cons_zero, List.set_cons_succ])
      (refine any_take 13 (v := ?_) (by kernel_rfl) rfl rfl (by kernel_rfl) (by kernel_rfl) (by kernel_rfl) (fun _ _ _ h => h) (Or.inl ⟨by rfl, ?_⟩) (by assumption) ?_; rotate_left; (focus (intro w' hS'; (try dsimp only at hS'); go_split_ands; go_simp; try with_reducible rfl)); try simp only [Act.put, List.setIfInBounds_toArray, List.set_cons_zero, List.set_cons_succ])
      refine any_one 14 (by kernel_rfl) rfl (fun K hK => ?_)
      refine step_append_clone rfl _ _ 53 rfl rfl 59 4 32 (.agg #[.int .i64 0, .int .i64 0, .int .i64 0, .int .i64 0]) Try.underlying53 (by kernel_rfl) rfl (by omega) (by omega) arCells arCells_len arCells_one av x.arcs rfl HA'.out ?_
      intro v1 w1 hown1 hat1 hbl hnil1
      obtain ⟨a1, cap1, rfl⟩ := SlAt.val hat1
      have hsz1 : wr.heap.size ≤ w1.heap.size := by simpa using hbl.size
      have hS1 := keep4f (W' := w1) hS (fun kk hkk => hbl.block kk (by simp only [World.size_drew]; omega))
      refine any_hand hK (fun _ => hS1) (fun hx => ?_)
      clear hx
      clear hK K hS
      (refine any_take 15 (v := ?_) (by kernel_rfl) rfl rfl (by kernel_rfl) (by kernel_rfl) (by kernel_rfl) (fun _ _ _ h => h) (Or.inl ⟨by rfl, ?_⟩) (by assumption) ?_; rotate_left; (focus (intro w' hS'; (try dsimp only at hS'); go_split_ands; go_simp; try with_reducible rfl)); try simp only [Act.put, List.setIfInBounds_toArray, List.set_cons_zero, List.set_cons_succ])
      refine any_one 16 (by kernel_rfl) rfl (fun K hK => ?_)
      go_wp2_with fail
      refine any_hand hK (fun _ => keep4f hS1 (fun kk hkk => Below.heap_alloc _ _ _ (by omega))) (fun hS2 => ?_)
      clear hK K hS1
      have hS2 := hS2 (by decide)
      refine any_one 17 (by kernel_rfl) rfl (fun K hK => ?_)
      refine step_append_at rfl _ _ 22 rfl (w.heap.size + 1 + 1 + 1) 55 2 32 (.agg #[.int .i64 0, .slice none 0 0]) Try.underlying22 (by kernel_rfl) rfl (by omega) (by omega) stCells stCells_len sv ts rfl (Bld.own (Bld.below HB'.out (by repeat' (first | (with_reducible exact Below.refl _ _) | (with_reducible assumption) | (with_reducible refine Below.dr ?_ _) | (with_reducible refine Below.d1 ?_) | (with_reducible refine Below.al ?_ _) | (with_reducible refine Below.tr ?_ (by assumption)) | (with_reducible refine Below.drewN ?_ _) | (with_reducible refine Below.drew ?_) | (with_reducible refine Below.alloc ?_ ?_ _) | (with_reducible refine Below.setCell ?_ ?_ _) | (with_reducible refine Below.trans ?_ (Below.mono (by assumption) ?_)) | omega | (simp; done) | (simp; omega) | (simp [*]; done))))) (x.fin, .slice a1 x.arcs.length cap1, x.arcs) (stCells_one _ _ _ _ _) ⟨w1.heap.size, 0, none⟩ 1 rfl (new_row_cells w1 _ _) (by have := Hn.out; omega) (by simp; omega) ?_
      intro v2 w2 hown2 hv2 hgrow2
      obtain ⟨g2, cap2, rfl, hg2, hlt2⟩ := id hv2
      have Hown2 := Lib.hid hown2
      have Hv2 := Lib.hid hv2
      clear hown2 hv2 hg2 hlt2
      have hS3 := keep4f (W' := w2) hS2 (fun kk hkk => hgrow2.block kk (by simp; omega) (Hfar.out kk (by omega)))
      refine any_hand hK (fun _ => hS3) (fun hx => ?_)
      clear hx
      clear hK K hS2
      (refine any_take 18 (v := ?_) (by kernel_rfl) rfl rfl (by kernel_rfl) (by kernel_rfl) (by kernel_rfl) (fun _ _ _ h => h) (Or.inl ⟨by rfl, ?_⟩) (by assumption) ?_; rotate_left; (focus (intro w' hS'; (try dsimp only at hS'); go_split_ands; go_simp; try with_reducible rfl)); try simp only [Act.put, List.setIfInBounds_toArray, List.set_cons_zero, List.set_cons_succ])
      refine any_one 19 (by kernel_rfl) rfl (fun K hK => ?_)
      obtain ⟨s1, s2, s3, s4, s5⟩ := hS3
      have Hgrow2 := Lib.hid hgrow2
      clear hgrow2 hnil1 s1 s3 s4
      rw [if_pos (by rfl)]
      go_simp
      refine any_hand hK (fun h => absurd rfl h) (fun hx => ?_)
      clear hx
      clear hK K
      refine any_done (by kernel_rfl) ?_
      go_wp2_with fail
      have hcs := copy_step w wr w1 w2 sv _ ts x.fin a1 cap1 x.arcs (w.heap.size + 1 + 1 + 1) HLe.out.1 HLe.out.2 HB.out hbel hbl hat1 hown1 Hown2.out Hv2.out Hgrow2.out
      obtain ⟨hfin, hB2, hbl2, hsz2⟩ := hcs
      have f0 := (World.cell?_of_block (w := wr) (a := ⟨w.heap.size, 1, none⟩) (hfin _ (by simp))).trans c0
      have f1 := (World.cell?_of_block (w := wr) (a := ⟨w.heap.size + 1 + 1, 0, none⟩) (hfin _ (by simp))).trans d0
      have f2 := (World.cell?_of_block (w := wr) (a := ⟨w.heap.size + 1 + 1, 1, none⟩) (hfin _ (by simp))).trans d1
      have f3 := (World.frozen?_of_block (w := wr) (a := ⟨w.heap.size + 1 + 1, 1, none⟩) (hfin _ (by simp))).trans df
      go_roundw
      case rel =>
        refine ⟨k + 1, _, ts ++ [(x.fin, .slice a1 x.arcs.length cap1, x.arcs)], by omega, by go_num, ?_, ?_, ?_, ?_, hB2.stored (by simp) _, ?_, ?_, hbl2.setCell (by simp) _, ?_, ?_, ?_⟩
        · simp [go_sem, f0]
        · simp [go_sem, f1]
        · simp [go_sem, f2]
        · simp [go_sem, f3]
        · simp [Hn.out]
        · rw [take_snoc Hx.out, Hst.out]; simp
        · obtain ⟨r0, r1, hr0, hr1⟩ := HR.out
          have f4 := (World.cell?_of_block (w := wr) (a := ⟨w.heap.size + 1, 0, none⟩) (hfin _ (by simp))).trans hr0
          have f5 := (World.cell?_of_block (w := wr) (a := ⟨w.heap.size + 1, 1, none⟩) (hfin _ (by simp))).trans hr1
          exact ⟨r0, r1, by simp [go_sem, f4], by simp [go_sem, f5]⟩
        · have f6 := (World.frozen?_of_block (w := wr) (a := ⟨w.heap.size + 1, 0, none⟩) (hfin _ (by simp))).trans HR0.out
          simp [go_sem, f6]
        · have f7 := (World.frozen?_of_block (w := wr) (a := ⟨w.heap.size + 1, 1, none⟩) (hfin _ (by simp))).trans HR1.out
          simp [go_sem, f7]
      case measure => simp [intOf]; omega
    · obtain ⟨r0, r1, q0, q1⟩ := hr
      have hlen : ts.length * 32 ≤ 140737488355328 := by have := Hn.out; omega
      have hsts : sts = ts.map (fun x => (⟨x.1, x.2.2⟩ : St)) := by
        rw [← Hst.out, show k = sts.length by have := Hl.out; omega]; exact (List.take_length).symm
      obtain ⟨a9, len9, cap9, rfl, -, -, -⟩ := (HB.out.states hlen).opens
      have q2 : (wr.setCell ⟨w.heap.size + 1, 0, none⟩ (.int .i64 st)).cell? ⟨w.heap.size + 1, 1, none⟩ = some r1 := by simp [go_sem, q1]
      have q3 : (wr.setCell ⟨w.heap.size + 1, 0, none⟩ (.int .i64 st)).frozen? ⟨w.heap.size + 1, 1, none⟩ = false := by simp [go_sem, hr1]
      have HB2 : Hid (Bld ((wr.setCell ⟨w.heap.size + 1, 0, none⟩ (.int .i64 st)).setCell ⟨w.heap.size + 1, 1, none⟩ (.slice a9 len9 cap9)) (w.heap.size + 1 + 1 + 1) (.slice a9 len9 cap9) ts) :=
        (HB.out.stored (by simp) _).stored (by simp) _
      have Hsts := Lib.hid hsts
      clear hsts
      go_wp2_with fail
      have g0 : ((wr.setCell ⟨w.heap.size + 1, 0, none⟩ (.int .i64 st)).setCell ⟨w.heap.size + 1, 1, none⟩ (.slice a9 len9 cap9)).cell? ⟨w.heap.size + 1, 0, none⟩ = some (.int .i64 st) := by simp [go_sem, q0]
      have g1 : ((wr.setCell ⟨w.heap.size + 1, 0, none⟩ (.int .i64 st)).setCell ⟨w.heap.size + 1, 1, none⟩ (.slice a9 len9 cap9)).cell? ⟨w.heap.size + 1, 1, none⟩ = some (.slice a9 len9 cap9) := by simp [go_sem, q1]
      refine bodyPost_ret (v := .agg #[.int .i64 st, .slice a9 len9 cap9]) ?_ rfl ⟨_, rfl, ⟨_, rfl, ?_⟩, ?_⟩
      · generalize (wr.setCell ⟨w.heap.size + 1, 0, none⟩ (.int .i64 st)).setCell ⟨w.heap.size + 1, 1, none⟩ (.slice a9 len9 cap9) = wz at g0 g1 ⊢
        simp [results, Try.results16, go_sem, g0, g1]
      · exact Hsts.out ▸ HB2.out.states hlen
      · exact (hbel.setCell (by simp) _).setCell (by simp) _
end Go.Proofs.Ytnnmdcagbcdfpaa
