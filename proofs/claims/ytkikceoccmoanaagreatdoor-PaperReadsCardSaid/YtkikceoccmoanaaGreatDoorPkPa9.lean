/- Part 9 of what the law PaperReads rests on. -/
import Derived.Shelf.Strings.OnBuilder
import Derived.RowKit
import Derived.Test.YtkikceoccmoanaaGreatDoorProg
import Derived.Lib.Builder
import Derived.Test.YtkikceoccmoanaaGreatDoorPkPa1
import Derived.Test.YtkikceoccmoanaaGreatDoorPkPa2
import Derived.Test.YtkikceoccmoanaaGreatDoorPkPa3
import Derived.Test.YtkikceoccmoanaaGreatDoorPkPa4
import Derived.Test.YtkikceoccmoanaaGreatDoorPkPa5
import Derived.Test.YtkikceoccmoanaaGreatDoorPkPa6
import Derived.Test.YtkikceoccmoanaaGreatDoorPkPa7
import Derived.Test.YtkikceoccmoanaaGreatDoorPkPa8
namespace Go.Proofs.YtkikceoccmoanaaGreatDoor
open Go.RowKit
set_option linter.unusedSimpArgs false
set_option linter.unusedVariables false
set_option maxRecDepth 100000

section
variable {c : Cx} {s : S} {o : Oper}
/-- Without its first elements. -/
theorem rd_slice_fromD {t e : TypeId} {x y : Operand} {sz bt bt' j : Nat} {z : Value} {rows rows' : List (List D)} {n' : Int} {kd : IntKind} (hu : c.P.underlying t = some (.slice e)) (hi : Inf c.P e sz bt z) (ho : o.op = .slice t x (some y) none none) (hx : s.ev x = some (.d (.sl sz bt' rows))) (hy : s.ev y = some (.d (.p (.int kd n')))) (hk : n' = (j : Int)) (hle : j ≤ rows.length) (hr : rows.drop j = rows') :
  RD c o s (.d (.sl sz bt' rows')) := fun g a w hs => by
 subst hk hr
 have h := hs.ev hx
 have hyv := VRep.p_eq (hs.ev hy)
 generalize hxx : a.eval x = u at h
 cases h with
 | d _ _ h =>
  cases h with
  | sl _ _ _ ad cap b o' f hcp ha hl hc hr =>
   have hlen : (rows.drop j).length = rows.length - j := by rw [List.length_drop]
   have h0 : (0 : Int) ≤ (j : Int) ∧ (j : Int) ≤ (rows.length : Int) := by omega
   have hrun : ∀ w', (execOp a.eval o).run c.P w' = .ok (.value (.slice (if cap = j then ad else ad.map (·.add (j * sz))) (rows.length - j) (cap - j))) w' := fun w' => by
    simp only [execOp, ho, hxx, hyv, Option.map_some, Option.map_none]
    simp only [Instr.sliceAt, Instr.slice, Sem.run_bind, run_underlying hu, Result.andThen_ok, Instr.sliceBounds, run_sliceBound _ kd _ _ _ h0.1 h0.2, Sem.run_pure, run_sizeOf hi, Int.toNat_natCast]
   refine ⟨_, .d _ _ ?_, fun w' _ => hrun w'⟩
   have key := DRep.sl (w := w) (q := qt c s.H g) sz bt' (rows.drop j) (if cap = j then ad else ad.map (·.add (j * sz))) (cap - j) b (o' + j * sz) (fun i k => f (j + i) k) (by omega) (fun hne => by
     have hne' : j < rows.length := by
      rcases Nat.lt_or_ge j rows.length with h | h
      ·exact h
      ·exact absurd (List.drop_eq_nil_of_le h) hne
     obtain ⟨h1, h2⟩ := ha (by rintro rfl; simp at hne)
     rw [if_neg (by omega), h1]
     exact ⟨by simp [Addr.add], h2⟩) (by rw [hlen]; exact Nat.le_trans (Nat.mul_le_mul_right _ (by omega)) hl)
    (fun i k row u h1 h2 => by
     rw [List.getElem?_drop] at h1
     have := hc (j + i) k row u h1 h2
     rw [Nat.add_mul, ← Nat.add_assoc] at this
     exact this) (fun i k row u h1 h2 => hr (j + i) k row u (by rw [List.getElem?_drop] at h1; exact h1) h2)
   rw [hlen] at key
   exact key
end
@[simp] theorem has_lnLoop (r lb N : Nat) (r0 : Loop) (st : LoopState) (j : Option Code) : V.has r (lnLoop lb N r0 st j) = false := rfl
@[simp] theorem has_lnDf (r db N : Nat) : V.has r (lnDf db N) = false := rfl
theorem bk_K {lb db N : Nat} (hne : db ≠ lb) {ts : List V} (hts : V.bksL ts = false) : ∀ v ∈ ylV lb :: .ref 790 0 :: lnDf db N :: ts, bkOk lb v := fun v hv => by
 simp only [List.mem_cons] at hv
 rcases hv with rfl | rfl | rfl | hv
 ·exact .inl rfl
 ·exact .inl rfl
 ·exact .inr ⟨_, _, _, rfl, hne⟩
 ·exact .inl (V.bksL_false.1 hts v hv)
theorem trim_len (l : List UInt8) : (Lib.trimSuffix l [10]).length ≤ l.length := by
 unfold Lib.trimSuffix
 split
 ·simp
 ·simp
theorem fs_bk : ∀ (l : List St) (k : Nat), V.bksL (FS.cells k l) = false
 | [], k => rfl
 | x :: l, k => by
  have := fs_bk l (k + 1)
  simp [Fam.cells, FS, Fam.ownV, V.bksL, V.bks] at this ⊢
  exact this
theorem fs_objs_bk : ∀ (l : List St) (k : Nat), (FS.objs k l).all (fun x => !V.bksL x.2.cells) = true
 | [], k => rfl
 | x :: l, k => by
  have := fs_objs_bk l (k + 1)
  rw [Fam.objs, List.all_cons, this, Bool.and_true]
  show (!V.bksL ((FS.it x).flatten.map V.d)) = true
  rw [V.bksL_d]
  rfl
theorem bksL_app (l l' : List V) : V.bksL (l ++ l') = (V.bksL l || V.bksL l') := by
 induction l with
 | nil => simp [V.bksL]
 | cons x l ih => simp [V.bksL, ih, Bool.or_assoc]
theorem prt_word : ∀ (n : Nat) (u : List UInt8), u.length ≤ n → ∀ w ∈ prt u, u.length ≤ 1000000 → w.length ≤ 1000000 := by
 intro n
 induction n with
 | zero =>
  intro u h w hw h2
  obtain rfl : u = [] := List.length_eq_zero_iff.1 (by omega)
  rw [prt_one (by simp)] at hw
  simp only [List.mem_singleton] at hw
  rw [hw]; simp
 | succ n ih =>
  intro u h w hw h2
  by_cases hm : (32 : UInt8) ∈ u
  ·obtain ⟨p, r, rfl, hp⟩ := first_at hm
   rw [prt_cons hp] at hw
   simp at h h2
   rcases List.mem_cons.1 hw with rfl | hw
   ·omega
   ·exact ih r (by omega) w hw (by omega)
  ·rw [prt_one hm] at hw
   simp only [List.mem_singleton] at hw
   rw [hw]; exact h2
theorem szM_mono {i j : Nat} {m : Mach} (h : szM i m) (hij : i ≤ j) : szM j m := ⟨Nat.le_trans h.1 hij, fun x hx => Nat.le_trans (h.2 x hx) hij⟩
/-- What stands in memory between two lines; where the last state has just come. -/
def ppH (m : Mach) (z : Bool) : List (Nat × Row) := [(2, ⟨24, [.i 0, .nil], false, 0⟩), (3, ⟨24, [.i m.start, .own 901 2 m.states.length z], false, 0⟩), (901, ⟨42, FS.cells 1000 m.states, z, 2⟩)] ++ FS.objs 1000 m.states
def ppG (st : Int) (l : List St) (w : Int) : List (Nat × Row) := [(2, ⟨24, [.i 0, .nil], false, 0⟩), (3, ⟨24, [.i st, .own 901 2 (l.length + 1) false], false, 0⟩), (901, ⟨42, FS.cells 1000 l ++ [.i w, .nil], false, 2⟩)] ++ FS.objs 1000 l
def lnP (m : Mach) (ln : List UInt8) : Mach := stP m (prt (Lib.trimSuffix ln [10]))
def ppJ (R : Mach) (rem : List UInt8) (H : List (Nat × Row)) : Prop := rem.length ≤ 20000 ∧ ∃ m, szM (20000 - rem.length) m ∧ (lns rem).foldl lnP m = R ∧ (H = ppH m m.states.isEmpty ∨ ∃ l w, m.states = l ++ [⟨w, []⟩] ∧ H = ppG m.start l w)
theorem ppJ_ok {R : Mach} {rem : List UInt8} {H : List (Nat × Row)} (h : ppJ R rem H) : rem.length ≤ 1000000 ∧ H.all (fun x => !V.bksL x.2.cells) = true := by
 obtain ⟨h1, m, _, _, h2⟩ := h
 refine ⟨by omega, ?_⟩
 rcases h2 with rfl | ⟨l, w, _, rfl⟩
 ·unfold ppH
  rw [List.all_append, fs_objs_bk, Bool.and_true]
  simp [V.bksL, V.bks, fs_bk]
 ·unfold ppG
  rw [List.all_append, fs_objs_bk, Bool.and_true]
  simp [V.bksL, V.bks, fs_bk, bksL_app]
theorem isEmpty_app (l : List St) (x : St) : (l ++ [x]).isEmpty = false := by cases l <;> rfl
theorem pp_turn1 {c : Cx} {g : Nat → Nat × Nat} {a : Act} {w : World} {n : Nat} {K : List V} {u : ByteArray} {rest : List UInt8} {st : Int} {l : List St} {x : Int} (hK1 : V.hasL 900 K = false) (hK2 : V.lowL 1000 K = true) (hs : Sim c g ⟨n, (13, .s u) :: [(2, .ref 2 0), (3, .ref 3 0)], (790, lnRow rest) :: ppG st l x, K⟩ a w) : ∃ g', Sim c g' ⟨n, (13, .s u) :: [(2, .ref 2 0), (3, .ref 3 0)], (790, lnRow rest) :: ppH ⟨st, l ++ [⟨x, []⟩]⟩ false, K⟩ a w := by
 have h1 := hs.adoptH (b := 901) (j := l.length * 2 + 1) (r := 900) (sz := 4) (ty := 44) (row := ⟨42, FS.cells 1000 l ++ [.i x, .nil], false, 2⟩) rfl rfl (fs_nil _ _ _) (by simp [ppG, S.clean, V.has, V.hasL, V.cs, setL, hasL_append, cells_hasL_low, objs_clean_low, fs_cells_len, hK1])
 obtain ⟨g', h2⟩ := Sim.famPush (F := FS) h1 [_, _, _, _, _, _] 901 900 ⟨x, []⟩ rfl rfl rfl rfl (fs_set _ _ _ _) (by decide) rfl (by simp [V.hasL, V.has]) rfl hK1 (by intro y hy _ r hr; simp only [List.mem_cons, List.not_mem_nil, or_false] at hy; rcases hy with rfl | rfl | rfl | rfl | rfl | rfl <;> first | (simp [V.hasL, V.has]; omega) | simp_all [V.hasL, V.has]) rfl hK2
 simp only [List.filter_cons, List.filter_nil, Nat.reduceBNe, bne_self_eq_false, if_true, if_false, Bool.false_eq_true, ↓reduceIte, List.cons_append, List.nil_append] at h2
 refine ⟨g', h2.less ?_⟩
 unfold ppH
 rw [show (⟨st, l ++ [⟨x, []⟩]⟩ : Mach).states.length = l.length + 1 by simp]
 exact (Less.of rfl (by repeat (first | exact trivial | refine ⟨⟨_, rfl, Wk.refl _⟩, ?_⟩ | refine ⟨⟨_, rfl, Wk.nil _ _⟩, ?_⟩ | refine ⟨⟨_, rfl, Wk.junk _⟩, ?_⟩)) (by repeat (first | exact trivial | refine ⟨rfl, ?_⟩ | exact LH.fam | refine LH.skip (by decide) ?_)) rfl)
theorem pp_turn2 {c : Cx} {g : Nat → Nat × Nat} {a : Act} {w : World} {n : Nat} {K : List V} {rest : List UInt8} {st : Int} {l : List St} {x : Int} (hK1 : V.hasL 900 K = false) (hK2 : V.lowL 1000 K = true) (hs : Sim c g ⟨n, [(2, .ref 2 0), (3, .ref 3 0)], (790, lnRow rest) :: ppG st l x, K⟩ a w) : ∃ g', Sim c g' ⟨n, [(2, .ref 2 0), (3, .ref 3 0)], (790, lnRow rest) :: ppH ⟨st, l ++ [⟨x, []⟩]⟩ false, K⟩ a w := by
 have h1 := hs.adoptH (b := 901) (j := l.length * 2 + 1) (r := 900) (sz := 4) (ty := 44) (row := ⟨42, FS.cells 1000 l ++ [.i x, .nil], false, 2⟩) rfl rfl (fs_nil _ _ _) (by simp [ppG, S.clean, V.has, V.hasL, V.cs, setL, hasL_append, cells_hasL_low, objs_clean_low, fs_cells_len, hK1])
 obtain ⟨g', h2⟩ := Sim.famPush (F := FS) h1 [_, _, _, _, _, _] 901 900 ⟨x, []⟩ rfl rfl rfl rfl (fs_set _ _ _ _) (by decide) rfl (by simp [V.hasL, V.has]) rfl hK1 (by intro y hy _ r hr; simp only [List.mem_cons, List.not_mem_nil, or_false] at hy; rcases hy with rfl | rfl | rfl | rfl | rfl | rfl <;> first | (simp [V.hasL, V.has]; omega) | simp_all [V.hasL, V.has]) rfl hK2
 simp only [List.filter_cons, List.filter_nil, Nat.reduceBNe, bne_self_eq_false, if_true, if_false, Bool.false_eq_true, ↓reduceIte, List.cons_append, List.nil_append] at h2
 refine ⟨g', h2.less ?_⟩
 unfold ppH
 rw [show (⟨st, l ++ [⟨x, []⟩]⟩ : Mach).states.length = l.length + 1 by simp]
 exact (Less.of rfl (by repeat (first | exact trivial | refine ⟨⟨_, rfl, Wk.refl _⟩, ?_⟩ | refine ⟨⟨_, rfl, Wk.nil _ _⟩, ?_⟩ | refine ⟨⟨_, rfl, Wk.junk _⟩, ?_⟩)) (by repeat (first | exact trivial | refine ⟨rfl, ?_⟩ | exact LH.fam | refine LH.skip (by decide) ?_)) rfl)
theorem AF.pp {ro : Option Nat} {c : Cx} {code : Code} {Q : Exit → S → Prop} {n : Nat} {K : List V} {u : ByteArray} {rest : List UInt8} {m : Mach} {H : List (Nat × Row)} (hH : H = ppH m m.states.isEmpty ∨ ∃ l w, m.states = l ++ [⟨w, []⟩] ∧ H = ppG m.start l w) (hK1 : V.hasL 900 K = false) (hK2 : V.lowL 1000 K = true) (h : AF ro c code Q ⟨n, (13, .s u) :: [(2, .ref 2 0), (3, .ref 3 0)], (790, lnRow rest) :: ppH m m.states.isEmpty, K⟩) : AF ro c code Q ⟨n, (13, .s u) :: [(2, .ref 2 0), (3, .ref 3 0)], (790, lnRow rest) :: H, K⟩ := by
 rcases hH with rfl | ⟨l, w, hm, rfl⟩
 ·exact h
 ·intro g a w' hs
  obtain ⟨g', h'⟩ := pp_turn1 hK1 hK2 hs
  obtain ⟨st, sts⟩ := m
  simp only at hm
  subst hm
  simp only [isEmpty_app] at h
  exact h g' a w' h'
theorem AW.pp {c : Cx} {code : Code} {Q : Exit → S → Prop} {n : Nat} {K : List V} {rest : List UInt8} {m : Mach} {H : List (Nat × Row)} (hH : H = ppH m m.states.isEmpty ∨ ∃ l w, m.states = l ++ [⟨w, []⟩] ∧ H = ppG m.start l w) (hK1 : V.hasL 900 K = false) (hK2 : V.lowL 1000 K = true) (h : AW c code Q ⟨n, [(2, .ref 2 0), (3, .ref 3 0)], (790, lnRow rest) :: ppH m m.states.isEmpty, K⟩) : AW c code Q ⟨n, [(2, .ref 2 0), (3, .ref 3 0)], (790, lnRow rest) :: H, K⟩ := by
 rcases hH with rfl | ⟨l, w, hm, rfl⟩
 ·exact h
 ·intro g a w' hs
  obtain ⟨g', h'⟩ := pp_turn2 hK1 hK2 hs
  obtain ⟨st, sts⟩ := m
  simp only at hm
  subst hm
  simp only [isEmpty_app] at h
  exact h g' a w' h'
set_option maxHeartbeats 8000000 in
theorem am_pread (text : List UInt8) (htl : text.length ≤ 20000) : FnP preN Tryz.prog 7 [.s (bs text)] (fun v => v = mV (rdM text)) := by
 have hbs := bs_size text
 obtain ⟨R, hR⟩ : ∃ R, rdM text = R := ⟨_, rfl⟩
 have hRs : (lns text).foldl lnP ⟨-1, []⟩ = R := hR
 rw [hR]
 refine FnP.introM (n := 104) ⟨Tryz.func7, rfl, rfl, rfl, rfl⟩ (by simp [V.pure, V.has, V.hasL]) (by simp) fun w0 out hpre => ?_
 simp only [enum]
 refine AX.early ?_
 refine AW.region ?_
 refine AL.sm rfl (sm_alloc (l := [.d (.p (.int .i64 0)), .d (.p (.slice none 0 0))]) 2 inf24 rfl (by first | rfl | (simp only [S.clean, S.put, S.newObj, List.all_cons, objs_clean_low, Nat.reduceLT]; simp [S.forget, V.has, V.hasL, junkIf, setL, V.cs, hasL_i, hasL_b, hasL_s, hasL_n, hasL_rep, hasL_flat, hasL_append, cells_hasL_low, has_ownV, hasL_frep, nb1, nb2, nb3, nb4, -List.map_set]; try omega)) rfl rfl) ?_
 refine AL.nil ?_
 try simp only [thenS, S.put, S.newObj, setL, V.cs, List.length_cons, List.length_nil, List.take_succ_cons, List.take_zero, List.drop_succ_cons, List.drop_zero, List.drop_nil, List.nil_append, List.cons_append, List.append_nil, Nat.zero_add, Nat.reduceAdd, List.map_cons, List.map_nil, List.set_cons_zero, List.set_cons_succ]
 refine AX.early ?_
 refine AW.region ?_
 refine AL.rp rfl rfl (rp_build (vs := [(0, _)]) (zs := [.d (.p (.int .i64 0)), .d (.p (.slice none 0 0))]) pl24 inf24 rfl rfl rfl rfl) ?_
 refine AL.sm rfl (sm_alloc (l := [.d (.p (.int .i64 0)), .d (.p (.slice none 0 0))]) 3 inf24 rfl (by first | rfl | (simp only [S.clean, S.put, S.newObj, List.all_cons, objs_clean_low, Nat.reduceLT]; simp [S.forget, V.has, V.hasL, junkIf, setL, V.cs, hasL_i, hasL_b, hasL_s, hasL_n, hasL_rep, hasL_flat, hasL_append, cells_hasL_low, has_ownV, hasL_frep, nb1, nb2, nb3, nb4, -List.map_set]; try omega)) rfl rfl) ?_
 refine AL.st rfl (st_store_any inf24 rfl rfl rfl rfl rfl rfl rfl rfl (by first | decide | (simp; done) | (simp; omega)) rfl) ?_
 refine AL.nil ?_
 try simp only [thenS, S.put, S.newObj, setL, V.cs, List.length_cons, List.length_nil, List.take_succ_cons, List.take_zero, List.drop_succ_cons, List.drop_zero, List.drop_nil, List.nil_append, List.cons_append, List.append_nil, Nat.zero_add, Nat.reduceAdd, List.map_cons, List.map_nil, List.set_cons_zero, List.set_cons_succ]
 refine AX.lines (n := 104) [2, 3] [.ref 2 0, .ref 3 0] (ppJ R) (fun _ => False) text ?_ rfl (by decide) rfl ?_ ?_ ?_ (fun _ _ _ h => h.elim)
 ·refine AW.adoptH 3 1 901 2 42 rfl rfl rfl (by simp [S.clean, V.has, V.hasL, V.cs, setL]) ?_
  refine AW.region ?_
  refine AL.rp rfl rfl (rp_move rfl rfl) ?_
  refine AL.inline [0, 2, 3] (ts := [_, _, _]) (ars := [_]) rfl rfl ⟨Tryz.func15, rfl, rfl, rfl, rfl⟩ rfl rfl rfl (by simp) rfl fun kx => ?_
  try simp only [thenS, S.put, enum, List.nil_append, List.cons_append, List.append_nil, Nat.zero_add, Nat.reduceAdd]
  refine AW.seq ?_
  refine AW.region ?_
  refine AL.sm rfl (sm_box 790 rfl rfl rfl (by first | rfl | (simp only [S.clean, S.put, S.newObj, List.all_cons, objs_clean_low, Nat.reduceLT]; simp [S.forget, V.has, V.hasL, junkIf, setL, V.cs, hasL_i, hasL_b, hasL_s, hasL_n, hasL_rep, hasL_flat, hasL_append, cells_hasL_low, has_ownV, hasL_frep, nb1, nb2, nb3, nb4, -List.map_set]; try omega)) rfl) ?_
  refine AL.rp rfl rfl (rp_assign rfl rfl) ?_
  refine AL.nil ?_
  try simp only [thenS, S.put, S.newObj, setL, V.cs, List.length_cons, List.length_nil, List.take_succ_cons, List.take_zero, List.drop_succ_cons, List.drop_zero, List.drop_nil, List.nil_append, List.cons_append, List.append_nil, Nat.zero_add, Nat.reduceAdd, List.map_cons, List.map_nil, List.set_cons_zero, List.set_cons_succ]
  refine AW.seq ?_
  refine AW.region ?_
  refine AL.rp rfl rfl (rp_func (vs := [_]) rfl rfl) ?_
  refine AL.rp rfl rfl (rp_assign rfl rfl) ?_
  refine AL.nil ?_
  try simp only [thenS, S.put, List.nil_append, List.cons_append]
  refine AW.ret ?_
  try simp only [thenS, inBlockS, ↓reduceIte, Nat.reduceEqDiff, List.nil_append, List.cons_append]
  refine ⟨[_], ⟨rfl, trivial⟩, ?_⟩
  try simp only [S.put, tupOf, List.zip_cons_cons, List.zip_nil_left, List.drop_succ_cons, List.drop_zero, List.length_cons, List.length_nil, Nat.zero_add, Nat.reduceAdd]
  refine AL.nil ?_
  try simp only [thenS, S.put, List.nil_append, List.cons_append]
  exact ⟨⟨104, [(2, .ref 2 0), (3, .ref 3 0), (12, .fn 30 [.ref 790 0])], (790, lnRow text) :: ppH ⟨-1, []⟩ true, []⟩, (Less.of rfl (by repeat (first | exact trivial | refine ⟨⟨_, rfl, Wk.refl _⟩, ?_⟩ | refine ⟨⟨_, rfl, Wk.nil _ _⟩, ?_⟩ | refine ⟨⟨_, rfl, Wk.junk _⟩, ?_⟩)) (by repeat (first | exact trivial | refine ⟨rfl, ?_⟩ | exact LH.fam | refine LH.skip (by decide) ?_)) rfl), _, _, rfl, rfl, rfl, htl, ⟨-1, []⟩, ⟨by simp, fun x hx => by cases hx⟩, hRs, .inl rfl⟩
 ·exact fun rem H h => ppJ_ok h
 ·rintro lb db kx rem H r0 hne hasg hbd ⟨hl, m, hsz, hF, hH⟩ hne0
  refine AF.pp hH rfl rfl ?_
  have hln := congrArg List.length (ln_app rem)
  have hl1 : (ln1 rem).length ≤ 20000 := by simp at hln; omega
  have hlt := ln2_lt rem hne0
  rw [lns_cons hne0, List.foldl_cons] at hF
  obtain ⟨ln, hlne⟩ : ∃ x, ln1 rem = x := ⟨_, rfl⟩
  simp only [hlne] at hl1 hF ⊢
  have htrim := am_TrimS ln (by omega)
  have hul := trim_len ln
  obtain ⟨u, hu⟩ : ∃ u, Lib.trimSuffix ln [10] = u := ⟨_, rfl⟩
  rw [hu] at htrim hul
  have hsp := am_Split u (by omega)
  obtain ⟨p0, pr, hw0⟩ := prt_ne u
  have hwl := prt_len u
  have hwm : ∀ w ∈ prt u, w.length ≤ 1000000 := fun w hw => prt_word u.length u (Nat.le_refl _) w hw (by omega)
  obtain ⟨ws, hws⟩ : ∃ ws, prt u = ws := ⟨_, rfl⟩
  rw [hws] at hsp hw0 hwl hwm
  have hq0 : ws[0]? = some p0 := by rw [hw0]; rfl
  have hnu := am_numbers ws.tail (by simp; omega) (fun w hw => hwm w (List.mem_of_mem_tail hw))
  have hle1 : 1 ≤ (ws.map fun b => [D.p (.string (bs b))]).length := by rw [hw0]; simp
  have hdrop : (ws.map fun b => [D.p (.string (bs b))]).drop 1 = ws.tail.map fun b => [D.p (.string (bs b))] := by rw [hw0]; rfl
  obtain ⟨NS, hNS⟩ : ∃ NS, ws.tail.map nbr = NS := ⟨_, rfl⟩
  rw [hNS] at hnu
  have hget : ∀ k, NS[k]? = (ws[k + 1]?).map nbr := fun k => by rw [← hNS, List.getElem?_map, List.getElem?_tail]
  have hlenN : NS.length + 1 = ws.length := by rw [← hNS, hw0]; simp
  obtain ⟨NL, hNL⟩ : ∃ N, NS.length = N := ⟨_, rfl⟩
  rw [hNL] at hlenN
  have hszn : szM (20000 - (ln2 rem).length) m := szM_mono hsz (by omega)
  obtain ⟨st, sts⟩ := m
  obtain ⟨z, hz⟩ : ∃ z, sts.isEmpty = z := ⟨_, rfl⟩
  unfold ppH
  simp only [List.zip_cons_cons, List.zip_nil_left, hz]
  clear hasg hbd hH hw0 hwl
  refine AF.region (fun _ h => h) rfl ?_
  refine AL.rp rfl rfl (rp_assign rfl rfl) ?_
  refine AL.nil ?_
  try simp only [thenS, S.put, List.nil_append, List.cons_append]
  refine ⟨_, rfl, ⟨rfl, by simp [V.bksL, V.bks, fs_bk, fs_objs_bk, bksL_app], bk_K hne rfl⟩, ?_⟩
  have hlenI : ws.length = NL + 1 := hlenN.symm
  have hlenM : (ws.map fun b => [D.p (.string (bs b))]).length = NL + 1 := by rw [List.length_map]; exact hlenI
  rw [show lnP ⟨st, sts⟩ ln = stP ⟨st, sts⟩ (prt (Lib.trimSuffix ln [10])) from rfl, hu, hws] at hF
  unfold stP at hF
  rw [hq0, Option.getD_some, hlenI] at hF
  have hSA : ¬ wSa = wSt := by decide
  have hAS : ¬ wAr = wSt := by decide
  have hAA : ¬ wAr = wSa := by decide
  have same : (lns (ln2 rem)).foldl lnP ⟨st, sts⟩ = R → ppJ R (ln2 rem) (ppH ⟨st, sts⟩ z) := fun h => ⟨by omega, ⟨st, sts⟩, hszn, h, .inl (by rw [← hz])⟩
  by_cases h1 : p0 = wSt
  ·subst h1
   have hc0 : bs wSt = ⟨#[115, 116, 97, 114, 116]⟩ := rfl
   have hcS : (bs wSt).data.toList ≠ (⟨#[115, 116, 97, 116, 101]⟩ : ByteArray).data.toList := by decide
   have hcA : (bs wSt).data.toList ≠ (⟨#[97, 114, 99]⟩ : ByteArray).data.toList := by decide
   by_cases hn1 : NL = 1
   ·subst hn1
    rw [if_pos ⟨rfl, rfl⟩] at hF
    obtain ⟨p1, hq1⟩ : ∃ p, ws[1]? = some p := ⟨_, List.getElem?_eq_getElem (by omega)⟩
    have hn0 : NS[0]? = some (nbr p1) := by rw [hget, hq1]; rfl
    rw [hq1, Option.getD_some] at hF
    have hJ : ppJ R (ln2 rem) (ppH ⟨nbr p1, sts⟩ z) := ⟨by omega, ⟨nbr p1, sts⟩, ⟨hszn.1, hszn.2⟩, hF, .inl (by rw [← hz])⟩
    refine AF.block ?_
    refine AF.seq ?_
    refine AF.region (fun _ h => h) rfl ?_
    refine AL.rp rfl rfl (rp_move rfl rfl) ?_
    refine AL.call (post := ?pc49) rfl (sm_call (args := [_, _]) ?hc49 ⟨Tryz.func17, rfl, rfl, rfl, rfl⟩ rfl rfl rfl rfl) ?_
    case hc49 => exact htrim
    rintro _ rfl -
    try dsimp only
    refine AL.call (post := ?pc50) rfl (sm_callP (args := [_, _]) (preN_kept) (by assumption) ?hc50 ⟨Tryz.func16, rfl, rfl, rfl, rfl⟩ rfl rfl rfl rfl) ?_
    case hc50 => exact hsp
    rintro _ rfl -
    try dsimp only
    refine AL.rp rfl rfl (rp_assign rfl rfl) ?_
    refine AL.nil ?_
    try simp only [thenS, S.put, S.newObj, setL, V.cs, List.length_cons, List.length_nil, List.take_succ_cons, List.take_zero, List.drop_succ_cons, List.drop_zero, List.drop_nil, List.nil_append, List.cons_append, List.append_nil, Nat.zero_add, Nat.reduceAdd, List.map_cons, List.map_nil, List.set_cons_zero, List.set_cons_succ]
    refine AF.seq ?_
    refine AF.region (fun _ h => h) rfl ?_
    refine AL.rp rfl rfl (rp_move rfl rfl) ?_
    (first | (refine AL.rd rfl rfl (rd_slice_que (j := 1) Tryz.underlying33 inf9 rfl rfl rfl (by omega) (by omega)) ?_) | (refine AL.rd rfl rfl (rd_slice_fromD (j := 1) Tryz.underlying33 inf9 rfl rfl rfl (by first | rfl | omega) (by first | assumption | omega) (by assumption)) ?_))
    refine AL.call (post := ?pc51) rfl (sm_callP (args := [_]) (preN_kept) (by assumption) ?hc51 ⟨Tryz.func18, rfl, rfl, rfl, rfl⟩ rfl rfl rfl rfl) ?_
    case hc51 => exact hnu
    rintro _ rfl -
    try dsimp only
    refine AL.rp rfl rfl (rp_assign rfl rfl) ?_
    refine AL.nil ?_
    try simp only [thenS, S.put, S.newObj, setL, V.cs, List.length_cons, List.length_nil, List.take_succ_cons, List.take_zero, List.drop_succ_cons, List.drop_zero, List.drop_nil, List.nil_append, List.cons_append, List.append_nil, Nat.zero_add, Nat.reduceAdd, List.map_cons, List.map_nil, List.set_cons_zero, List.set_cons_succ]
    refine AF.block ?_
    refine AF.seq ?_
    refine AF.region (fun _ h => h) rfl ?_
    refine AL.rp rfl rfl (rp_move rfl rfl) ?_
    (first | (refine AL.rp rfl rfl (rp_index_own (k := 0) Tryz.underlying33 inf9 rfl rfl rfl (by omega) (by omega)) ?_) | (refine AL.rp rfl rfl (rp_index_map (k := 0) Tryz.underlying33 inf9 rfl rfl rfl (by omega) (by assumption)) ?_))
    (first | (refine AL.rd rfl rfl (rd_load_ref Tryz.underlying9 rfl rfl rfl rfl rfl rfl) ?_) | (refine AL.rd rfl rfl (rd_load_ad Tryz.underlying9 rfl rfl rfl rfl) ?_) | (refine AL.rd rfl rfl (rd_load_map Tryz.underlying9 rfl rfl rfl rfl rfl rfl (by assumption)) ?_) | (refine AL.rd rfl rfl (rd_load_fam (m := 0) Tryz.underlying9 rfl rfl rfl rfl rfl rfl (fun _ => rfl) rfl (by assumption)) ?_) | (refine AL.rd rfl rfl (rd_load_fam (m := 1) Tryz.underlying9 rfl rfl rfl rfl rfl rfl (fun _ => rfl) rfl (by assumption)) ?_) | (refine AL.rd rfl rfl (rd_load_fpre (m := 1) Tryz.underlying9 rfl rfl rfl rfl rfl rfl (fun _ => rfl) rfl (by assumption) rfl) ?_) | (refine AL.rd rfl rfl (rd_load_flat Tryz.underlying9 rfl rfl rfl rfl rfl rfl (fun _ => rfl) (by assumption) rfl) ?_))
    (first | (refine AL.rp rfl rfl (rp_eqlsT rfl rfl rfl (by assumption)) ?_) | (refine AL.rp rfl rfl (rp_eqlsF rfl rfl rfl (by assumption)) ?_) | (refine AL.rp rfl rfl (rp_eqls rfl rfl rfl) ?_))
    refine AL.rp rfl rfl (rp_move rfl rfl) ?_
    (first | (refine AL.noV rfl rfl rfl rfl ?_) | (refine AL.noU rfl ⟨_, rfl, rfl⟩ rfl ?_) | (refine AL.rpy rfl rfl rfl (rp_move rfl rfl) ?_))
    (first | (refine AL.noV rfl rfl rfl rfl ?_) | (refine AL.noU rfl ⟨_, rfl, rfl⟩ rfl ?_) | (refine AL.rpy rfl rfl rfl (rp_len_map Tryz.underlying51 rfl rfl (by assumption)) ?_) | (refine AL.rpy rfl rfl rfl (rp_len_own Tryz.underlying51 rfl rfl) ?_) | (refine AL.rpy rfl rfl rfl (rp_len_sl Tryz.underlying51 rfl rfl) ?_) | (refine AL.rpy rfl rfl rfl (rp_len_nil Tryz.underlying51 rfl rfl) ?_) | (refine AL.rpy rfl rfl rfl (rp_len_str Tryz.underlying51 rfl rfl) ?_))
    (first | (refine AL.noV rfl rfl rfl rfl ?_) | (refine AL.noU rfl ⟨_, rfl, rfl⟩ rfl ?_) | (refine AL.rpy rfl rfl rfl (rp_eqlT rfl rfl rfl (by first | assumption | omega | (dsimp only; omega))) ?_) | (refine AL.rpy rfl rfl rfl (rp_eqlF rfl rfl rfl (by first | assumption | omega | (dsimp only; omega))) ?_) | (refine AL.rpy rfl rfl rfl (rp_eql rfl rfl rfl) ?_))
    refine AL.rp rfl rfl (rp_pick rfl rfl rfl) ?_
    refine AL.rp rfl rfl (rp_assign rfl rfl) ?_
    refine AL.nil ?_
    try simp only [thenS, S.put, List.nil_append, List.cons_append]
    refine AF.condT rfl ?_
    refine AF.region (fun _ h => h) rfl ?_
    refine AL.rp rfl rfl (rp_move rfl rfl) ?_
    (first | (refine AL.rp rfl rfl (rp_index_own (k := 0) Tryz.underlying51 inf3 rfl rfl rfl (by omega) (by omega)) ?_) | (refine AL.rp rfl rfl (rp_index_map (k := 0) Tryz.underlying51 inf3 rfl rfl rfl (by omega) (by assumption)) ?_))
    (first | (refine AL.rd rfl rfl (rd_load_ref Tryz.underlying3 rfl rfl rfl rfl rfl rfl) ?_) | (refine AL.rd rfl rfl (rd_load_ad Tryz.underlying3 rfl rfl rfl rfl) ?_) | (refine AL.rd rfl rfl (rd_load_map Tryz.underlying3 rfl rfl rfl rfl rfl rfl (by assumption)) ?_) | (refine AL.rd rfl rfl (rd_load_fam (m := 0) Tryz.underlying3 rfl rfl rfl rfl rfl rfl (fun _ => rfl) rfl (by assumption)) ?_) | (refine AL.rd rfl rfl (rd_load_fam (m := 1) Tryz.underlying3 rfl rfl rfl rfl rfl rfl (fun _ => rfl) rfl (by assumption)) ?_) | (refine AL.rd rfl rfl (rd_load_fpre (m := 1) Tryz.underlying3 rfl rfl rfl rfl rfl rfl (fun _ => rfl) rfl (by assumption) rfl) ?_) | (refine AL.rd rfl rfl (rd_load_flat Tryz.underlying3 rfl rfl rfl rfl rfl rfl (fun _ => rfl) (by assumption) rfl) ?_))
    (first | (refine AL.rp rfl rfl (rp_field_ref Tryz.underlying24 rfl rfl rfl inf3 (by decide) rfl) ?_) | (refine AL.rp rfl rfl (rp_field_ad Tryz.underlying24 rfl rfl rfl inf3 (by decide) rfl) ?_))
    (first | (refine AL.st rfl (st_store_map2 inf3 rfl rfl rfl rfl rfl rfl rfl rfl (by first | assumption | omega)) ?_) | (refine AL.st rfl (st_store_fam (m := 0) inf3 rfl rfl rfl rfl rfl rfl (fun _ => rfl) rfl rfl (by first | assumption | (simp; omega))) ?_) | (refine AL.st rfl (st_store_fam (m := 1) inf3 rfl rfl rfl rfl rfl rfl (fun _ => rfl) rfl rfl (by first | assumption | (simp; omega))) ?_) | (refine AL.st rfl (st_store inf3 rfl rfl rfl rfl rfl rfl rfl (by first | decide | (simp; done)) rfl) ?_))
    refine AL.nil ?_
    try simp only [thenS, S.put, S.newObj, setL, V.cs, List.length_cons, List.length_nil, List.take_succ_cons, List.take_zero, List.drop_succ_cons, List.drop_zero, List.drop_nil, List.nil_append, List.cons_append, List.append_nil, Nat.zero_add, Nat.reduceAdd, List.map_cons, List.map_nil, List.set_cons_zero, List.set_cons_succ]
    simp only [thenS, inBlockS, QB, QB1]
    refine ⟨⟨104, [], (790, lnRow (ln2 rem)) :: ppH ⟨nbr p1, sts⟩ z, lnLoop lb w0.heap.size r0 .busy none :: ylV lb :: .ref 790 0 :: lnDf db w0.heap.size :: [.ref 2 0, .ref 3 0]⟩, ?_, rfl, rfl, _, rfl, (ppJ_ok hJ).2, hJ⟩
    unfold ppH
    exact (Less.of rfl (by repeat (first | exact trivial | refine ⟨⟨_, rfl, Wk.refl _⟩, ?_⟩ | refine ⟨⟨_, rfl, Wk.nil _ _⟩, ?_⟩ | refine ⟨⟨_, rfl, Wk.junk _⟩, ?_⟩)) (by repeat (first | exact trivial | refine ⟨rfl, ?_⟩ | exact LH.fam | refine LH.skip (by decide) ?_)) rfl)
   ·rw [if_neg (by omega), if_neg (by rintro ⟨h, _⟩; exact hSA h.symm), if_neg (by rintro ⟨h, _⟩; exact hAS h.symm)] at hF
    have hJ := same hF
    refine AF.block ?_
    refine AF.seq ?_
    refine AF.region (fun _ h => h) rfl ?_
    refine AL.rp rfl rfl (rp_move rfl rfl) ?_
    refine AL.call (post := ?pc52) rfl (sm_call (args := [_, _]) ?hc52 ⟨Tryz.func17, rfl, rfl, rfl, rfl⟩ rfl rfl rfl rfl) ?_
    case hc52 => exact htrim
    rintro _ rfl -
    try dsimp only
    refine AL.call (post := ?pc53) rfl (sm_callP (args := [_, _]) (preN_kept) (by assumption) ?hc53 ⟨Tryz.func16, rfl, rfl, rfl, rfl⟩ rfl rfl rfl rfl) ?_
    case hc53 => exact hsp
    rintro _ rfl -
    try dsimp only
    refine AL.rp rfl rfl (rp_assign rfl rfl) ?_
    refine AL.nil ?_
    try simp only [thenS, S.put, S.newObj, setL, V.cs, List.length_cons, List.length_nil, List.take_succ_cons, List.take_zero, List.drop_succ_cons, List.drop_zero, List.drop_nil, List.nil_append, List.cons_append, List.append_nil, Nat.zero_add, Nat.reduceAdd, List.map_cons, List.map_nil, List.set_cons_zero, List.set_cons_succ]
    refine AF.seq ?_
    refine AF.region (fun _ h => h) rfl ?_
    refine AL.rp rfl rfl (rp_move rfl rfl) ?_
    (first | (refine AL.rd rfl rfl (rd_slice_que (j := 1) Tryz.underlying33 inf9 rfl rfl rfl (by omega) (by omega)) ?_) | (refine AL.rd rfl rfl (rd_slice_fromD (j := 1) Tryz.underlying33 inf9 rfl rfl rfl (by first | rfl | omega) (by first | assumption | omega) (by assumption)) ?_))
    refine AL.call (post := ?pc54) rfl (sm_callP (args := [_]) (preN_kept) (by assumption) ?hc54 ⟨Tryz.func18, rfl, rfl, rfl, rfl⟩ rfl rfl rfl rfl) ?_
    case hc54 => exact hnu
    rintro _ rfl -
    try dsimp only
    refine AL.rp rfl rfl (rp_assign rfl rfl) ?_
    refine AL.nil ?_
    try simp only [thenS, S.put, S.newObj, setL, V.cs, List.length_cons, List.length_nil, List.take_succ_cons, List.take_zero, List.drop_succ_cons, List.drop_zero, List.drop_nil, List.nil_append, List.cons_append, List.append_nil, Nat.zero_add, Nat.reduceAdd, List.map_cons, List.map_nil, List.set_cons_zero, List.set_cons_succ]
    refine AF.block ?_
    refine AF.seq ?_
    refine AF.region (fun _ h => h) rfl ?_
    refine AL.rp rfl rfl (rp_move rfl rfl) ?_
    (first | (refine AL.rp rfl rfl (rp_index_own (k := 0) Tryz.underlying33 inf9 rfl rfl rfl (by omega) (by omega)) ?_) | (refine AL.rp rfl rfl (rp_index_map (k := 0) Tryz.underlying33 inf9 rfl rfl rfl (by omega) (by assumption)) ?_))
    (first | (refine AL.rd rfl rfl (rd_load_ref Tryz.underlying9 rfl rfl rfl rfl rfl rfl) ?_) | (refine AL.rd rfl rfl (rd_load_ad Tryz.underlying9 rfl rfl rfl rfl) ?_) | (refine AL.rd rfl rfl (rd_load_map Tryz.underlying9 rfl rfl rfl rfl rfl rfl (by assumption)) ?_) | (refine AL.rd rfl rfl (rd_load_fam (m := 0) Tryz.underlying9 rfl rfl rfl rfl rfl rfl (fun _ => rfl) rfl (by assumption)) ?_) | (refine AL.rd rfl rfl (rd_load_fam (m := 1) Tryz.underlying9 rfl rfl rfl rfl rfl rfl (fun _ => rfl) rfl (by assumption)) ?_) | (refine AL.rd rfl rfl (rd_load_fpre (m := 1) Tryz.underlying9 rfl rfl rfl rfl rfl rfl (fun _ => rfl) rfl (by assumption) rfl) ?_) | (refine AL.rd rfl rfl (rd_load_flat Tryz.underlying9 rfl rfl rfl rfl rfl rfl (fun _ => rfl) (by assumption) rfl) ?_))
    (first | (refine AL.rp rfl rfl (rp_eqlsT rfl rfl rfl (by assumption)) ?_) | (refine AL.rp rfl rfl (rp_eqlsF rfl rfl rfl (by assumption)) ?_) | (refine AL.rp rfl rfl (rp_eqls rfl rfl rfl) ?_))
    refine AL.rp rfl rfl (rp_move rfl rfl) ?_
    (first | (refine AL.noV rfl rfl rfl rfl ?_) | (refine AL.noU rfl ⟨_, rfl, rfl⟩ rfl ?_) | (refine AL.rpy rfl rfl rfl (rp_move rfl rfl) ?_))
    (first | (refine AL.noV rfl rfl rfl rfl ?_) | (refine AL.noU rfl ⟨_, rfl, rfl⟩ rfl ?_) | (refine AL.rpy rfl rfl rfl (rp_len_map Tryz.underlying51 rfl rfl (by assumption)) ?_) | (refine AL.rpy rfl rfl rfl (rp_len_own Tryz.underlying51 rfl rfl) ?_) | (refine AL.rpy rfl rfl rfl (rp_len_sl Tryz.underlying51 rfl rfl) ?_) | (refine AL.rpy rfl rfl rfl (rp_len_nil Tryz.underlying51 rfl rfl) ?_) | (refine AL.rpy rfl rfl rfl (rp_len_str Tryz.underlying51 rfl rfl) ?_))
    (first | (refine AL.noV rfl rfl rfl rfl ?_) | (refine AL.noU rfl ⟨_, rfl, rfl⟩ rfl ?_) | (refine AL.rpy rfl rfl rfl (rp_eqlT rfl rfl rfl (by first | assumption | omega | (dsimp only; omega))) ?_) | (refine AL.rpy rfl rfl rfl (rp_eqlF rfl rfl rfl (by first | assumption | omega | (dsimp only; omega))) ?_) | (refine AL.rpy rfl rfl rfl (rp_eql rfl rfl rfl) ?_))
    refine AL.rp rfl rfl (rp_pick rfl rfl rfl) ?_
    refine AL.rp rfl rfl (rp_assign rfl rfl) ?_
    refine AL.nil ?_
    try simp only [thenS, S.put, List.nil_append, List.cons_append]
    refine AF.condF rfl ?_
    refine AF.seq ?_
    refine AF.region (fun _ h => h) rfl ?_
    refine AL.rp rfl rfl (rp_move rfl rfl) ?_
    (first | (refine AL.rp rfl rfl (rp_index_own (k := 0) Tryz.underlying33 inf9 rfl rfl rfl (by omega) (by omega)) ?_) | (refine AL.rp rfl rfl (rp_index_map (k := 0) Tryz.underlying33 inf9 rfl rfl rfl (by omega) (by assumption)) ?_))
    (first | (refine AL.rd rfl rfl (rd_load_ref Tryz.underlying9 rfl rfl rfl rfl rfl rfl) ?_) | (refine AL.rd rfl rfl (rd_load_ad Tryz.underlying9 rfl rfl rfl rfl) ?_) | (refine AL.rd rfl rfl (rd_load_map Tryz.underlying9 rfl rfl rfl rfl rfl rfl (by assumption)) ?_) | (refine AL.rd rfl rfl (rd_load_fam (m := 0) Tryz.underlying9 rfl rfl rfl rfl rfl rfl (fun _ => rfl) rfl (by assumption)) ?_) | (refine AL.rd rfl rfl (rd_load_fam (m := 1) Tryz.underlying9 rfl rfl rfl rfl rfl rfl (fun _ => rfl) rfl (by assumption)) ?_) | (refine AL.rd rfl rfl (rd_load_fpre (m := 1) Tryz.underlying9 rfl rfl rfl rfl rfl rfl (fun _ => rfl) rfl (by assumption) rfl) ?_) | (refine AL.rd rfl rfl (rd_load_flat Tryz.underlying9 rfl rfl rfl rfl rfl rfl (fun _ => rfl) (by assumption) rfl) ?_))
    (first | (refine AL.rp rfl rfl (rp_eqlsT rfl rfl rfl (by assumption)) ?_) | (refine AL.rp rfl rfl (rp_eqlsF rfl rfl rfl (by assumption)) ?_) | (refine AL.rp rfl rfl (rp_eqls rfl rfl rfl) ?_))
    refine AL.rp rfl rfl (rp_move rfl rfl) ?_
    (first | (refine AL.noV rfl rfl rfl rfl ?_) | (refine AL.noU rfl ⟨_, rfl, rfl⟩ rfl ?_) | (refine AL.rpy rfl rfl rfl (rp_move rfl rfl) ?_))
    (first | (refine AL.noV rfl rfl rfl rfl ?_) | (refine AL.noU rfl ⟨_, rfl, rfl⟩ rfl ?_) | (refine AL.rpy rfl rfl rfl (rp_len_map Tryz.underlying51 rfl rfl (by assumption)) ?_) | (refine AL.rpy rfl rfl rfl (rp_len_own Tryz.underlying51 rfl rfl) ?_) | (refine AL.rpy rfl rfl rfl (rp_len_sl Tryz.underlying51 rfl rfl) ?_) | (refine AL.rpy rfl rfl rfl (rp_len_nil Tryz.underlying51 rfl rfl) ?_) | (refine AL.rpy rfl rfl rfl (rp_len_str Tryz.underlying51 rfl rfl) ?_))
    (first | (refine AL.noV rfl rfl rfl rfl ?_) | (refine AL.noU rfl ⟨_, rfl, rfl⟩ rfl ?_) | (refine AL.rpy rfl rfl rfl (rp_eqlT rfl rfl rfl (by first | assumption | omega | (dsimp only; omega))) ?_) | (refine AL.rpy rfl rfl rfl (rp_eqlF rfl rfl rfl (by first | assumption | omega | (dsimp only; omega))) ?_) | (refine AL.rpy rfl rfl rfl (rp_eql rfl rfl rfl) ?_))
    refine AL.rp rfl rfl (rp_pick rfl rfl rfl) ?_
    refine AL.rp rfl rfl (rp_assign rfl rfl) ?_
    refine AL.nil ?_
    try simp only [thenS, S.put, List.nil_append, List.cons_append]
    refine AF.condF rfl ?_
    refine AF.seq ?_
    refine AF.region (fun _ h => h) rfl ?_
    refine AL.rp rfl rfl (rp_move rfl rfl) ?_
    (first | (refine AL.rp rfl rfl (rp_index_own (k := 0) Tryz.underlying33 inf9 rfl rfl rfl (by omega) (by omega)) ?_) | (refine AL.rp rfl rfl (rp_index_map (k := 0) Tryz.underlying33 inf9 rfl rfl rfl (by omega) (by assumption)) ?_))
    (first | (refine AL.rd rfl rfl (rd_load_ref Tryz.underlying9 rfl rfl rfl rfl rfl rfl) ?_) | (refine AL.rd rfl rfl (rd_load_ad Tryz.underlying9 rfl rfl rfl rfl) ?_) | (refine AL.rd rfl rfl (rd_load_map Tryz.underlying9 rfl rfl rfl rfl rfl rfl (by assumption)) ?_) | (refine AL.rd rfl rfl (rd_load_fam (m := 0) Tryz.underlying9 rfl rfl rfl rfl rfl rfl (fun _ => rfl) rfl (by assumption)) ?_) | (refine AL.rd rfl rfl (rd_load_fam (m := 1) Tryz.underlying9 rfl rfl rfl rfl rfl rfl (fun _ => rfl) rfl (by assumption)) ?_) | (refine AL.rd rfl rfl (rd_load_fpre (m := 1) Tryz.underlying9 rfl rfl rfl rfl rfl rfl (fun _ => rfl) rfl (by assumption) rfl) ?_) | (refine AL.rd rfl rfl (rd_load_flat Tryz.underlying9 rfl rfl rfl rfl rfl rfl (fun _ => rfl) (by assumption) rfl) ?_))
    (first | (refine AL.rp rfl rfl (rp_eqlsT rfl rfl rfl (by assumption)) ?_) | (refine AL.rp rfl rfl (rp_eqlsF rfl rfl rfl (by assumption)) ?_) | (refine AL.rp rfl rfl (rp_eqls rfl rfl rfl) ?_))
    refine AL.rp rfl rfl (rp_move rfl rfl) ?_
    (first | (refine AL.noV rfl rfl rfl rfl ?_) | (refine AL.noU rfl ⟨_, rfl, rfl⟩ rfl ?_) | (refine AL.rpy rfl rfl rfl (rp_move rfl rfl) ?_))
    (first | (refine AL.noV rfl rfl rfl rfl ?_) | (refine AL.noU rfl ⟨_, rfl, rfl⟩ rfl ?_) | (refine AL.rpy rfl rfl rfl (rp_len_map Tryz.underlying51 rfl rfl (by assumption)) ?_) | (refine AL.rpy rfl rfl rfl (rp_len_own Tryz.underlying51 rfl rfl) ?_) | (refine AL.rpy rfl rfl rfl (rp_len_sl Tryz.underlying51 rfl rfl) ?_) | (refine AL.rpy rfl rfl rfl (rp_len_nil Tryz.underlying51 rfl rfl) ?_) | (refine AL.rpy rfl rfl rfl (rp_len_str Tryz.underlying51 rfl rfl) ?_))
    (first | (refine AL.noV rfl rfl rfl rfl ?_) | (refine AL.noU rfl ⟨_, rfl, rfl⟩ rfl ?_) | (refine AL.rpy rfl rfl rfl (rp_eqlT rfl rfl rfl (by first | assumption | omega | (dsimp only; omega))) ?_) | (refine AL.rpy rfl rfl rfl (rp_eqlF rfl rfl rfl (by first | assumption | omega | (dsimp only; omega))) ?_) | (refine AL.rpy rfl rfl rfl (rp_eql rfl rfl rfl) ?_))
    refine AL.rp rfl rfl (rp_pick rfl rfl rfl) ?_
    refine AL.rp rfl rfl (rp_move rfl rfl) ?_
    (first | (refine AL.noV rfl rfl rfl rfl ?_) | (refine AL.noU rfl ⟨_, rfl, rfl⟩ rfl ?_) | (refine AL.rpy rfl rfl rfl (rp_field_ref Tryz.underlying24 rfl rfl rfl inf22 (by decide) rfl) ?_) | (refine AL.rpy rfl rfl rfl (rp_field_ad Tryz.underlying24 rfl rfl rfl inf22 (by decide) rfl) ?_))
    (first | (refine AL.noV rfl rfl rfl rfl ?_) | (refine AL.noU rfl ⟨_, rfl, rfl⟩ rfl ?_) | (refine AL.rdy rfl rfl rfl (rd_load_ref Tryz.underlying22 rfl rfl rfl rfl rfl rfl) ?_) | (refine AL.rdy rfl rfl rfl (rd_load_ad Tryz.underlying22 rfl rfl rfl rfl) ?_) | (refine AL.rdy rfl rfl rfl (rd_load_map Tryz.underlying22 rfl rfl rfl rfl rfl rfl (by assumption)) ?_) | (refine AL.rdy rfl rfl rfl (rd_load_fam (m := 0) Tryz.underlying22 rfl rfl rfl rfl rfl rfl (fun _ => rfl) rfl (by assumption)) ?_) | (refine AL.rdy rfl rfl rfl (rd_load_fam (m := 1) Tryz.underlying22 rfl rfl rfl rfl rfl rfl (fun _ => rfl) rfl (by assumption)) ?_) | (refine AL.rdy rfl rfl rfl (rd_load_fpre (m := 1) Tryz.underlying22 rfl rfl rfl rfl rfl rfl (fun _ => rfl) rfl (by assumption) rfl) ?_) | (refine AL.rdy rfl rfl rfl (rd_load_flat Tryz.underlying22 rfl rfl rfl rfl rfl rfl (fun _ => rfl) (by assumption) rfl) ?_))
    (first | (refine AL.noV rfl rfl rfl rfl ?_) | (refine AL.noU rfl ⟨_, rfl, rfl⟩ rfl ?_) | (refine AL.rpy rfl rfl rfl (rp_len_map Tryz.underlying22 rfl rfl (by assumption)) ?_) | (refine AL.rpy rfl rfl rfl (rp_len_own Tryz.underlying22 rfl rfl) ?_) | (refine AL.rpy rfl rfl rfl (rp_len_sl Tryz.underlying22 rfl rfl) ?_) | (refine AL.rpy rfl rfl rfl (rp_len_nil Tryz.underlying22 rfl rfl) ?_) | (refine AL.rpy rfl rfl rfl (rp_len_str Tryz.underlying22 rfl rfl) ?_))
    (first | (refine AL.noV rfl rfl rfl rfl ?_) | (refine AL.noU rfl ⟨_, rfl, rfl⟩ rfl ?_) | (refine AL.rpy rfl rfl rfl (rp_gtrT rfl rfl rfl (by first | assumption | omega | (dsimp only; omega))) ?_) | (refine AL.rpy rfl rfl rfl (rp_gtrF rfl rfl rfl (by first | assumption | omega | (dsimp only; omega))) ?_) | (refine AL.rpy rfl rfl rfl (rp_gtr rfl rfl rfl) ?_))
    refine AL.rp rfl rfl (rp_pick rfl rfl rfl) ?_
    refine AL.rp rfl rfl (rp_assign rfl rfl) ?_
    refine AL.nil ?_
    try simp only [thenS, S.put, List.nil_append, List.cons_append]
    refine AF.condF rfl ?_
    refine AF.skip ?_
    try simp only [thenS, List.nil_append, List.cons_append]
    simp only [thenS, inBlockS, QB, QB1]
    refine ⟨⟨104, [], (790, lnRow (ln2 rem)) :: ppH ⟨st, sts⟩ z, lnLoop lb w0.heap.size r0 .busy none :: ylV lb :: .ref 790 0 :: lnDf db w0.heap.size :: [.ref 2 0, .ref 3 0]⟩, ?_, rfl, rfl, _, rfl, (ppJ_ok hJ).2, hJ⟩
    unfold ppH
    exact (Less.of rfl (by repeat (first | exact trivial | refine ⟨⟨_, rfl, Wk.refl _⟩, ?_⟩ | refine ⟨⟨_, rfl, Wk.nil _ _⟩, ?_⟩ | refine ⟨⟨_, rfl, Wk.junk _⟩, ?_⟩)) (by repeat (first | exact trivial | refine ⟨rfl, ?_⟩ | exact LH.fam | refine LH.skip (by decide) ?_)) rfl)
  ·have hc0 : (bs p0).data.toList ≠ (⟨#[115, 116, 97, 114, 116]⟩ : ByteArray).data.toList := by rw [bs_list]; exact h1
   rw [if_neg (fun h => h1 h.1)] at hF
   by_cases h2 : p0 = wSa
   ·subst h2
    have hcS : bs wSa = ⟨#[115, 116, 97, 116, 101]⟩ := rfl
    have hcA : (bs wSa).data.toList ≠ (⟨#[97, 114, 99]⟩ : ByteArray).data.toList := by decide
    by_cases hn1 : NL = 1
    ·subst hn1
     rw [if_pos ⟨rfl, rfl⟩] at hF
     obtain ⟨p1, hq1⟩ : ∃ p, ws[1]? = some p := ⟨_, List.getElem?_eq_getElem (by omega)⟩
     rw [hq1, Option.getD_some] at hF
     have hwr := am_Read (bs p1) p1 (bs_list p1)
     obtain ⟨e1, he1⟩ : ∃ v, rdE p1 = v := ⟨_, rfl⟩
     obtain ⟨x1, hx1⟩ : ∃ v, rdX p1 = v := ⟨_, rfl⟩
     rw [he1, hx1] at hwr
     rw [hx1] at hF
     have hJ : ppJ R (ln2 rem) (ppG st sts x1) := ⟨by omega, ⟨st, sts ++ [⟨x1, []⟩]⟩, szM_mono (szM_app hsz) (by omega), hF, .inr ⟨sts, x1, rfl, rfl⟩⟩
     have hsts := hsz.1
     simp only at hsts
     refine AF.block ?_
     refine AF.seq ?_
     refine AF.region (fun _ h => h) rfl ?_
     refine AL.rp rfl rfl (rp_move rfl rfl) ?_
     refine AL.call (post := ?pc55) rfl (sm_call (args := [_, _]) ?hc55 ⟨Tryz.func17, rfl, rfl, rfl, rfl⟩ rfl rfl rfl rfl) ?_
     case hc55 => exact htrim
     rintro _ rfl -
     try dsimp only
     refine AL.call (post := ?pc56) rfl (sm_callP (args := [_, _]) (preN_kept) (by assumption) ?hc56 ⟨Tryz.func16, rfl, rfl, rfl, rfl⟩ rfl rfl rfl rfl) ?_
     case hc56 => exact hsp
     rintro _ rfl -
     try dsimp only
     refine AL.rp rfl rfl (rp_assign rfl rfl) ?_
     refine AL.nil ?_
     try simp only [thenS, S.put, S.newObj, setL, V.cs, List.length_cons, List.length_nil, List.take_succ_cons, List.take_zero, List.drop_succ_cons, List.drop_zero, List.drop_nil, List.nil_append, List.cons_append, List.append_nil, Nat.zero_add, Nat.reduceAdd, List.map_cons, List.map_nil, List.set_cons_zero, List.set_cons_succ]
     refine AF.seq ?_
     refine AF.region (fun _ h => h) rfl ?_
     refine AL.rp rfl rfl (rp_move rfl rfl) ?_
     (first | (refine AL.rd rfl rfl (rd_slice_que (j := 1) Tryz.underlying33 inf9 rfl rfl rfl (by omega) (by omega)) ?_) | (refine AL.rd rfl rfl (rd_slice_fromD (j := 1) Tryz.underlying33 inf9 rfl rfl rfl (by first | rfl | omega) (by first | assumption | omega) (by assumption)) ?_))
     refine AL.call (post := ?pc57) rfl (sm_callP (args := [_]) (preN_kept) (by assumption) ?hc57 ⟨Tryz.func18, rfl, rfl, rfl, rfl⟩ rfl rfl rfl rfl) ?_
     case hc57 => exact hnu
     rintro _ rfl -
     try dsimp only
     refine AL.rp rfl rfl (rp_assign rfl rfl) ?_
     refine AL.nil ?_
     try simp only [thenS, S.put, S.newObj, setL, V.cs, List.length_cons, List.length_nil, List.take_succ_cons, List.take_zero, List.drop_succ_cons, List.drop_zero, List.drop_nil, List.nil_append, List.cons_append, List.append_nil, Nat.zero_add, Nat.reduceAdd, List.map_cons, List.map_nil, List.set_cons_zero, List.set_cons_succ]
     refine AF.block ?_
     refine AF.seq ?_
     refine AF.region (fun _ h => h) rfl ?_
     refine AL.rp rfl rfl (rp_move rfl rfl) ?_
     (first | (refine AL.rp rfl rfl (rp_index_own (k := 0) Tryz.underlying33 inf9 rfl rfl rfl (by omega) (by omega)) ?_) | (refine AL.rp rfl rfl (rp_index_map (k := 0) Tryz.underlying33 inf9 rfl rfl rfl (by omega) (by assumption)) ?_))
     (first | (refine AL.rd rfl rfl (rd_load_ref Tryz.underlying9 rfl rfl rfl rfl rfl rfl) ?_) | (refine AL.rd rfl rfl (rd_load_ad Tryz.underlying9 rfl rfl rfl rfl) ?_) | (refine AL.rd rfl rfl (rd_load_map Tryz.underlying9 rfl rfl rfl rfl rfl rfl (by assumption)) ?_) | (refine AL.rd rfl rfl (rd_load_fam (m := 0) Tryz.underlying9 rfl rfl rfl rfl rfl rfl (fun _ => rfl) rfl (by assumption)) ?_) | (refine AL.rd rfl rfl (rd_load_fam (m := 1) Tryz.underlying9 rfl rfl rfl rfl rfl rfl (fun _ => rfl) rfl (by assumption)) ?_) | (refine AL.rd rfl rfl (rd_load_fpre (m := 1) Tryz.underlying9 rfl rfl rfl rfl rfl rfl (fun _ => rfl) rfl (by assumption) rfl) ?_) | (refine AL.rd rfl rfl (rd_load_flat Tryz.underlying9 rfl rfl rfl rfl rfl rfl (fun _ => rfl) (by assumption) rfl) ?_))
     (first | (refine AL.rp rfl rfl (rp_eqlsT rfl rfl rfl (by assumption)) ?_) | (refine AL.rp rfl rfl (rp_eqlsF rfl rfl rfl (by assumption)) ?_) | (refine AL.rp rfl rfl (rp_eqls rfl rfl rfl) ?_))
     refine AL.rp rfl rfl (rp_move rfl rfl) ?_
     (first | (refine AL.noV rfl rfl rfl rfl ?_) | (refine AL.noU rfl ⟨_, rfl, rfl⟩ rfl ?_) | (refine AL.rpy rfl rfl rfl (rp_move rfl rfl) ?_))
     (first | (refine AL.noV rfl rfl rfl rfl ?_) | (refine AL.noU rfl ⟨_, rfl, rfl⟩ rfl ?_) | (refine AL.rpy rfl rfl rfl (rp_len_map Tryz.underlying51 rfl rfl (by assumption)) ?_) | (refine AL.rpy rfl rfl rfl (rp_len_own Tryz.underlying51 rfl rfl) ?_) | (refine AL.rpy rfl rfl rfl (rp_len_sl Tryz.underlying51 rfl rfl) ?_) | (refine AL.rpy rfl rfl rfl (rp_len_nil Tryz.underlying51 rfl rfl) ?_) | (refine AL.rpy rfl rfl rfl (rp_len_str Tryz.underlying51 rfl rfl) ?_))
     (first | (refine AL.noV rfl rfl rfl rfl ?_) | (refine AL.noU rfl ⟨_, rfl, rfl⟩ rfl ?_) | (refine AL.rpy rfl rfl rfl (rp_eqlT rfl rfl rfl (by first | assumption | omega | (dsimp only; omega))) ?_) | (refine AL.rpy rfl rfl rfl (rp_eqlF rfl rfl rfl (by first | assumption | omega | (dsimp only; omega))) ?_) | (refine AL.rpy rfl rfl rfl (rp_eql rfl rfl rfl) ?_))
     refine AL.rp rfl rfl (rp_pick rfl rfl rfl) ?_
     refine AL.rp rfl rfl (rp_assign rfl rfl) ?_
     refine AL.nil ?_
     try simp only [thenS, S.put, List.nil_append, List.cons_append]
     refine AF.condF rfl ?_
     refine AF.seq ?_
     refine AF.region (fun _ h => h) rfl ?_
     refine AL.rp rfl rfl (rp_move rfl rfl) ?_
     (first | (refine AL.rp rfl rfl (rp_index_own (k := 0) Tryz.underlying33 inf9 rfl rfl rfl (by omega) (by omega)) ?_) | (refine AL.rp rfl rfl (rp_index_map (k := 0) Tryz.underlying33 inf9 rfl rfl rfl (by omega) (by assumption)) ?_))
     (first | (refine AL.rd rfl rfl (rd_load_ref Tryz.underlying9 rfl rfl rfl rfl rfl rfl) ?_) | (refine AL.rd rfl rfl (rd_load_ad Tryz.underlying9 rfl rfl rfl rfl) ?_) | (refine AL.rd rfl rfl (rd_load_map Tryz.underlying9 rfl rfl rfl rfl rfl rfl (by assumption)) ?_) | (refine AL.rd rfl rfl (rd_load_fam (m := 0) Tryz.underlying9 rfl rfl rfl rfl rfl rfl (fun _ => rfl) rfl (by assumption)) ?_) | (refine AL.rd rfl rfl (rd_load_fam (m := 1) Tryz.underlying9 rfl rfl rfl rfl rfl rfl (fun _ => rfl) rfl (by assumption)) ?_) | (refine AL.rd rfl rfl (rd_load_fpre (m := 1) Tryz.underlying9 rfl rfl rfl rfl rfl rfl (fun _ => rfl) rfl (by assumption) rfl) ?_) | (refine AL.rd rfl rfl (rd_load_flat Tryz.underlying9 rfl rfl rfl rfl rfl rfl (fun _ => rfl) (by assumption) rfl) ?_))
     (first | (refine AL.rp rfl rfl (rp_eqlsT rfl rfl rfl (by assumption)) ?_) | (refine AL.rp rfl rfl (rp_eqlsF rfl rfl rfl (by assumption)) ?_) | (refine AL.rp rfl rfl (rp_eqls rfl rfl rfl) ?_))
     refine AL.rp rfl rfl (rp_move rfl rfl) ?_
     (first | (refine AL.noV rfl rfl rfl rfl ?_) | (refine AL.noU rfl ⟨_, rfl, rfl⟩ rfl ?_) | (refine AL.rpy rfl rfl rfl (rp_move rfl rfl) ?_))
     (first | (refine AL.noV rfl rfl rfl rfl ?_) | (refine AL.noU rfl ⟨_, rfl, rfl⟩ rfl ?_) | (refine AL.rpy rfl rfl rfl (rp_len_map Tryz.underlying51 rfl rfl (by assumption)) ?_) | (refine AL.rpy rfl rfl rfl (rp_len_own Tryz.underlying51 rfl rfl) ?_) | (refine AL.rpy rfl rfl rfl (rp_len_sl Tryz.underlying51 rfl rfl) ?_) | (refine AL.rpy rfl rfl rfl (rp_len_nil Tryz.underlying51 rfl rfl) ?_) | (refine AL.rpy rfl rfl rfl (rp_len_str Tryz.underlying51 rfl rfl) ?_))
     (first | (refine AL.noV rfl rfl rfl rfl ?_) | (refine AL.noU rfl ⟨_, rfl, rfl⟩ rfl ?_) | (refine AL.rpy rfl rfl rfl (rp_eqlT rfl rfl rfl (by first | assumption | omega | (dsimp only; omega))) ?_) | (refine AL.rpy rfl rfl rfl (rp_eqlF rfl rfl rfl (by first | assumption | omega | (dsimp only; omega))) ?_) | (refine AL.rpy rfl rfl rfl (rp_eql rfl rfl rfl) ?_))
     refine AL.rp rfl rfl (rp_pick rfl rfl rfl) ?_
     refine AL.rp rfl rfl (rp_assign rfl rfl) ?_
     refine AL.nil ?_
     try simp only [thenS, S.put, List.nil_append, List.cons_append]
     refine AF.condT rfl ?_
     refine AF.seq ?_
     refine AF.region (fun _ h => h) rfl ?_
     refine AL.rp rfl rfl (rp_move rfl rfl) ?_
     (first | (refine AL.rp rfl rfl (rp_index_own (k := 1) Tryz.underlying33 inf9 rfl rfl rfl (by omega) (by omega)) ?_) | (refine AL.rp rfl rfl (rp_index_map (k := 1) Tryz.underlying33 inf9 rfl rfl rfl (by omega) (by assumption)) ?_))
     (first | (refine AL.rd rfl rfl (rd_load_ref Tryz.underlying9 rfl rfl rfl rfl rfl rfl) ?_) | (refine AL.rd rfl rfl (rd_load_ad Tryz.underlying9 rfl rfl rfl rfl) ?_) | (refine AL.rd rfl rfl (rd_load_map Tryz.underlying9 rfl rfl rfl rfl rfl rfl (by assumption)) ?_) | (refine AL.rd rfl rfl (rd_load_fam (m := 0) Tryz.underlying9 rfl rfl rfl rfl rfl rfl (fun _ => rfl) rfl (by assumption)) ?_) | (refine AL.rd rfl rfl (rd_load_fam (m := 1) Tryz.underlying9 rfl rfl rfl rfl rfl rfl (fun _ => rfl) rfl (by assumption)) ?_) | (refine AL.rd rfl rfl (rd_load_fpre (m := 1) Tryz.underlying9 rfl rfl rfl rfl rfl rfl (fun _ => rfl) rfl (by assumption) rfl) ?_) | (refine AL.rd rfl rfl (rd_load_flat Tryz.underlying9 rfl rfl rfl rfl rfl rfl (fun _ => rfl) (by assumption) rfl) ?_))
     refine AL.call (post := ?pc58) rfl (sm_call (args := [_]) ?hc58 ⟨Tryz.func19, rfl, rfl, rfl, rfl⟩ rfl rfl rfl rfl) ?_
     case hc58 => exact hwr
     rintro _ rfl -
     try dsimp only
     refine AL.rp rfl rfl (rp_move rfl rfl) ?_
     refine AL.rp rfl rfl (rp_extract rfl rfl rfl) ?_
     refine AL.rp rfl rfl (rp_extract rfl rfl rfl) ?_
     refine AL.rp rfl rfl (rp_assign rfl rfl) ?_
     refine AL.rp rfl rfl (rp_assign rfl rfl) ?_
     refine AL.nil ?_
     try simp only [thenS, S.put, S.newObj, setL, V.cs, List.length_cons, List.length_nil, List.take_succ_cons, List.take_zero, List.drop_succ_cons, List.drop_zero, List.drop_nil, List.nil_append, List.cons_append, List.append_nil, Nat.zero_add, Nat.reduceAdd, List.map_cons, List.map_nil, List.set_cons_zero, List.set_cons_succ]
     refine AF.region (fun _ h => h) rfl ?_
     (first | (refine AL.rp rfl rfl (rp_field_ref Tryz.underlying24 rfl rfl rfl inf22 (by decide) rfl) ?_) | (refine AL.rp rfl rfl (rp_field_ad Tryz.underlying24 rfl rfl rfl inf22 (by decide) rfl) ?_))
     (first | (refine AL.rd rfl rfl (rd_load_ref Tryz.underlying22 rfl rfl rfl rfl rfl rfl) ?_) | (refine AL.rd rfl rfl (rd_load_ad Tryz.underlying22 rfl rfl rfl rfl) ?_) | (refine AL.rd rfl rfl (rd_load_map Tryz.underlying22 rfl rfl rfl rfl rfl rfl (by assumption)) ?_) | (refine AL.rd rfl rfl (rd_load_fam (m := 0) Tryz.underlying22 rfl rfl rfl rfl rfl rfl (fun _ => rfl) rfl (by assumption)) ?_) | (refine AL.rd rfl rfl (rd_load_fam (m := 1) Tryz.underlying22 rfl rfl rfl rfl rfl rfl (fun _ => rfl) rfl (by assumption)) ?_) | (refine AL.rd rfl rfl (rd_load_fpre (m := 1) Tryz.underlying22 rfl rfl rfl rfl rfl rfl (fun _ => rfl) rfl (by assumption) rfl) ?_) | (refine AL.rd rfl rfl (rd_load_flat Tryz.underlying22 rfl rfl rfl rfl rfl rfl (fun _ => rfl) (by assumption) rfl) ?_))
     refine AL.rp rfl rfl (rp_move rfl rfl) ?_
     refine AL.rp rfl rfl (rp_build (vs := [(0, _)]) (zs := [.d (.p (.int .i64 0)), .d (.p (.slice none 0 0))]) pl42 inf42 rfl rfl rfl rfl) ?_
     refine AL.sm rfl (sm_slice (vs := [(0, _)]) (zs := [.d (.p (.int .i64 0)), .d (.p (.slice none 0 0))]) 55 Tryz.underlying22 inf42 rfl rfl (by decide) (by decide) (by decide) rfl rfl rfl rfl (by first | rfl | (simp only [S.clean, S.put, S.newObj, List.all_cons, objs_clean_low, Nat.reduceLT]; simp [S.forget, V.has, V.hasL, junkIf, setL, V.cs, hasL_i, hasL_b, hasL_s, hasL_n, hasL_rep, hasL_flat, hasL_append, cells_hasL_low, has_ownV, hasL_frep, nb1, nb2, nb3, nb4, -List.map_set]; try omega)) (by first | rfl | (simp only [S.clean, S.put, S.newObj, List.all_cons, objs_clean_low, Nat.reduceLT]; simp [S.forget, V.has, V.hasL, junkIf, setL, V.cs, hasL_i, hasL_b, hasL_s, hasL_n, hasL_rep, hasL_flat, hasL_append, cells_hasL_low, has_ownV, hasL_frep, nb1, nb2, nb3, nb4, -List.map_set]; try omega)) rfl) ?_
     refine AL.st rfl (st_appendF Tryz.underlying22 inf42 rfl (by decide) rfl rfl rfl rfl rfl rfl (by first | assumption | rfl | (simp; done)) (by first | rfl | (simp only [S.clean, S.put, S.newObj, List.all_cons, objs_clean_low, Nat.reduceLT]; simp [S.forget, V.has, V.hasL, junkIf, setL, V.cs, hasL_i, hasL_b, hasL_s, hasL_n, hasL_rep, hasL_flat, hasL_append, cells_hasL_low, has_ownV, hasL_frep, nb1, nb2, nb3, nb4, -List.map_set]; try omega)) rfl rfl rfl rfl rfl (by first | rfl | (simp only [S.clean, S.put, S.newObj, List.all_cons, objs_clean_low, Nat.reduceLT]; simp [S.forget, V.has, V.hasL, junkIf, setL, V.cs, hasL_i, hasL_b, hasL_s, hasL_n, hasL_rep, hasL_flat, hasL_append, cells_hasL_low, has_ownV, hasL_frep, nb1, nb2, nb3, nb4, -List.map_set]; try omega)) rfl (by decide) (by omega) (by omega) rfl) ?_
     simp only [objs_filter_low, Fam.objs_forget, cells_hasL_low, has_ownV, nb3, nb4, Nat.reduceLT, S.forget, S.put, S.newObj, junkIf, V.has, V.hasL, hasL_i, hasL_b, hasL_s, hasL_d, hasL_n, hasL_rep, hasL_flat, hasL_append, List.map_cons, List.map_nil, List.filter_cons, List.filter_nil, Nat.reduceBNe, Nat.reduceBEq, eq_self, bne_self_eq_false,  Bool.not_true, Bool.not_false, Bool.or_false, Bool.or_true, Bool.false_or, Bool.true_or, if_true, if_false, Bool.false_eq_true, ite_true, ite_false, ↓reduceIte, beq_self_eq_true, Nat.reduceEqDiff]
     (first | (refine AL.rp rfl rfl (rp_field_ref Tryz.underlying24 rfl rfl rfl inf22 (by decide) rfl) ?_) | (refine AL.rp rfl rfl (rp_field_ad Tryz.underlying24 rfl rfl rfl inf22 (by decide) rfl) ?_))
     (first | (refine AL.st rfl (st_store_map2 inf22 rfl rfl rfl rfl rfl rfl rfl rfl (by first | assumption | omega)) ?_) | (refine AL.st rfl (st_store_fam (m := 0) inf22 rfl rfl rfl rfl rfl rfl (fun _ => rfl) rfl rfl (by first | assumption | (simp; omega))) ?_) | (refine AL.st rfl (st_store_fam (m := 1) inf22 rfl rfl rfl rfl rfl rfl (fun _ => rfl) rfl rfl (by first | assumption | (simp; omega))) ?_) | (refine AL.st rfl (st_store inf22 rfl rfl rfl rfl rfl rfl rfl (by first | decide | (simp; done)) rfl) ?_))
     refine AL.nil ?_
     try simp only [thenS, S.put, S.newObj, setL, V.cs, List.length_cons, List.length_nil, List.take_succ_cons, List.take_zero, List.drop_succ_cons, List.drop_zero, List.drop_nil, List.nil_append, List.cons_append, List.append_nil, Nat.zero_add, Nat.reduceAdd, List.map_cons, List.map_nil, List.set_cons_zero, List.set_cons_succ]
     simp only [thenS, inBlockS, QB, QB1]
     refine ⟨⟨104, [], (790, lnRow (ln2 rem)) :: ppG st sts x1, lnLoop lb w0.heap.size r0 .busy none :: ylV lb :: .ref 790 0 :: lnDf db w0.heap.size :: [.ref 2 0, .ref 3 0]⟩, ?_, rfl, rfl, _, rfl, (ppJ_ok hJ).2, hJ⟩
     unfold ppG
     exact (Less.of rfl (by repeat (first | exact trivial | refine ⟨⟨_, rfl, Wk.refl _⟩, ?_⟩ | refine ⟨⟨_, rfl, Wk.nil _ _⟩, ?_⟩ | refine ⟨⟨_, rfl, Wk.junk _⟩, ?_⟩)) (by repeat (first | exact trivial | refine ⟨rfl, ?_⟩ | exact LH.fam | refine LH.skip (by decide) ?_)) rfl)
    ·rw [if_neg (by omega), if_neg (by rintro ⟨h, _⟩; exact hAA h.symm)] at hF
     have hJ := same hF
     refine AF.block ?_
     refine AF.seq ?_
     refine AF.region (fun _ h => h) rfl ?_
     refine AL.rp rfl rfl (rp_move rfl rfl) ?_
     refine AL.call (post := ?pc59) rfl (sm_call (args := [_, _]) ?hc59 ⟨Tryz.func17, rfl, rfl, rfl, rfl⟩ rfl rfl rfl rfl) ?_
     case hc59 => exact htrim
     rintro _ rfl -
     try dsimp only
     refine AL.call (post := ?pc60) rfl (sm_callP (args := [_, _]) (preN_kept) (by assumption) ?hc60 ⟨Tryz.func16, rfl, rfl, rfl, rfl⟩ rfl rfl rfl rfl) ?_
     case hc60 => exact hsp
     rintro _ rfl -
     try dsimp only
     refine AL.rp rfl rfl (rp_assign rfl rfl) ?_
     refine AL.nil ?_
     try simp only [thenS, S.put, S.newObj, setL, V.cs, List.length_cons, List.length_nil, List.take_succ_cons, List.take_zero, List.drop_succ_cons, List.drop_zero, List.drop_nil, List.nil_append, List.cons_append, List.append_nil, Nat.zero_add, Nat.reduceAdd, List.map_cons, List.map_nil, List.set_cons_zero, List.set_cons_succ]
     refine AF.seq ?_
     refine AF.region (fun _ h => h) rfl ?_
     refine AL.rp rfl rfl (rp_move rfl rfl) ?_
     (first | (refine AL.rd rfl rfl (rd_slice_que (j := 1) Tryz.underlying33 inf9 rfl rfl rfl (by omega) (by omega)) ?_) | (refine AL.rd rfl rfl (rd_slice_fromD (j := 1) Tryz.underlying33 inf9 rfl rfl rfl (by first | rfl | omega) (by first | assumption | omega) (by assumption)) ?_))
     refine AL.call (post := ?pc61) rfl (sm_callP (args := [_]) (preN_kept) (by assumption) ?hc61 ⟨Tryz.func18, rfl, rfl, rfl, rfl⟩ rfl rfl rfl rfl) ?_
     case hc61 => exact hnu
     rintro _ rfl -
     try dsimp only
     refine AL.rp rfl rfl (rp_assign rfl rfl) ?_
     refine AL.nil ?_
     try simp only [thenS, S.put, S.newObj, setL, V.cs, List.length_cons, List.length_nil, List.take_succ_cons, List.take_zero, List.drop_succ_cons, List.drop_zero, List.drop_nil, List.nil_append, List.cons_append, List.append_nil, Nat.zero_add, Nat.reduceAdd, List.map_cons, List.map_nil, List.set_cons_zero, List.set_cons_succ]
     refine AF.block ?_
     refine AF.seq ?_
     refine AF.region (fun _ h => h) rfl ?_
     refine AL.rp rfl rfl (rp_move rfl rfl) ?_
     (first | (refine AL.rp rfl rfl (rp_index_own (k := 0) Tryz.underlying33 inf9 rfl rfl rfl (by omega) (by omega)) ?_) | (refine AL.rp rfl rfl (rp_index_map (k := 0) Tryz.underlying33 inf9 rfl rfl rfl (by omega) (by assumption)) ?_))
     (first | (refine AL.rd rfl rfl (rd_load_ref Tryz.underlying9 rfl rfl rfl rfl rfl rfl) ?_) | (refine AL.rd rfl rfl (rd_load_ad Tryz.underlying9 rfl rfl rfl rfl) ?_) | (refine AL.rd rfl rfl (rd_load_map Tryz.underlying9 rfl rfl rfl rfl rfl rfl (by assumption)) ?_) | (refine AL.rd rfl rfl (rd_load_fam (m := 0) Tryz.underlying9 rfl rfl rfl rfl rfl rfl (fun _ => rfl) rfl (by assumption)) ?_) | (refine AL.rd rfl rfl (rd_load_fam (m := 1) Tryz.underlying9 rfl rfl rfl rfl rfl rfl (fun _ => rfl) rfl (by assumption)) ?_) | (refine AL.rd rfl rfl (rd_load_fpre (m := 1) Tryz.underlying9 rfl rfl rfl rfl rfl rfl (fun _ => rfl) rfl (by assumption) rfl) ?_) | (refine AL.rd rfl rfl (rd_load_flat Tryz.underlying9 rfl rfl rfl rfl rfl rfl (fun _ => rfl) (by assumption) rfl) ?_))
     (first | (refine AL.rp rfl rfl (rp_eqlsT rfl rfl rfl (by assumption)) ?_) | (refine AL.rp rfl rfl (rp_eqlsF rfl rfl rfl (by assumption)) ?_) | (refine AL.rp rfl rfl (rp_eqls rfl rfl rfl) ?_))
     refine AL.rp rfl rfl (rp_move rfl rfl) ?_
     (first | (refine AL.noV rfl rfl rfl rfl ?_) | (refine AL.noU rfl ⟨_, rfl, rfl⟩ rfl ?_) | (refine AL.rpy rfl rfl rfl (rp_move rfl rfl) ?_))
     (first | (refine AL.noV rfl rfl rfl rfl ?_) | (refine AL.noU rfl ⟨_, rfl, rfl⟩ rfl ?_) | (refine AL.rpy rfl rfl rfl (rp_len_map Tryz.underlying51 rfl rfl (by assumption)) ?_) | (refine AL.rpy rfl rfl rfl (rp_len_own Tryz.underlying51 rfl rfl) ?_) | (refine AL.rpy rfl rfl rfl (rp_len_sl Tryz.underlying51 rfl rfl) ?_) | (refine AL.rpy rfl rfl rfl (rp_len_nil Tryz.underlying51 rfl rfl) ?_) | (refine AL.rpy rfl rfl rfl (rp_len_str Tryz.underlying51 rfl rfl) ?_))
     (first | (refine AL.noV rfl rfl rfl rfl ?_) | (refine AL.noU rfl ⟨_, rfl, rfl⟩ rfl ?_) | (refine AL.rpy rfl rfl rfl (rp_eqlT rfl rfl rfl (by first | assumption | omega | (dsimp only; omega))) ?_) | (refine AL.rpy rfl rfl rfl (rp_eqlF rfl rfl rfl (by first | assumption | omega | (dsimp only; omega))) ?_) | (refine AL.rpy rfl rfl rfl (rp_eql rfl rfl rfl) ?_))
     refine AL.rp rfl rfl (rp_pick rfl rfl rfl) ?_
     refine AL.rp rfl rfl (rp_assign rfl rfl) ?_
     refine AL.nil ?_
     try simp only [thenS, S.put, List.nil_append, List.cons_append]
     refine AF.condF rfl ?_
     refine AF.seq ?_
     refine AF.region (fun _ h => h) rfl ?_
     refine AL.rp rfl rfl (rp_move rfl rfl) ?_
     (first | (refine AL.rp rfl rfl (rp_index_own (k := 0) Tryz.underlying33 inf9 rfl rfl rfl (by omega) (by omega)) ?_) | (refine AL.rp rfl rfl (rp_index_map (k := 0) Tryz.underlying33 inf9 rfl rfl rfl (by omega) (by assumption)) ?_))
     (first | (refine AL.rd rfl rfl (rd_load_ref Tryz.underlying9 rfl rfl rfl rfl rfl rfl) ?_) | (refine AL.rd rfl rfl (rd_load_ad Tryz.underlying9 rfl rfl rfl rfl) ?_) | (refine AL.rd rfl rfl (rd_load_map Tryz.underlying9 rfl rfl rfl rfl rfl rfl (by assumption)) ?_) | (refine AL.rd rfl rfl (rd_load_fam (m := 0) Tryz.underlying9 rfl rfl rfl rfl rfl rfl (fun _ => rfl) rfl (by assumption)) ?_) | (refine AL.rd rfl rfl (rd_load_fam (m := 1) Tryz.underlying9 rfl rfl rfl rfl rfl rfl (fun _ => rfl) rfl (by assumption)) ?_) | (refine AL.rd rfl rfl (rd_load_fpre (m := 1) Tryz.underlying9 rfl rfl rfl rfl rfl rfl (fun _ => rfl) rfl (by assumption) rfl) ?_) | (refine AL.rd rfl rfl (rd_load_flat Tryz.underlying9 rfl rfl rfl rfl rfl rfl (fun _ => rfl) (by assumption) rfl) ?_))
     (first | (refine AL.rp rfl rfl (rp_eqlsT rfl rfl rfl (by assumption)) ?_) | (refine AL.rp rfl rfl (rp_eqlsF rfl rfl rfl (by assumption)) ?_) | (refine AL.rp rfl rfl (rp_eqls rfl rfl rfl) ?_))
     refine AL.rp rfl rfl (rp_move rfl rfl) ?_
     (first | (refine AL.noV rfl rfl rfl rfl ?_) | (refine AL.noU rfl ⟨_, rfl, rfl⟩ rfl ?_) | (refine AL.rpy rfl rfl rfl (rp_move rfl rfl) ?_))
     (first | (refine AL.noV rfl rfl rfl rfl ?_) | (refine AL.noU rfl ⟨_, rfl, rfl⟩ rfl ?_) | (refine AL.rpy rfl rfl rfl (rp_len_map Tryz.underlying51 rfl rfl (by assumption)) ?_) | (refine AL.rpy rfl rfl rfl (rp_len_own Tryz.underlying51 rfl rfl) ?_) | (refine AL.rpy rfl rfl rfl (rp_len_sl Tryz.underlying51 rfl rfl) ?_) | (refine AL.rpy rfl rfl rfl (rp_len_nil Tryz.underlying51 rfl rfl) ?_) | (refine AL.rpy rfl rfl rfl (rp_len_str Tryz.underlying51 rfl rfl) ?_))
     (first | (refine AL.noV rfl rfl rfl rfl ?_) | (refine AL.noU rfl ⟨_, rfl, rfl⟩ rfl ?_) | (refine AL.rpy rfl rfl rfl (rp_eqlT rfl rfl rfl (by first | assumption | omega | (dsimp only; omega))) ?_) | (refine AL.rpy rfl rfl rfl (rp_eqlF rfl rfl rfl (by first | assumption | omega | (dsimp only; omega))) ?_) | (refine AL.rpy rfl rfl rfl (rp_eql rfl rfl rfl) ?_))
     refine AL.rp rfl rfl (rp_pick rfl rfl rfl) ?_
     refine AL.rp rfl rfl (rp_assign rfl rfl) ?_
     refine AL.nil ?_
     try simp only [thenS, S.put, List.nil_append, List.cons_append]
     refine AF.condF rfl ?_
     refine AF.seq ?_
     refine AF.region (fun _ h => h) rfl ?_
     refine AL.rp rfl rfl (rp_move rfl rfl) ?_
     (first | (refine AL.rp rfl rfl (rp_index_own (k := 0) Tryz.underlying33 inf9 rfl rfl rfl (by omega) (by omega)) ?_) | (refine AL.rp rfl rfl (rp_index_map (k := 0) Tryz.underlying33 inf9 rfl rfl rfl (by omega) (by assumption)) ?_))
     (first | (refine AL.rd rfl rfl (rd_load_ref Tryz.underlying9 rfl rfl rfl rfl rfl rfl) ?_) | (refine AL.rd rfl rfl (rd_load_ad Tryz.underlying9 rfl rfl rfl rfl) ?_) | (refine AL.rd rfl rfl (rd_load_map Tryz.underlying9 rfl rfl rfl rfl rfl rfl (by assumption)) ?_) | (refine AL.rd rfl rfl (rd_load_fam (m := 0) Tryz.underlying9 rfl rfl rfl rfl rfl rfl (fun _ => rfl) rfl (by assumption)) ?_) | (refine AL.rd rfl rfl (rd_load_fam (m := 1) Tryz.underlying9 rfl rfl rfl rfl rfl rfl (fun _ => rfl) rfl (by assumption)) ?_) | (refine AL.rd rfl rfl (rd_load_fpre (m := 1) Tryz.underlying9 rfl rfl rfl rfl rfl rfl (fun _ => rfl) rfl (by assumption) rfl) ?_) | (refine AL.rd rfl rfl (rd_load_flat Tryz.underlying9 rfl rfl rfl rfl rfl rfl (fun _ => rfl) (by assumption) rfl) ?_))
     (first | (refine AL.rp rfl rfl (rp_eqlsT rfl rfl rfl (by assumption)) ?_) | (refine AL.rp rfl rfl (rp_eqlsF rfl rfl rfl (by assumption)) ?_) | (refine AL.rp rfl rfl (rp_eqls rfl rfl rfl) ?_))
     refine AL.rp rfl rfl (rp_move rfl rfl) ?_
     (first | (refine AL.noV rfl rfl rfl rfl ?_) | (refine AL.noU rfl ⟨_, rfl, rfl⟩ rfl ?_) | (refine AL.rpy rfl rfl rfl (rp_move rfl rfl) ?_))
     (first | (refine AL.noV rfl rfl rfl rfl ?_) | (refine AL.noU rfl ⟨_, rfl, rfl⟩ rfl ?_) | (refine AL.rpy rfl rfl rfl (rp_len_map Tryz.underlying51 rfl rfl (by assumption)) ?_) | (refine AL.rpy rfl rfl rfl (rp_len_own Tryz.underlying51 rfl rfl) ?_) | (refine AL.rpy rfl rfl rfl (rp_len_sl Tryz.underlying51 rfl rfl) ?_) | (refine AL.rpy rfl rfl rfl (rp_len_nil Tryz.underlying51 rfl rfl) ?_) | (refine AL.rpy rfl rfl rfl (rp_len_str Tryz.underlying51 rfl rfl) ?_))
     (first | (refine AL.noV rfl rfl rfl rfl ?_) | (refine AL.noU rfl ⟨_, rfl, rfl⟩ rfl ?_) | (refine AL.rpy rfl rfl rfl (rp_eqlT rfl rfl rfl (by first | assumption | omega | (dsimp only; omega))) ?_) | (refine AL.rpy rfl rfl rfl (rp_eqlF rfl rfl rfl (by first | assumption | omega | (dsimp only; omega))) ?_) | (refine AL.rpy rfl rfl rfl (rp_eql rfl rfl rfl) ?_))
     refine AL.rp rfl rfl (rp_pick rfl rfl rfl) ?_
     refine AL.rp rfl rfl (rp_move rfl rfl) ?_
     (first | (refine AL.noV rfl rfl rfl rfl ?_) | (refine AL.noU rfl ⟨_, rfl, rfl⟩ rfl ?_) | (refine AL.rpy rfl rfl rfl (rp_field_ref Tryz.underlying24 rfl rfl rfl inf22 (by decide) rfl) ?_) | (refine AL.rpy rfl rfl rfl (rp_field_ad Tryz.underlying24 rfl rfl rfl inf22 (by decide) rfl) ?_))
     (first | (refine AL.noV rfl rfl rfl rfl ?_) | (refine AL.noU rfl ⟨_, rfl, rfl⟩ rfl ?_) | (refine AL.rdy rfl rfl rfl (rd_load_ref Tryz.underlying22 rfl rfl rfl rfl rfl rfl) ?_) | (refine AL.rdy rfl rfl rfl (rd_load_ad Tryz.underlying22 rfl rfl rfl rfl) ?_) | (refine AL.rdy rfl rfl rfl (rd_load_map Tryz.underlying22 rfl rfl rfl rfl rfl rfl (by assumption)) ?_) | (refine AL.rdy rfl rfl rfl (rd_load_fam (m := 0) Tryz.underlying22 rfl rfl rfl rfl rfl rfl (fun _ => rfl) rfl (by assumption)) ?_) | (refine AL.rdy rfl rfl rfl (rd_load_fam (m := 1) Tryz.underlying22 rfl rfl rfl rfl rfl rfl (fun _ => rfl) rfl (by assumption)) ?_) | (refine AL.rdy rfl rfl rfl (rd_load_fpre (m := 1) Tryz.underlying22 rfl rfl rfl rfl rfl rfl (fun _ => rfl) rfl (by assumption) rfl) ?_) | (refine AL.rdy rfl rfl rfl (rd_load_flat Tryz.underlying22 rfl rfl rfl rfl rfl rfl (fun _ => rfl) (by assumption) rfl) ?_))
     (first | (refine AL.noV rfl rfl rfl rfl ?_) | (refine AL.noU rfl ⟨_, rfl, rfl⟩ rfl ?_) | (refine AL.rpy rfl rfl rfl (rp_len_map Tryz.underlying22 rfl rfl (by assumption)) ?_) | (refine AL.rpy rfl rfl rfl (rp_len_own Tryz.underlying22 rfl rfl) ?_) | (refine AL.rpy rfl rfl rfl (rp_len_sl Tryz.underlying22 rfl rfl) ?_) | (refine AL.rpy rfl rfl rfl (rp_len_nil Tryz.underlying22 rfl rfl) ?_) | (refine AL.rpy rfl rfl rfl (rp_len_str Tryz.underlying22 rfl rfl) ?_))
     (first | (refine AL.noV rfl rfl rfl rfl ?_) | (refine AL.noU rfl ⟨_, rfl, rfl⟩ rfl ?_) | (refine AL.rpy rfl rfl rfl (rp_gtrT rfl rfl rfl (by first | assumption | omega | (dsimp only; omega))) ?_) | (refine AL.rpy rfl rfl rfl (rp_gtrF rfl rfl rfl (by first | assumption | omega | (dsimp only; omega))) ?_) | (refine AL.rpy rfl rfl rfl (rp_gtr rfl rfl rfl) ?_))
     refine AL.rp rfl rfl (rp_pick rfl rfl rfl) ?_
     refine AL.rp rfl rfl (rp_assign rfl rfl) ?_
     refine AL.nil ?_
     try simp only [thenS, S.put, List.nil_append, List.cons_append]
     refine AF.condF rfl ?_
     refine AF.skip ?_
     try simp only [thenS, List.nil_append, List.cons_append]
     simp only [thenS, inBlockS, QB, QB1]
     refine ⟨⟨104, [], (790, lnRow (ln2 rem)) :: ppH ⟨st, sts⟩ z, lnLoop lb w0.heap.size r0 .busy none :: ylV lb :: .ref 790 0 :: lnDf db w0.heap.size :: [.ref 2 0, .ref 3 0]⟩, ?_, rfl, rfl, _, rfl, (ppJ_ok hJ).2, hJ⟩
     unfold ppH
     exact (Less.of rfl (by repeat (first | exact trivial | refine ⟨⟨_, rfl, Wk.refl _⟩, ?_⟩ | refine ⟨⟨_, rfl, Wk.nil _ _⟩, ?_⟩ | refine ⟨⟨_, rfl, Wk.junk _⟩, ?_⟩)) (by repeat (first | exact trivial | refine ⟨rfl, ?_⟩ | exact LH.fam | refine LH.skip (by decide) ?_)) rfl)
   ·have hcS : (bs p0).data.toList ≠ (⟨#[115, 116, 97, 116, 101]⟩ : ByteArray).data.toList := by rw [bs_list]; exact h2
    rw [if_neg (fun h => h2 h.1)] at hF
    by_cases h3 : p0 = wAr
    ·subst h3
     have hcA : bs wAr = ⟨#[97, 114, 99]⟩ := rfl
     by_cases hn4 : NL = 4
     ·subst hn4
      by_cases hs0 : 0 < sts.length
      ·rw [if_pos ⟨rfl, rfl, hs0⟩] at hF
       obtain ⟨p1, hq1⟩ : ∃ p, ws[1]? = some p := ⟨_, List.getElem?_eq_getElem (by omega)⟩
       obtain ⟨p2, hq2⟩ : ∃ p, ws[2]? = some p := ⟨_, List.getElem?_eq_getElem (by omega)⟩
       obtain ⟨p3, hq3⟩ : ∃ p, ws[3]? = some p := ⟨_, List.getElem?_eq_getElem (by omega)⟩
       obtain ⟨p4, hq4⟩ : ∃ p, ws[4]? = some p := ⟨_, List.getElem?_eq_getElem (by omega)⟩
       have hn0 : NS[0]? = some (nbr p1) := by rw [hget, hq1]; rfl
       have hn1 : NS[1]? = some (nbr p2) := by rw [hget, hq2]; rfl
       have hn2 : NS[2]? = some (nbr p3) := by rw [hget, hq3]; rfl
       have hn3 : NS[3]? = some (nbr p4) := by rw [hget, hq4]; rfl
       simp only [hq1, hq2, hq3, hq4, Option.getD_some] at hF
       obtain ⟨v1, hv1⟩ : ∃ v, nbr p1 = v := ⟨_, rfl⟩
       obtain ⟨v2, hv2⟩ : ∃ v, nbr p2 = v := ⟨_, rfl⟩
       obtain ⟨v3, hv3⟩ : ∃ v, nbr p3 = v := ⟨_, rfl⟩
       obtain ⟨v4, hv4⟩ : ∃ v, nbr p4 = v := ⟨_, rfl⟩
       rw [hv1] at hn0 hF
       rw [hv2] at hn1 hF
       rw [hv3] at hn2 hF
       rw [hv4] at hn3 hF
       obtain ⟨p, hp⟩ : ∃ p, sts.length = p + 1 := ⟨sts.length - 1, by omega⟩
       obtain ⟨x, hx⟩ := get_lt hp (show p < p + 1 by omega)
       rw [putA_set _ hx hp] at hF
       have hsz2 := szM_put (a := ⟨v2, v3, v4, v1⟩) hsz hx
       have hxa := hsz.2 x (List.mem_of_getElem? hx)
       have hsts := hsz.1
       simp only at hsts
       obtain ⟨xf, xs⟩ := x
       simp only at hxa hF hsz2
       obtain rfl : z = false := by rw [← hz]; cases sts with | nil => exact absurd hs0 (Nat.lt_irrefl 0) | cons => rfl
       have hset : (sts.set p ⟨xf, xs ++ [⟨v2, v3, v4, v1⟩]⟩)[p]? = some ⟨xf, xs ++ [⟨v2, v3, v4, v1⟩]⟩ := by rw [List.getElem?_set_self (by omega)]
       have hlen0 : (FS.it ⟨xf, xs⟩).length ≤ 1000000 := by simp [FS]; omega
       have hse : (sts.set p ⟨xf, xs ++ [⟨v2, v3, v4, v1⟩]⟩).isEmpty = false := by
        cases sts with
        | nil => exact absurd hs0 (Nat.lt_irrefl 0)
        | cons => cases p <;> rfl
       have hJ : ppJ R (ln2 rem) (ppH ⟨st, sts.set p ⟨xf, xs ++ [⟨v2, v3, v4, v1⟩]⟩⟩ false) := ⟨by omega, ⟨st, sts.set p ⟨xf, xs ++ [⟨v2, v3, v4, v1⟩]⟩⟩, szM_mono hsz2 (by omega), hF, .inl (by rw [hse])⟩
       have hsl : (sts.set p ⟨xf, xs ++ [⟨v2, v3, v4, v1⟩]⟩).length = p + 1 := by rw [List.length_set]; exact hp
       rw [hp]
       refine AF.block ?_
       refine AF.seq ?_
       refine AF.region (fun _ h => h) rfl ?_
       refine AL.rp rfl rfl (rp_move rfl rfl) ?_
       refine AL.call (post := ?pc62) rfl (sm_call (args := [_, _]) ?hc62 ⟨Tryz.func17, rfl, rfl, rfl, rfl⟩ rfl rfl rfl rfl) ?_
       case hc62 => exact htrim
       rintro _ rfl -
       try dsimp only
       refine AL.call (post := ?pc63) rfl (sm_callP (args := [_, _]) (preN_kept) (by assumption) ?hc63 ⟨Tryz.func16, rfl, rfl, rfl, rfl⟩ rfl rfl rfl rfl) ?_
       case hc63 => exact hsp
       rintro _ rfl -
       try dsimp only
       refine AL.rp rfl rfl (rp_assign rfl rfl) ?_
       refine AL.nil ?_
       try simp only [thenS, S.put, S.newObj, setL, V.cs, List.length_cons, List.length_nil, List.take_succ_cons, List.take_zero, List.drop_succ_cons, List.drop_zero, List.drop_nil, List.nil_append, List.cons_append, List.append_nil, Nat.zero_add, Nat.reduceAdd, List.map_cons, List.map_nil, List.set_cons_zero, List.set_cons_succ]
       refine AF.seq ?_
       refine AF.region (fun _ h => h) rfl ?_
       refine AL.rp rfl rfl (rp_move rfl rfl) ?_
       (first | (refine AL.rd rfl rfl (rd_slice_que (j := 1) Tryz.underlying33 inf9 rfl rfl rfl (by omega) (by omega)) ?_) | (refine AL.rd rfl rfl (rd_slice_fromD (j := 1) Tryz.underlying33 inf9 rfl rfl rfl (by first | rfl | omega) (by first | assumption | omega) (by assumption)) ?_))
       refine AL.call (post := ?pc64) rfl (sm_callP (args := [_]) (preN_kept) (by assumption) ?hc64 ⟨Tryz.func18, rfl, rfl, rfl, rfl⟩ rfl rfl rfl rfl) ?_
       case hc64 => exact hnu
       rintro _ rfl -
       try dsimp only
       refine AL.rp rfl rfl (rp_assign rfl rfl) ?_
       refine AL.nil ?_
       try simp only [thenS, S.put, S.newObj, setL, V.cs, List.length_cons, List.length_nil, List.take_succ_cons, List.take_zero, List.drop_succ_cons, List.drop_zero, List.drop_nil, List.nil_append, List.cons_append, List.append_nil, Nat.zero_add, Nat.reduceAdd, List.map_cons, List.map_nil, List.set_cons_zero, List.set_cons_succ]
       refine AF.block ?_
       refine AF.seq ?_
       refine AF.region (fun _ h => h) rfl ?_
       refine AL.rp rfl rfl (rp_move rfl rfl) ?_
       (first | (refine AL.rp rfl rfl (rp_index_own (k := 0) Tryz.underlying33 inf9 rfl rfl rfl (by omega) (by omega)) ?_) | (refine AL.rp rfl rfl (rp_index_map (k := 0) Tryz.underlying33 inf9 rfl rfl rfl (by omega) (by assumption)) ?_))
       (first | (refine AL.rd rfl rfl (rd_load_ref Tryz.underlying9 rfl rfl rfl rfl rfl rfl) ?_) | (refine AL.rd rfl rfl (rd_load_ad Tryz.underlying9 rfl rfl rfl rfl) ?_) | (refine AL.rd rfl rfl (rd_load_map Tryz.underlying9 rfl rfl rfl rfl rfl rfl (by assumption)) ?_) | (refine AL.rd rfl rfl (rd_load_fam (m := 0) Tryz.underlying9 rfl rfl rfl rfl rfl rfl (fun _ => rfl) rfl (by assumption)) ?_) | (refine AL.rd rfl rfl (rd_load_fam (m := 1) Tryz.underlying9 rfl rfl rfl rfl rfl rfl (fun _ => rfl) rfl (by assumption)) ?_) | (refine AL.rd rfl rfl (rd_load_fpre (m := 1) Tryz.underlying9 rfl rfl rfl rfl rfl rfl (fun _ => rfl) rfl (by assumption) rfl) ?_) | (refine AL.rd rfl rfl (rd_load_flat Tryz.underlying9 rfl rfl rfl rfl rfl rfl (fun _ => rfl) (by assumption) rfl) ?_))
       (first | (refine AL.rp rfl rfl (rp_eqlsT rfl rfl rfl (by assumption)) ?_) | (refine AL.rp rfl rfl (rp_eqlsF rfl rfl rfl (by assumption)) ?_) | (refine AL.rp rfl rfl (rp_eqls rfl rfl rfl) ?_))
       refine AL.rp rfl rfl (rp_move rfl rfl) ?_
       (first | (refine AL.noV rfl rfl rfl rfl ?_) | (refine AL.noU rfl ⟨_, rfl, rfl⟩ rfl ?_) | (refine AL.rpy rfl rfl rfl (rp_move rfl rfl) ?_))
       (first | (refine AL.noV rfl rfl rfl rfl ?_) | (refine AL.noU rfl ⟨_, rfl, rfl⟩ rfl ?_) | (refine AL.rpy rfl rfl rfl (rp_len_map Tryz.underlying51 rfl rfl (by assumption)) ?_) | (refine AL.rpy rfl rfl rfl (rp_len_own Tryz.underlying51 rfl rfl) ?_) | (refine AL.rpy rfl rfl rfl (rp_len_sl Tryz.underlying51 rfl rfl) ?_) | (refine AL.rpy rfl rfl rfl (rp_len_nil Tryz.underlying51 rfl rfl) ?_) | (refine AL.rpy rfl rfl rfl (rp_len_str Tryz.underlying51 rfl rfl) ?_))
       (first | (refine AL.noV rfl rfl rfl rfl ?_) | (refine AL.noU rfl ⟨_, rfl, rfl⟩ rfl ?_) | (refine AL.rpy rfl rfl rfl (rp_eqlT rfl rfl rfl (by first | assumption | omega | (dsimp only; omega))) ?_) | (refine AL.rpy rfl rfl rfl (rp_eqlF rfl rfl rfl (by first | assumption | omega | (dsimp only; omega))) ?_) | (refine AL.rpy rfl rfl rfl (rp_eql rfl rfl rfl) ?_))
       refine AL.rp rfl rfl (rp_pick rfl rfl rfl) ?_
       refine AL.rp rfl rfl (rp_assign rfl rfl) ?_
       refine AL.nil ?_
       try simp only [thenS, S.put, List.nil_append, List.cons_append]
       refine AF.condF rfl ?_
       refine AF.seq ?_
       refine AF.region (fun _ h => h) rfl ?_
       refine AL.rp rfl rfl (rp_move rfl rfl) ?_
       (first | (refine AL.rp rfl rfl (rp_index_own (k := 0) Tryz.underlying33 inf9 rfl rfl rfl (by omega) (by omega)) ?_) | (refine AL.rp rfl rfl (rp_index_map (k := 0) Tryz.underlying33 inf9 rfl rfl rfl (by omega) (by assumption)) ?_))
       (first | (refine AL.rd rfl rfl (rd_load_ref Tryz.underlying9 rfl rfl rfl rfl rfl rfl) ?_) | (refine AL.rd rfl rfl (rd_load_ad Tryz.underlying9 rfl rfl rfl rfl) ?_) | (refine AL.rd rfl rfl (rd_load_map Tryz.underlying9 rfl rfl rfl rfl rfl rfl (by assumption)) ?_) | (refine AL.rd rfl rfl (rd_load_fam (m := 0) Tryz.underlying9 rfl rfl rfl rfl rfl rfl (fun _ => rfl) rfl (by assumption)) ?_) | (refine AL.rd rfl rfl (rd_load_fam (m := 1) Tryz.underlying9 rfl rfl rfl rfl rfl rfl (fun _ => rfl) rfl (by assumption)) ?_) | (refine AL.rd rfl rfl (rd_load_fpre (m := 1) Tryz.underlying9 rfl rfl rfl rfl rfl rfl (fun _ => rfl) rfl (by assumption) rfl) ?_) | (refine AL.rd rfl rfl (rd_load_flat Tryz.underlying9 rfl rfl rfl rfl rfl rfl (fun _ => rfl) (by assumption) rfl) ?_))
       (first | (refine AL.rp rfl rfl (rp_eqlsT rfl rfl rfl (by assumption)) ?_) | (refine AL.rp rfl rfl (rp_eqlsF rfl rfl rfl (by assumption)) ?_) | (refine AL.rp rfl rfl (rp_eqls rfl rfl rfl) ?_))
       refine AL.rp rfl rfl (rp_move rfl rfl) ?_
       (first | (refine AL.noV rfl rfl rfl rfl ?_) | (refine AL.noU rfl ⟨_, rfl, rfl⟩ rfl ?_) | (refine AL.rpy rfl rfl rfl (rp_move rfl rfl) ?_))
       (first | (refine AL.noV rfl rfl rfl rfl ?_) | (refine AL.noU rfl ⟨_, rfl, rfl⟩ rfl ?_) | (refine AL.rpy rfl rfl rfl (rp_len_map Tryz.underlying51 rfl rfl (by assumption)) ?_) | (refine AL.rpy rfl rfl rfl (rp_len_own Tryz.underlying51 rfl rfl) ?_) | (refine AL.rpy rfl rfl rfl (rp_len_sl Tryz.underlying51 rfl rfl) ?_) | (refine AL.rpy rfl rfl rfl (rp_len_nil Tryz.underlying51 rfl rfl) ?_) | (refine AL.rpy rfl rfl rfl (rp_len_str Tryz.underlying51 rfl rfl) ?_))
       (first | (refine AL.noV rfl rfl rfl rfl ?_) | (refine AL.noU rfl ⟨_, rfl, rfl⟩ rfl ?_) | (refine AL.rpy rfl rfl rfl (rp_eqlT rfl rfl rfl (by first | assumption | omega | (dsimp only; omega))) ?_) | (refine AL.rpy rfl rfl rfl (rp_eqlF rfl rfl rfl (by first | assumption | omega | (dsimp only; omega))) ?_) | (refine AL.rpy rfl rfl rfl (rp_eql rfl rfl rfl) ?_))
       refine AL.rp rfl rfl (rp_pick rfl rfl rfl) ?_
       refine AL.rp rfl rfl (rp_assign rfl rfl) ?_
       refine AL.nil ?_
       try simp only [thenS, S.put, List.nil_append, List.cons_append]
       refine AF.condF rfl ?_
       refine AF.seq ?_
       refine AF.region (fun _ h => h) rfl ?_
       refine AL.rp rfl rfl (rp_move rfl rfl) ?_
       (first | (refine AL.rp rfl rfl (rp_index_own (k := 0) Tryz.underlying33 inf9 rfl rfl rfl (by omega) (by omega)) ?_) | (refine AL.rp rfl rfl (rp_index_map (k := 0) Tryz.underlying33 inf9 rfl rfl rfl (by omega) (by assumption)) ?_))
       (first | (refine AL.rd rfl rfl (rd_load_ref Tryz.underlying9 rfl rfl rfl rfl rfl rfl) ?_) | (refine AL.rd rfl rfl (rd_load_ad Tryz.underlying9 rfl rfl rfl rfl) ?_) | (refine AL.rd rfl rfl (rd_load_map Tryz.underlying9 rfl rfl rfl rfl rfl rfl (by assumption)) ?_) | (refine AL.rd rfl rfl (rd_load_fam (m := 0) Tryz.underlying9 rfl rfl rfl rfl rfl rfl (fun _ => rfl) rfl (by assumption)) ?_) | (refine AL.rd rfl rfl (rd_load_fam (m := 1) Tryz.underlying9 rfl rfl rfl rfl rfl rfl (fun _ => rfl) rfl (by assumption)) ?_) | (refine AL.rd rfl rfl (rd_load_fpre (m := 1) Tryz.underlying9 rfl rfl rfl rfl rfl rfl (fun _ => rfl) rfl (by assumption) rfl) ?_) | (refine AL.rd rfl rfl (rd_load_flat Tryz.underlying9 rfl rfl rfl rfl rfl rfl (fun _ => rfl) (by assumption) rfl) ?_))
       (first | (refine AL.rp rfl rfl (rp_eqlsT rfl rfl rfl (by assumption)) ?_) | (refine AL.rp rfl rfl (rp_eqlsF rfl rfl rfl (by assumption)) ?_) | (refine AL.rp rfl rfl (rp_eqls rfl rfl rfl) ?_))
       refine AL.rp rfl rfl (rp_move rfl rfl) ?_
       (first | (refine AL.noV rfl rfl rfl rfl ?_) | (refine AL.noU rfl ⟨_, rfl, rfl⟩ rfl ?_) | (refine AL.rpy rfl rfl rfl (rp_move rfl rfl) ?_))
       (first | (refine AL.noV rfl rfl rfl rfl ?_) | (refine AL.noU rfl ⟨_, rfl, rfl⟩ rfl ?_) | (refine AL.rpy rfl rfl rfl (rp_len_map Tryz.underlying51 rfl rfl (by assumption)) ?_) | (refine AL.rpy rfl rfl rfl (rp_len_own Tryz.underlying51 rfl rfl) ?_) | (refine AL.rpy rfl rfl rfl (rp_len_sl Tryz.underlying51 rfl rfl) ?_) | (refine AL.rpy rfl rfl rfl (rp_len_nil Tryz.underlying51 rfl rfl) ?_) | (refine AL.rpy rfl rfl rfl (rp_len_str Tryz.underlying51 rfl rfl) ?_))
       (first | (refine AL.noV rfl rfl rfl rfl ?_) | (refine AL.noU rfl ⟨_, rfl, rfl⟩ rfl ?_) | (refine AL.rpy rfl rfl rfl (rp_eqlT rfl rfl rfl (by first | assumption | omega | (dsimp only; omega))) ?_) | (refine AL.rpy rfl rfl rfl (rp_eqlF rfl rfl rfl (by first | assumption | omega | (dsimp only; omega))) ?_) | (refine AL.rpy rfl rfl rfl (rp_eql rfl rfl rfl) ?_))
       refine AL.rp rfl rfl (rp_pick rfl rfl rfl) ?_
       refine AL.rp rfl rfl (rp_move rfl rfl) ?_
       (first | (refine AL.noV rfl rfl rfl rfl ?_) | (refine AL.noU rfl ⟨_, rfl, rfl⟩ rfl ?_) | (refine AL.rpy rfl rfl rfl (rp_field_ref Tryz.underlying24 rfl rfl rfl inf22 (by decide) rfl) ?_) | (refine AL.rpy rfl rfl rfl (rp_field_ad Tryz.underlying24 rfl rfl rfl inf22 (by decide) rfl) ?_))
       (first | (refine AL.noV rfl rfl rfl rfl ?_) | (refine AL.noU rfl ⟨_, rfl, rfl⟩ rfl ?_) | (refine AL.rdy rfl rfl rfl (rd_load_ref Tryz.underlying22 rfl rfl rfl rfl rfl rfl) ?_) | (refine AL.rdy rfl rfl rfl (rd_load_ad Tryz.underlying22 rfl rfl rfl rfl) ?_) | (refine AL.rdy rfl rfl rfl (rd_load_map Tryz.underlying22 rfl rfl rfl rfl rfl rfl (by assumption)) ?_) | (refine AL.rdy rfl rfl rfl (rd_load_fam (m := 0) Tryz.underlying22 rfl rfl rfl rfl rfl rfl (fun _ => rfl) rfl (by assumption)) ?_) | (refine AL.rdy rfl rfl rfl (rd_load_fam (m := 1) Tryz.underlying22 rfl rfl rfl rfl rfl rfl (fun _ => rfl) rfl (by assumption)) ?_) | (refine AL.rdy rfl rfl rfl (rd_load_fpre (m := 1) Tryz.underlying22 rfl rfl rfl rfl rfl rfl (fun _ => rfl) rfl (by assumption) rfl) ?_) | (refine AL.rdy rfl rfl rfl (rd_load_flat Tryz.underlying22 rfl rfl rfl rfl rfl rfl (fun _ => rfl) (by assumption) rfl) ?_))
       (first | (refine AL.noV rfl rfl rfl rfl ?_) | (refine AL.noU rfl ⟨_, rfl, rfl⟩ rfl ?_) | (refine AL.rpy rfl rfl rfl (rp_len_map Tryz.underlying22 rfl rfl (by assumption)) ?_) | (refine AL.rpy rfl rfl rfl (rp_len_own Tryz.underlying22 rfl rfl) ?_) | (refine AL.rpy rfl rfl rfl (rp_len_sl Tryz.underlying22 rfl rfl) ?_) | (refine AL.rpy rfl rfl rfl (rp_len_nil Tryz.underlying22 rfl rfl) ?_) | (refine AL.rpy rfl rfl rfl (rp_len_str Tryz.underlying22 rfl rfl) ?_))
       (first | (refine AL.noV rfl rfl rfl rfl ?_) | (refine AL.noU rfl ⟨_, rfl, rfl⟩ rfl ?_) | (refine AL.rpy rfl rfl rfl (rp_gtrT rfl rfl rfl (by first | assumption | omega | (dsimp only; omega))) ?_) | (refine AL.rpy rfl rfl rfl (rp_gtrF rfl rfl rfl (by first | assumption | omega | (dsimp only; omega))) ?_) | (refine AL.rpy rfl rfl rfl (rp_gtr rfl rfl rfl) ?_))
       refine AL.rp rfl rfl (rp_pick rfl rfl rfl) ?_
       refine AL.rp rfl rfl (rp_assign rfl rfl) ?_
       refine AL.nil ?_
       try simp only [thenS, S.put, List.nil_append, List.cons_append]
       refine AF.condT rfl ?_
       refine AF.seq ?_
       refine AF.region (fun _ h => h) rfl ?_
       (first | (refine AL.rp rfl rfl (rp_field_ref Tryz.underlying24 rfl rfl rfl inf22 (by decide) rfl) ?_) | (refine AL.rp rfl rfl (rp_field_ad Tryz.underlying24 rfl rfl rfl inf22 (by decide) rfl) ?_))
       (first | (refine AL.rd rfl rfl (rd_load_ref Tryz.underlying22 rfl rfl rfl rfl rfl rfl) ?_) | (refine AL.rd rfl rfl (rd_load_ad Tryz.underlying22 rfl rfl rfl rfl) ?_) | (refine AL.rd rfl rfl (rd_load_map Tryz.underlying22 rfl rfl rfl rfl rfl rfl (by assumption)) ?_) | (refine AL.rd rfl rfl (rd_load_fam (m := 0) Tryz.underlying22 rfl rfl rfl rfl rfl rfl (fun _ => rfl) rfl (by assumption)) ?_) | (refine AL.rd rfl rfl (rd_load_fam (m := 1) Tryz.underlying22 rfl rfl rfl rfl rfl rfl (fun _ => rfl) rfl (by assumption)) ?_) | (refine AL.rd rfl rfl (rd_load_fpre (m := 1) Tryz.underlying22 rfl rfl rfl rfl rfl rfl (fun _ => rfl) rfl (by assumption) rfl) ?_) | (refine AL.rd rfl rfl (rd_load_flat Tryz.underlying22 rfl rfl rfl rfl rfl rfl (fun _ => rfl) (by assumption) rfl) ?_))
       (first | (refine AL.rp rfl rfl (rp_field_ref Tryz.underlying24 rfl rfl rfl inf22 (by decide) rfl) ?_) | (refine AL.rp rfl rfl (rp_field_ad Tryz.underlying24 rfl rfl rfl inf22 (by decide) rfl) ?_))
       (first | (refine AL.rd rfl rfl (rd_load_ref Tryz.underlying22 rfl rfl rfl rfl rfl rfl) ?_) | (refine AL.rd rfl rfl (rd_load_ad Tryz.underlying22 rfl rfl rfl rfl) ?_) | (refine AL.rd rfl rfl (rd_load_map Tryz.underlying22 rfl rfl rfl rfl rfl rfl (by assumption)) ?_) | (refine AL.rd rfl rfl (rd_load_fam (m := 0) Tryz.underlying22 rfl rfl rfl rfl rfl rfl (fun _ => rfl) rfl (by assumption)) ?_) | (refine AL.rd rfl rfl (rd_load_fam (m := 1) Tryz.underlying22 rfl rfl rfl rfl rfl rfl (fun _ => rfl) rfl (by assumption)) ?_) | (refine AL.rd rfl rfl (rd_load_fpre (m := 1) Tryz.underlying22 rfl rfl rfl rfl rfl rfl (fun _ => rfl) rfl (by assumption) rfl) ?_) | (refine AL.rd rfl rfl (rd_load_flat Tryz.underlying22 rfl rfl rfl rfl rfl rfl (fun _ => rfl) (by assumption) rfl) ?_))
       (first | (refine AL.rp rfl rfl (rp_len_map Tryz.underlying22 rfl rfl (by assumption)) ?_) | (refine AL.rp rfl rfl (rp_len_own Tryz.underlying22 rfl rfl) ?_) | (refine AL.rp rfl rfl (rp_len_sl Tryz.underlying22 rfl rfl) ?_) | (refine AL.rp rfl rfl (rp_len_nil Tryz.underlying22 rfl rfl) ?_) | (refine AL.rp rfl rfl (rp_len_str Tryz.underlying22 rfl rfl) ?_))
       refine AL.rp rfl rfl (rp_sub rfl rfl rfl (by first | omega | (dsimp only; omega))) ?_
       (first | (refine AL.rp rfl rfl (rp_index_own (k := p) Tryz.underlying22 inf42 rfl rfl rfl (by omega) (by omega)) ?_) | (refine AL.rp rfl rfl (rp_index_map (k := p) Tryz.underlying22 inf42 rfl rfl rfl (by omega) (by assumption)) ?_))
       refine AL.rp rfl rfl (rp_assign rfl rfl) ?_
       refine AL.nil ?_
       try simp only [thenS, S.put, List.nil_append, List.cons_append]
       refine AF.drawX (1000 + p) [(0, true), (1, true), (2, true), (3, true), (4, true), (5, true), (6, true), (7, true), (8, true), (9, true), (10, true), (11, true), (12, true), (13, true), (14, true), (15, true), (16, true), (17, true), (18, false), (19, false), (20, false), (21, false), (22, false)] (fun i => !([20, 21, 22] : List Nat).contains i) 23 (by kernel_rfl) (by kernel_rfl) rfl (by kernel_rfl) ?_
       refine AE1.rp rfl rfl rfl (fun _ _ h => h) (rp_move rfl rfl) ?_
       refine AE1.rp rfl rfl rfl (fun _ _ h => h) (rp_move rfl rfl) ?_
       (first | (refine AE1.rp rfl rfl rfl (fun _ _ h => h) (rp_nilCheck rfl rfl) ?_) | (refine AE1.rp rfl rfl rfl (fun _ _ h => h) (rp_nilCheck_ad rfl rfl) ?_))
       (first | (refine AE1.rp rfl rfl rfl (fun _ _ h => h) (rp_field_ref Tryz.underlying42 rfl rfl rfl inf40 (by decide) rfl) ?_) | (refine AE1.rp rfl rfl rfl (fun _ _ h => h) (rp_field_ad Tryz.underlying42 rfl rfl rfl inf40 (by decide) rfl) ?_))
       (first | (refine AE1.rx rfl rfl rfl (fun _ _ h => h) (rx_load_ref Tryz.underlying40 rfl rfl rfl rfl rfl rfl (by first | decide | omega)) ?_) | (refine AE1.rx rfl rfl rfl (fun _ _ h => h) (rx_load_ad Tryz.underlying40 rfl rfl rfl rfl) ?_) | (refine AE1.rx rfl rfl rfl (fun _ _ h => h) (rx_load_fam (m := 0) Tryz.underlying40 rfl rfl rfl rfl rfl rfl (fun _ => rfl) rfl (by assumption) (by first | decide | omega)) ?_) | (refine AE1.rx rfl rfl rfl (fun _ _ h => h) (rx_load_fam (m := 1) Tryz.underlying40 rfl rfl rfl rfl rfl rfl (fun _ => rfl) rfl (by assumption) (by first | decide | omega)) ?_))
       refine AE1.rp rfl rfl rfl (fun _ _ h => h) (rp_move rfl rfl) ?_
       (first | (refine AE1.rp rfl rfl rfl (fun _ _ h => h) (rp_index_own (k := 0) Tryz.underlying51 inf3 rfl rfl rfl (by omega) (by omega)) ?_) | (refine AE1.rp rfl rfl rfl (fun _ _ h => h) (rp_index_map (k := 0) Tryz.underlying51 inf3 rfl rfl rfl (by omega) (by assumption)) ?_))
       (first | (refine AE1.rx rfl rfl rfl (fun _ _ h => h) (rx_load_ref Tryz.underlying3 rfl rfl rfl rfl rfl rfl (by first | decide | omega)) ?_) | (refine AE1.rx rfl rfl rfl (fun _ _ h => h) (rx_load_ad Tryz.underlying3 rfl rfl rfl rfl) ?_) | (refine AE1.rx rfl rfl rfl (fun _ _ h => h) (rx_load_fam (m := 0) Tryz.underlying3 rfl rfl rfl rfl rfl rfl (fun _ => rfl) rfl (by assumption) (by first | decide | omega)) ?_) | (refine AE1.rx rfl rfl rfl (fun _ _ h => h) (rx_load_fam (m := 1) Tryz.underlying3 rfl rfl rfl rfl rfl rfl (fun _ => rfl) rfl (by assumption) (by first | decide | omega)) ?_))
       refine AE1.rp rfl rfl rfl (fun _ _ h => h) (rp_move rfl rfl) ?_
       (first | (refine AE1.rp rfl rfl rfl (fun _ _ h => h) (rp_index_own (k := 1) Tryz.underlying51 inf3 rfl rfl rfl (by omega) (by omega)) ?_) | (refine AE1.rp rfl rfl rfl (fun _ _ h => h) (rp_index_map (k := 1) Tryz.underlying51 inf3 rfl rfl rfl (by omega) (by assumption)) ?_))
       (first | (refine AE1.rx rfl rfl rfl (fun _ _ h => h) (rx_load_ref Tryz.underlying3 rfl rfl rfl rfl rfl rfl (by first | decide | omega)) ?_) | (refine AE1.rx rfl rfl rfl (fun _ _ h => h) (rx_load_ad Tryz.underlying3 rfl rfl rfl rfl) ?_) | (refine AE1.rx rfl rfl rfl (fun _ _ h => h) (rx_load_fam (m := 0) Tryz.underlying3 rfl rfl rfl rfl rfl rfl (fun _ => rfl) rfl (by assumption) (by first | decide | omega)) ?_) | (refine AE1.rx rfl rfl rfl (fun _ _ h => h) (rx_load_fam (m := 1) Tryz.underlying3 rfl rfl rfl rfl rfl rfl (fun _ => rfl) rfl (by assumption) (by first | decide | omega)) ?_))
       refine AE1.rp rfl rfl rfl (fun _ _ h => h) (rp_move rfl rfl) ?_
       (first | (refine AE1.rp rfl rfl rfl (fun _ _ h => h) (rp_index_own (k := 2) Tryz.underlying51 inf3 rfl rfl rfl (by omega) (by omega)) ?_) | (refine AE1.rp rfl rfl rfl (fun _ _ h => h) (rp_index_map (k := 2) Tryz.underlying51 inf3 rfl rfl rfl (by omega) (by assumption)) ?_))
       (first | (refine AE1.rx rfl rfl rfl (fun _ _ h => h) (rx_load_ref Tryz.underlying3 rfl rfl rfl rfl rfl rfl (by first | decide | omega)) ?_) | (refine AE1.rx rfl rfl rfl (fun _ _ h => h) (rx_load_ad Tryz.underlying3 rfl rfl rfl rfl) ?_) | (refine AE1.rx rfl rfl rfl (fun _ _ h => h) (rx_load_fam (m := 0) Tryz.underlying3 rfl rfl rfl rfl rfl rfl (fun _ => rfl) rfl (by assumption) (by first | decide | omega)) ?_) | (refine AE1.rx rfl rfl rfl (fun _ _ h => h) (rx_load_fam (m := 1) Tryz.underlying3 rfl rfl rfl rfl rfl rfl (fun _ => rfl) rfl (by assumption) (by first | decide | omega)) ?_))
       refine AE1.rp rfl rfl rfl (fun _ _ h => h) (rp_move rfl rfl) ?_
       (first | (refine AE1.rp rfl rfl rfl (fun _ _ h => h) (rp_index_own (k := 3) Tryz.underlying51 inf3 rfl rfl rfl (by omega) (by omega)) ?_) | (refine AE1.rp rfl rfl rfl (fun _ _ h => h) (rp_index_map (k := 3) Tryz.underlying51 inf3 rfl rfl rfl (by omega) (by assumption)) ?_))
       (first | (refine AE1.rx rfl rfl rfl (fun _ _ h => h) (rx_load_ref Tryz.underlying3 rfl rfl rfl rfl rfl rfl (by first | decide | omega)) ?_) | (refine AE1.rx rfl rfl rfl (fun _ _ h => h) (rx_load_ad Tryz.underlying3 rfl rfl rfl rfl) ?_) | (refine AE1.rx rfl rfl rfl (fun _ _ h => h) (rx_load_fam (m := 0) Tryz.underlying3 rfl rfl rfl rfl rfl rfl (fun _ => rfl) rfl (by assumption) (by first | decide | omega)) ?_) | (refine AE1.rx rfl rfl rfl (fun _ _ h => h) (rx_load_fam (m := 1) Tryz.underlying3 rfl rfl rfl rfl rfl rfl (fun _ => rfl) rfl (by assumption) (by first | decide | omega)) ?_))
       refine AE1.rp rfl rfl rfl (fun _ _ h => h) (rp_build (vs := [(3, _), (0, _), (1, _), (2, _)]) (zs := [.d (.p (.int .i64 0)), .d (.p (.int .i64 0)), .d (.p (.int .i64 0)), .d (.p (.int .i64 0))]) pl44 inf44 rfl rfl rfl rfl) ?_
       refine AE1.go ?_
       refine AE2.sm rfl rfl (sm_sliceG (vs := [(0, _)]) (zs := [.d (.p (.int .i64 0)), .d (.p (.int .i64 0)), .d (.p (.int .i64 0)), .d (.p (.int .i64 0))]) 99 Tryz.underlying40 inf44 rfl rfl (by decide) (by decide) (by decide) rfl rfl rfl rfl (by first | rfl | (simp only [S.clean, S.put, S.newObj, List.all_cons, objs_clean_low, Nat.reduceLT]; simp [S.forget, V.has, V.hasL, junkIf, setL, V.cs, hasL_i, hasL_b, hasL_s, hasL_n, hasL_rep, hasL_flat, hasL_append, cells_hasL_low, has_ownV, hasL_frep, nb1, nb2, nb3, nb4, -List.map_set]; try omega)) (by first | rfl | (simp only [S.clean, S.put, S.newObj, List.all_cons, objs_clean_low, Nat.reduceLT]; simp [S.forget, V.has, V.hasL, junkIf, setL, V.cs, hasL_i, hasL_b, hasL_s, hasL_n, hasL_rep, hasL_flat, hasL_append, cells_hasL_low, has_ownV, hasL_frep, nb1, nb2, nb3, nb4, -List.map_set]; try omega)) rfl) (by first | decide | omega) ?_
       (first | (refine AE2.st rfl rfl (st_append_famX (lits := [_, _, _, _, _]) (x' := ⟨xf, xs ++ [⟨v2, v3, v4, v1⟩]⟩) (m := 1) (newrow := arD ⟨v2, v3, v4, v1⟩) (rb := 901) Tryz.underlying40 inf44 rfl (by decide) (by decide) rfl rfl rfl (by assumption) (fun _ => rfl) (by intro x l hl; simp [FS] at hl; first | (obtain ⟨_, _, rfl⟩ := hl; rfl) | (obtain ⟨_, _, _, rfl⟩ := hl; rfl) | (rcases hl with ⟨_, _, rfl⟩ <;> rfl)) rfl rfl rfl rfl rfl rfl rfl rfl (by simp [FS]) rfl rfl (by simp [V.hasL, V.has, nb1, nb2, nb3, nb4, setL, V.cs, hasL_i, hasL_b, hasL_s, hasL_n, hasL_rep, hasL_flat, hasL_append, -List.map_set]; try omega) (by first | assumption | (simp [FS]; omega))) ?_))
       try simp only [S.put, S.newObj, List.map_cons, List.map_nil, junkHi, V.low, V.lowL, low_ownV, Nat.reduceLT, decide_true, decide_false, Bool.and_true, Bool.true_and, if_true, if_false, Bool.false_eq_true, ite_true, ite_false, ↓reduceIte, List.cons_append, List.nil_append]
       (first | (refine AD3.rp1 rfl rfl rfl rfl (rp_nilCheck rfl rfl) ?_) | (refine AD3.rp1 rfl rfl rfl rfl (rp_nilCheck_ad rfl rfl) ?_))
       (first | (refine AD3.rp1 rfl rfl rfl rfl (rp_field_ref Tryz.underlying42 rfl rfl rfl inf40 (by decide) rfl) ?_) | (refine AD3.rp1 rfl rfl rfl rfl (rp_field_ad Tryz.underlying42 rfl rfl rfl inf40 (by decide) rfl) ?_))
       (first | (refine AD3.st rfl rfl rfl (st_store_map2 inf40 rfl rfl rfl rfl rfl rfl rfl rfl (by first | assumption | omega)) ?_) | (refine AD3.st rfl rfl rfl (st_store_fam (m := 0) inf40 rfl rfl rfl rfl rfl rfl (fun _ => rfl) rfl rfl (by first | assumption | (simp; omega))) ?_) | (refine AD3.st rfl rfl rfl (st_store_fam (m := 1) inf40 rfl rfl rfl rfl rfl rfl (fun _ => rfl) rfl rfl (by first | assumption | (simp; omega))) ?_) | (refine AD3.st rfl rfl rfl (st_store inf40 rfl rfl rfl rfl rfl rfl rfl (by first | decide | (simp; done)) rfl) ?_))
       refine AD3.nil ?_
       try simp only [thenS, S.put, S.newObj, setL, V.cs, List.length_cons, List.length_nil, List.take_succ_cons, List.take_zero, List.drop_succ_cons, List.drop_zero, List.drop_nil, List.nil_append, List.cons_append, List.append_nil, Nat.zero_add, Nat.reduceAdd, List.map_cons, List.map_nil, List.set_cons_zero, List.set_cons_succ]
       simp only [thenS, inBlockS, QB, QB1]
       refine ⟨⟨104, [], (790, lnRow (ln2 rem)) :: ppH ⟨st, sts.set p ⟨xf, xs ++ [⟨v2, v3, v4, v1⟩]⟩⟩ false, lnLoop lb w0.heap.size r0 .busy none :: ylV lb :: .ref 790 0 :: lnDf db w0.heap.size :: [.ref 2 0, .ref 3 0]⟩, ?_, rfl, rfl, _, rfl, (ppJ_ok hJ).2, hJ⟩
       unfold ppH
       simp only [hsl]
       exact (Less.of rfl (by repeat (first | exact trivial | refine ⟨⟨_, rfl, Wk.refl _⟩, ?_⟩ | refine ⟨⟨_, rfl, Wk.nil _ _⟩, ?_⟩ | refine ⟨⟨_, rfl, Wk.junk _⟩, ?_⟩)) (by repeat (first | exact trivial | refine ⟨rfl, ?_⟩ | exact LH.fam | refine LH.skip (by decide) ?_)) rfl)
      ·rw [if_neg (fun h => hs0 h.2.2)] at hF
       have hJ := same hF
       have hl0 : sts.length = 0 := by omega
       refine AF.block ?_
       refine AF.seq ?_
       refine AF.region (fun _ h => h) rfl ?_
       refine AL.rp rfl rfl (rp_move rfl rfl) ?_
       refine AL.call (post := ?pc65) rfl (sm_call (args := [_, _]) ?hc65 ⟨Tryz.func17, rfl, rfl, rfl, rfl⟩ rfl rfl rfl rfl) ?_
       case hc65 => exact htrim
       rintro _ rfl -
       try dsimp only
       refine AL.call (post := ?pc66) rfl (sm_callP (args := [_, _]) (preN_kept) (by assumption) ?hc66 ⟨Tryz.func16, rfl, rfl, rfl, rfl⟩ rfl rfl rfl rfl) ?_
       case hc66 => exact hsp
       rintro _ rfl -
       try dsimp only
       refine AL.rp rfl rfl (rp_assign rfl rfl) ?_
       refine AL.nil ?_
       try simp only [thenS, S.put, S.newObj, setL, V.cs, List.length_cons, List.length_nil, List.take_succ_cons, List.take_zero, List.drop_succ_cons, List.drop_zero, List.drop_nil, List.nil_append, List.cons_append, List.append_nil, Nat.zero_add, Nat.reduceAdd, List.map_cons, List.map_nil, List.set_cons_zero, List.set_cons_succ]
       refine AF.seq ?_
       refine AF.region (fun _ h => h) rfl ?_
       refine AL.rp rfl rfl (rp_move rfl rfl) ?_
       (first | (refine AL.rd rfl rfl (rd_slice_que (j := 1) Tryz.underlying33 inf9 rfl rfl rfl (by omega) (by omega)) ?_) | (refine AL.rd rfl rfl (rd_slice_fromD (j := 1) Tryz.underlying33 inf9 rfl rfl rfl (by first | rfl | omega) (by first | assumption | omega) (by assumption)) ?_))
       refine AL.call (post := ?pc67) rfl (sm_callP (args := [_]) (preN_kept) (by assumption) ?hc67 ⟨Tryz.func18, rfl, rfl, rfl, rfl⟩ rfl rfl rfl rfl) ?_
       case hc67 => exact hnu
       rintro _ rfl -
       try dsimp only
       refine AL.rp rfl rfl (rp_assign rfl rfl) ?_
       refine AL.nil ?_
       try simp only [thenS, S.put, S.newObj, setL, V.cs, List.length_cons, List.length_nil, List.take_succ_cons, List.take_zero, List.drop_succ_cons, List.drop_zero, List.drop_nil, List.nil_append, List.cons_append, List.append_nil, Nat.zero_add, Nat.reduceAdd, List.map_cons, List.map_nil, List.set_cons_zero, List.set_cons_succ]
       refine AF.block ?_
       refine AF.seq ?_
       refine AF.region (fun _ h => h) rfl ?_
       refine AL.rp rfl rfl (rp_move rfl rfl) ?_
       (first | (refine AL.rp rfl rfl (rp_index_own (k := 0) Tryz.underlying33 inf9 rfl rfl rfl (by omega) (by omega)) ?_) | (refine AL.rp rfl rfl (rp_index_map (k := 0) Tryz.underlying33 inf9 rfl rfl rfl (by omega) (by assumption)) ?_))
       (first | (refine AL.rd rfl rfl (rd_load_ref Tryz.underlying9 rfl rfl rfl rfl rfl rfl) ?_) | (refine AL.rd rfl rfl (rd_load_ad Tryz.underlying9 rfl rfl rfl rfl) ?_) | (refine AL.rd rfl rfl (rd_load_map Tryz.underlying9 rfl rfl rfl rfl rfl rfl (by assumption)) ?_) | (refine AL.rd rfl rfl (rd_load_fam (m := 0) Tryz.underlying9 rfl rfl rfl rfl rfl rfl (fun _ => rfl) rfl (by assumption)) ?_) | (refine AL.rd rfl rfl (rd_load_fam (m := 1) Tryz.underlying9 rfl rfl rfl rfl rfl rfl (fun _ => rfl) rfl (by assumption)) ?_) | (refine AL.rd rfl rfl (rd_load_fpre (m := 1) Tryz.underlying9 rfl rfl rfl rfl rfl rfl (fun _ => rfl) rfl (by assumption) rfl) ?_) | (refine AL.rd rfl rfl (rd_load_flat Tryz.underlying9 rfl rfl rfl rfl rfl rfl (fun _ => rfl) (by assumption) rfl) ?_))
       (first | (refine AL.rp rfl rfl (rp_eqlsT rfl rfl rfl (by assumption)) ?_) | (refine AL.rp rfl rfl (rp_eqlsF rfl rfl rfl (by assumption)) ?_) | (refine AL.rp rfl rfl (rp_eqls rfl rfl rfl) ?_))
       refine AL.rp rfl rfl (rp_move rfl rfl) ?_
       (first | (refine AL.noV rfl rfl rfl rfl ?_) | (refine AL.noU rfl ⟨_, rfl, rfl⟩ rfl ?_) | (refine AL.rpy rfl rfl rfl (rp_move rfl rfl) ?_))
       (first | (refine AL.noV rfl rfl rfl rfl ?_) | (refine AL.noU rfl ⟨_, rfl, rfl⟩ rfl ?_) | (refine AL.rpy rfl rfl rfl (rp_len_map Tryz.underlying51 rfl rfl (by assumption)) ?_) | (refine AL.rpy rfl rfl rfl (rp_len_own Tryz.underlying51 rfl rfl) ?_) | (refine AL.rpy rfl rfl rfl (rp_len_sl Tryz.underlying51 rfl rfl) ?_) | (refine AL.rpy rfl rfl rfl (rp_len_nil Tryz.underlying51 rfl rfl) ?_) | (refine AL.rpy rfl rfl rfl (rp_len_str Tryz.underlying51 rfl rfl) ?_))
       (first | (refine AL.noV rfl rfl rfl rfl ?_) | (refine AL.noU rfl ⟨_, rfl, rfl⟩ rfl ?_) | (refine AL.rpy rfl rfl rfl (rp_eqlT rfl rfl rfl (by first | assumption | omega | (dsimp only; omega))) ?_) | (refine AL.rpy rfl rfl rfl (rp_eqlF rfl rfl rfl (by first | assumption | omega | (dsimp only; omega))) ?_) | (refine AL.rpy rfl rfl rfl (rp_eql rfl rfl rfl) ?_))
       refine AL.rp rfl rfl (rp_pick rfl rfl rfl) ?_
       refine AL.rp rfl rfl (rp_assign rfl rfl) ?_
       refine AL.nil ?_
       try simp only [thenS, S.put, List.nil_append, List.cons_append]
       refine AF.condF rfl ?_
       refine AF.seq ?_
       refine AF.region (fun _ h => h) rfl ?_
       refine AL.rp rfl rfl (rp_move rfl rfl) ?_
       (first | (refine AL.rp rfl rfl (rp_index_own (k := 0) Tryz.underlying33 inf9 rfl rfl rfl (by omega) (by omega)) ?_) | (refine AL.rp rfl rfl (rp_index_map (k := 0) Tryz.underlying33 inf9 rfl rfl rfl (by omega) (by assumption)) ?_))
       (first | (refine AL.rd rfl rfl (rd_load_ref Tryz.underlying9 rfl rfl rfl rfl rfl rfl) ?_) | (refine AL.rd rfl rfl (rd_load_ad Tryz.underlying9 rfl rfl rfl rfl) ?_) | (refine AL.rd rfl rfl (rd_load_map Tryz.underlying9 rfl rfl rfl rfl rfl rfl (by assumption)) ?_) | (refine AL.rd rfl rfl (rd_load_fam (m := 0) Tryz.underlying9 rfl rfl rfl rfl rfl rfl (fun _ => rfl) rfl (by assumption)) ?_) | (refine AL.rd rfl rfl (rd_load_fam (m := 1) Tryz.underlying9 rfl rfl rfl rfl rfl rfl (fun _ => rfl) rfl (by assumption)) ?_) | (refine AL.rd rfl rfl (rd_load_fpre (m := 1) Tryz.underlying9 rfl rfl rfl rfl rfl rfl (fun _ => rfl) rfl (by assumption) rfl) ?_) | (refine AL.rd rfl rfl (rd_load_flat Tryz.underlying9 rfl rfl rfl rfl rfl rfl (fun _ => rfl) (by assumption) rfl) ?_))
       (first | (refine AL.rp rfl rfl (rp_eqlsT rfl rfl rfl (by assumption)) ?_) | (refine AL.rp rfl rfl (rp_eqlsF rfl rfl rfl (by assumption)) ?_) | (refine AL.rp rfl rfl (rp_eqls rfl rfl rfl) ?_))
       refine AL.rp rfl rfl (rp_move rfl rfl) ?_
       (first | (refine AL.noV rfl rfl rfl rfl ?_) | (refine AL.noU rfl ⟨_, rfl, rfl⟩ rfl ?_) | (refine AL.rpy rfl rfl rfl (rp_move rfl rfl) ?_))
       (first | (refine AL.noV rfl rfl rfl rfl ?_) | (refine AL.noU rfl ⟨_, rfl, rfl⟩ rfl ?_) | (refine AL.rpy rfl rfl rfl (rp_len_map Tryz.underlying51 rfl rfl (by assumption)) ?_) | (refine AL.rpy rfl rfl rfl (rp_len_own Tryz.underlying51 rfl rfl) ?_) | (refine AL.rpy rfl rfl rfl (rp_len_sl Tryz.underlying51 rfl rfl) ?_) | (refine AL.rpy rfl rfl rfl (rp_len_nil Tryz.underlying51 rfl rfl) ?_) | (refine AL.rpy rfl rfl rfl (rp_len_str Tryz.underlying51 rfl rfl) ?_))
       (first | (refine AL.noV rfl rfl rfl rfl ?_) | (refine AL.noU rfl ⟨_, rfl, rfl⟩ rfl ?_) | (refine AL.rpy rfl rfl rfl (rp_eqlT rfl rfl rfl (by first | assumption | omega | (dsimp only; omega))) ?_) | (refine AL.rpy rfl rfl rfl (rp_eqlF rfl rfl rfl (by first | assumption | omega | (dsimp only; omega))) ?_) | (refine AL.rpy rfl rfl rfl (rp_eql rfl rfl rfl) ?_))
       refine AL.rp rfl rfl (rp_pick rfl rfl rfl) ?_
       refine AL.rp rfl rfl (rp_assign rfl rfl) ?_
       refine AL.nil ?_
       try simp only [thenS, S.put, List.nil_append, List.cons_append]
       refine AF.condF rfl ?_
       refine AF.seq ?_
       refine AF.region (fun _ h => h) rfl ?_
       refine AL.rp rfl rfl (rp_move rfl rfl) ?_
       (first | (refine AL.rp rfl rfl (rp_index_own (k := 0) Tryz.underlying33 inf9 rfl rfl rfl (by omega) (by omega)) ?_) | (refine AL.rp rfl rfl (rp_index_map (k := 0) Tryz.underlying33 inf9 rfl rfl rfl (by omega) (by assumption)) ?_))
       (first | (refine AL.rd rfl rfl (rd_load_ref Tryz.underlying9 rfl rfl rfl rfl rfl rfl) ?_) | (refine AL.rd rfl rfl (rd_load_ad Tryz.underlying9 rfl rfl rfl rfl) ?_) | (refine AL.rd rfl rfl (rd_load_map Tryz.underlying9 rfl rfl rfl rfl rfl rfl (by assumption)) ?_) | (refine AL.rd rfl rfl (rd_load_fam (m := 0) Tryz.underlying9 rfl rfl rfl rfl rfl rfl (fun _ => rfl) rfl (by assumption)) ?_) | (refine AL.rd rfl rfl (rd_load_fam (m := 1) Tryz.underlying9 rfl rfl rfl rfl rfl rfl (fun _ => rfl) rfl (by assumption)) ?_) | (refine AL.rd rfl rfl (rd_load_fpre (m := 1) Tryz.underlying9 rfl rfl rfl rfl rfl rfl (fun _ => rfl) rfl (by assumption) rfl) ?_) | (refine AL.rd rfl rfl (rd_load_flat Tryz.underlying9 rfl rfl rfl rfl rfl rfl (fun _ => rfl) (by assumption) rfl) ?_))
       (first | (refine AL.rp rfl rfl (rp_eqlsT rfl rfl rfl (by assumption)) ?_) | (refine AL.rp rfl rfl (rp_eqlsF rfl rfl rfl (by assumption)) ?_) | (refine AL.rp rfl rfl (rp_eqls rfl rfl rfl) ?_))
       refine AL.rp rfl rfl (rp_move rfl rfl) ?_
       (first | (refine AL.noV rfl rfl rfl rfl ?_) | (refine AL.noU rfl ⟨_, rfl, rfl⟩ rfl ?_) | (refine AL.rpy rfl rfl rfl (rp_move rfl rfl) ?_))
       (first | (refine AL.noV rfl rfl rfl rfl ?_) | (refine AL.noU rfl ⟨_, rfl, rfl⟩ rfl ?_) | (refine AL.rpy rfl rfl rfl (rp_len_map Tryz.underlying51 rfl rfl (by assumption)) ?_) | (refine AL.rpy rfl rfl rfl (rp_len_own Tryz.underlying51 rfl rfl) ?_) | (refine AL.rpy rfl rfl rfl (rp_len_sl Tryz.underlying51 rfl rfl) ?_) | (refine AL.rpy rfl rfl rfl (rp_len_nil Tryz.underlying51 rfl rfl) ?_) | (refine AL.rpy rfl rfl rfl (rp_len_str Tryz.underlying51 rfl rfl) ?_))
       (first | (refine AL.noV rfl rfl rfl rfl ?_) | (refine AL.noU rfl ⟨_, rfl, rfl⟩ rfl ?_) | (refine AL.rpy rfl rfl rfl (rp_eqlT rfl rfl rfl (by first | assumption | omega | (dsimp only; omega))) ?_) | (refine AL.rpy rfl rfl rfl (rp_eqlF rfl rfl rfl (by first | assumption | omega | (dsimp only; omega))) ?_) | (refine AL.rpy rfl rfl rfl (rp_eql rfl rfl rfl) ?_))
       refine AL.rp rfl rfl (rp_pick rfl rfl rfl) ?_
       refine AL.rp rfl rfl (rp_move rfl rfl) ?_
       (first | (refine AL.noV rfl rfl rfl rfl ?_) | (refine AL.noU rfl ⟨_, rfl, rfl⟩ rfl ?_) | (refine AL.rpy rfl rfl rfl (rp_field_ref Tryz.underlying24 rfl rfl rfl inf22 (by decide) rfl) ?_) | (refine AL.rpy rfl rfl rfl (rp_field_ad Tryz.underlying24 rfl rfl rfl inf22 (by decide) rfl) ?_))
       (first | (refine AL.noV rfl rfl rfl rfl ?_) | (refine AL.noU rfl ⟨_, rfl, rfl⟩ rfl ?_) | (refine AL.rdy rfl rfl rfl (rd_load_ref Tryz.underlying22 rfl rfl rfl rfl rfl rfl) ?_) | (refine AL.rdy rfl rfl rfl (rd_load_ad Tryz.underlying22 rfl rfl rfl rfl) ?_) | (refine AL.rdy rfl rfl rfl (rd_load_map Tryz.underlying22 rfl rfl rfl rfl rfl rfl (by assumption)) ?_) | (refine AL.rdy rfl rfl rfl (rd_load_fam (m := 0) Tryz.underlying22 rfl rfl rfl rfl rfl rfl (fun _ => rfl) rfl (by assumption)) ?_) | (refine AL.rdy rfl rfl rfl (rd_load_fam (m := 1) Tryz.underlying22 rfl rfl rfl rfl rfl rfl (fun _ => rfl) rfl (by assumption)) ?_) | (refine AL.rdy rfl rfl rfl (rd_load_fpre (m := 1) Tryz.underlying22 rfl rfl rfl rfl rfl rfl (fun _ => rfl) rfl (by assumption) rfl) ?_) | (refine AL.rdy rfl rfl rfl (rd_load_flat Tryz.underlying22 rfl rfl rfl rfl rfl rfl (fun _ => rfl) (by assumption) rfl) ?_))
       (first | (refine AL.noV rfl rfl rfl rfl ?_) | (refine AL.noU rfl ⟨_, rfl, rfl⟩ rfl ?_) | (refine AL.rpy rfl rfl rfl (rp_len_map Tryz.underlying22 rfl rfl (by assumption)) ?_) | (refine AL.rpy rfl rfl rfl (rp_len_own Tryz.underlying22 rfl rfl) ?_) | (refine AL.rpy rfl rfl rfl (rp_len_sl Tryz.underlying22 rfl rfl) ?_) | (refine AL.rpy rfl rfl rfl (rp_len_nil Tryz.underlying22 rfl rfl) ?_) | (refine AL.rpy rfl rfl rfl (rp_len_str Tryz.underlying22 rfl rfl) ?_))
       (first | (refine AL.noV rfl rfl rfl rfl ?_) | (refine AL.noU rfl ⟨_, rfl, rfl⟩ rfl ?_) | (refine AL.rpy rfl rfl rfl (rp_gtrT rfl rfl rfl (by first | assumption | omega | (dsimp only; omega))) ?_) | (refine AL.rpy rfl rfl rfl (rp_gtrF rfl rfl rfl (by first | assumption | omega | (dsimp only; omega))) ?_) | (refine AL.rpy rfl rfl rfl (rp_gtr rfl rfl rfl) ?_))
       refine AL.rp rfl rfl (rp_pick rfl rfl rfl) ?_
       refine AL.rp rfl rfl (rp_assign rfl rfl) ?_
       refine AL.nil ?_
       try simp only [thenS, S.put, List.nil_append, List.cons_append]
       refine AF.condF rfl ?_
       refine AF.skip ?_
       try simp only [thenS, List.nil_append, List.cons_append]
       simp only [thenS, inBlockS, QB, QB1]
       refine ⟨⟨104, [], (790, lnRow (ln2 rem)) :: ppH ⟨st, sts⟩ z, lnLoop lb w0.heap.size r0 .busy none :: ylV lb :: .ref 790 0 :: lnDf db w0.heap.size :: [.ref 2 0, .ref 3 0]⟩, ?_, rfl, rfl, _, rfl, (ppJ_ok hJ).2, hJ⟩
       unfold ppH
       exact (Less.of rfl (by repeat (first | exact trivial | refine ⟨⟨_, rfl, Wk.refl _⟩, ?_⟩ | refine ⟨⟨_, rfl, Wk.nil _ _⟩, ?_⟩ | refine ⟨⟨_, rfl, Wk.junk _⟩, ?_⟩)) (by repeat (first | exact trivial | refine ⟨rfl, ?_⟩ | exact LH.fam | refine LH.skip (by decide) ?_)) rfl)
     ·rw [if_neg (by rintro ⟨_, h, _⟩; omega)] at hF
      have hJ := same hF
      refine AF.block ?_
      refine AF.seq ?_
      refine AF.region (fun _ h => h) rfl ?_
      refine AL.rp rfl rfl (rp_move rfl rfl) ?_
      refine AL.call (post := ?pc68) rfl (sm_call (args := [_, _]) ?hc68 ⟨Tryz.func17, rfl, rfl, rfl, rfl⟩ rfl rfl rfl rfl) ?_
      case hc68 => exact htrim
      rintro _ rfl -
      try dsimp only
      refine AL.call (post := ?pc69) rfl (sm_callP (args := [_, _]) (preN_kept) (by assumption) ?hc69 ⟨Tryz.func16, rfl, rfl, rfl, rfl⟩ rfl rfl rfl rfl) ?_
      case hc69 => exact hsp
      rintro _ rfl -
      try dsimp only
      refine AL.rp rfl rfl (rp_assign rfl rfl) ?_
      refine AL.nil ?_
      try simp only [thenS, S.put, S.newObj, setL, V.cs, List.length_cons, List.length_nil, List.take_succ_cons, List.take_zero, List.drop_succ_cons, List.drop_zero, List.drop_nil, List.nil_append, List.cons_append, List.append_nil, Nat.zero_add, Nat.reduceAdd, List.map_cons, List.map_nil, List.set_cons_zero, List.set_cons_succ]
      refine AF.seq ?_
      refine AF.region (fun _ h => h) rfl ?_
      refine AL.rp rfl rfl (rp_move rfl rfl) ?_
      (first | (refine AL.rd rfl rfl (rd_slice_que (j := 1) Tryz.underlying33 inf9 rfl rfl rfl (by omega) (by omega)) ?_) | (refine AL.rd rfl rfl (rd_slice_fromD (j := 1) Tryz.underlying33 inf9 rfl rfl rfl (by first | rfl | omega) (by first | assumption | omega) (by assumption)) ?_))
      refine AL.call (post := ?pc70) rfl (sm_callP (args := [_]) (preN_kept) (by assumption) ?hc70 ⟨Tryz.func18, rfl, rfl, rfl, rfl⟩ rfl rfl rfl rfl) ?_
      case hc70 => exact hnu
      rintro _ rfl -
      try dsimp only
      refine AL.rp rfl rfl (rp_assign rfl rfl) ?_
      refine AL.nil ?_
      try simp only [thenS, S.put, S.newObj, setL, V.cs, List.length_cons, List.length_nil, List.take_succ_cons, List.take_zero, List.drop_succ_cons, List.drop_zero, List.drop_nil, List.nil_append, List.cons_append, List.append_nil, Nat.zero_add, Nat.reduceAdd, List.map_cons, List.map_nil, List.set_cons_zero, List.set_cons_succ]
      refine AF.block ?_
      refine AF.seq ?_
      refine AF.region (fun _ h => h) rfl ?_
      refine AL.rp rfl rfl (rp_move rfl rfl) ?_
      (first | (refine AL.rp rfl rfl (rp_index_own (k := 0) Tryz.underlying33 inf9 rfl rfl rfl (by omega) (by omega)) ?_) | (refine AL.rp rfl rfl (rp_index_map (k := 0) Tryz.underlying33 inf9 rfl rfl rfl (by omega) (by assumption)) ?_))
      (first | (refine AL.rd rfl rfl (rd_load_ref Tryz.underlying9 rfl rfl rfl rfl rfl rfl) ?_) | (refine AL.rd rfl rfl (rd_load_ad Tryz.underlying9 rfl rfl rfl rfl) ?_) | (refine AL.rd rfl rfl (rd_load_map Tryz.underlying9 rfl rfl rfl rfl rfl rfl (by assumption)) ?_) | (refine AL.rd rfl rfl (rd_load_fam (m := 0) Tryz.underlying9 rfl rfl rfl rfl rfl rfl (fun _ => rfl) rfl (by assumption)) ?_) | (refine AL.rd rfl rfl (rd_load_fam (m := 1) Tryz.underlying9 rfl rfl rfl rfl rfl rfl (fun _ => rfl) rfl (by assumption)) ?_) | (refine AL.rd rfl rfl (rd_load_fpre (m := 1) Tryz.underlying9 rfl rfl rfl rfl rfl rfl (fun _ => rfl) rfl (by assumption) rfl) ?_) | (refine AL.rd rfl rfl (rd_load_flat Tryz.underlying9 rfl rfl rfl rfl rfl rfl (fun _ => rfl) (by assumption) rfl) ?_))
      (first | (refine AL.rp rfl rfl (rp_eqlsT rfl rfl rfl (by assumption)) ?_) | (refine AL.rp rfl rfl (rp_eqlsF rfl rfl rfl (by assumption)) ?_) | (refine AL.rp rfl rfl (rp_eqls rfl rfl rfl) ?_))
      refine AL.rp rfl rfl (rp_move rfl rfl) ?_
      (first | (refine AL.noV rfl rfl rfl rfl ?_) | (refine AL.noU rfl ⟨_, rfl, rfl⟩ rfl ?_) | (refine AL.rpy rfl rfl rfl (rp_move rfl rfl) ?_))
      (first | (refine AL.noV rfl rfl rfl rfl ?_) | (refine AL.noU rfl ⟨_, rfl, rfl⟩ rfl ?_) | (refine AL.rpy rfl rfl rfl (rp_len_map Tryz.underlying51 rfl rfl (by assumption)) ?_) | (refine AL.rpy rfl rfl rfl (rp_len_own Tryz.underlying51 rfl rfl) ?_) | (refine AL.rpy rfl rfl rfl (rp_len_sl Tryz.underlying51 rfl rfl) ?_) | (refine AL.rpy rfl rfl rfl (rp_len_nil Tryz.underlying51 rfl rfl) ?_) | (refine AL.rpy rfl rfl rfl (rp_len_str Tryz.underlying51 rfl rfl) ?_))
      (first | (refine AL.noV rfl rfl rfl rfl ?_) | (refine AL.noU rfl ⟨_, rfl, rfl⟩ rfl ?_) | (refine AL.rpy rfl rfl rfl (rp_eqlT rfl rfl rfl (by first | assumption | omega | (dsimp only; omega))) ?_) | (refine AL.rpy rfl rfl rfl (rp_eqlF rfl rfl rfl (by first | assumption | omega | (dsimp only; omega))) ?_) | (refine AL.rpy rfl rfl rfl (rp_eql rfl rfl rfl) ?_))
      refine AL.rp rfl rfl (rp_pick rfl rfl rfl) ?_
      refine AL.rp rfl rfl (rp_assign rfl rfl) ?_
      refine AL.nil ?_
      try simp only [thenS, S.put, List.nil_append, List.cons_append]
      refine AF.condF rfl ?_
      refine AF.seq ?_
      refine AF.region (fun _ h => h) rfl ?_
      refine AL.rp rfl rfl (rp_move rfl rfl) ?_
      (first | (refine AL.rp rfl rfl (rp_index_own (k := 0) Tryz.underlying33 inf9 rfl rfl rfl (by omega) (by omega)) ?_) | (refine AL.rp rfl rfl (rp_index_map (k := 0) Tryz.underlying33 inf9 rfl rfl rfl (by omega) (by assumption)) ?_))
      (first | (refine AL.rd rfl rfl (rd_load_ref Tryz.underlying9 rfl rfl rfl rfl rfl rfl) ?_) | (refine AL.rd rfl rfl (rd_load_ad Tryz.underlying9 rfl rfl rfl rfl) ?_) | (refine AL.rd rfl rfl (rd_load_map Tryz.underlying9 rfl rfl rfl rfl rfl rfl (by assumption)) ?_) | (refine AL.rd rfl rfl (rd_load_fam (m := 0) Tryz.underlying9 rfl rfl rfl rfl rfl rfl (fun _ => rfl) rfl (by assumption)) ?_) | (refine AL.rd rfl rfl (rd_load_fam (m := 1) Tryz.underlying9 rfl rfl rfl rfl rfl rfl (fun _ => rfl) rfl (by assumption)) ?_) | (refine AL.rd rfl rfl (rd_load_fpre (m := 1) Tryz.underlying9 rfl rfl rfl rfl rfl rfl (fun _ => rfl) rfl (by assumption) rfl) ?_) | (refine AL.rd rfl rfl (rd_load_flat Tryz.underlying9 rfl rfl rfl rfl rfl rfl (fun _ => rfl) (by assumption) rfl) ?_))
      (first | (refine AL.rp rfl rfl (rp_eqlsT rfl rfl rfl (by assumption)) ?_) | (refine AL.rp rfl rfl (rp_eqlsF rfl rfl rfl (by assumption)) ?_) | (refine AL.rp rfl rfl (rp_eqls rfl rfl rfl) ?_))
      refine AL.rp rfl rfl (rp_move rfl rfl) ?_
      (first | (refine AL.noV rfl rfl rfl rfl ?_) | (refine AL.noU rfl ⟨_, rfl, rfl⟩ rfl ?_) | (refine AL.rpy rfl rfl rfl (rp_move rfl rfl) ?_))
      (first | (refine AL.noV rfl rfl rfl rfl ?_) | (refine AL.noU rfl ⟨_, rfl, rfl⟩ rfl ?_) | (refine AL.rpy rfl rfl rfl (rp_len_map Tryz.underlying51 rfl rfl (by assumption)) ?_) | (refine AL.rpy rfl rfl rfl (rp_len_own Tryz.underlying51 rfl rfl) ?_) | (refine AL.rpy rfl rfl rfl (rp_len_sl Tryz.underlying51 rfl rfl) ?_) | (refine AL.rpy rfl rfl rfl (rp_len_nil Tryz.underlying51 rfl rfl) ?_) | (refine AL.rpy rfl rfl rfl (rp_len_str Tryz.underlying51 rfl rfl) ?_))
      (first | (refine AL.noV rfl rfl rfl rfl ?_) | (refine AL.noU rfl ⟨_, rfl, rfl⟩ rfl ?_) | (refine AL.rpy rfl rfl rfl (rp_eqlT rfl rfl rfl (by first | assumption | omega | (dsimp only; omega))) ?_) | (refine AL.rpy rfl rfl rfl (rp_eqlF rfl rfl rfl (by first | assumption | omega | (dsimp only; omega))) ?_) | (refine AL.rpy rfl rfl rfl (rp_eql rfl rfl rfl) ?_))
      refine AL.rp rfl rfl (rp_pick rfl rfl rfl) ?_
      refine AL.rp rfl rfl (rp_assign rfl rfl) ?_
      refine AL.nil ?_
      try simp only [thenS, S.put, List.nil_append, List.cons_append]
      refine AF.condF rfl ?_
      refine AF.seq ?_
      refine AF.region (fun _ h => h) rfl ?_
      refine AL.rp rfl rfl (rp_move rfl rfl) ?_
      (first | (refine AL.rp rfl rfl (rp_index_own (k := 0) Tryz.underlying33 inf9 rfl rfl rfl (by omega) (by omega)) ?_) | (refine AL.rp rfl rfl (rp_index_map (k := 0) Tryz.underlying33 inf9 rfl rfl rfl (by omega) (by assumption)) ?_))
      (first | (refine AL.rd rfl rfl (rd_load_ref Tryz.underlying9 rfl rfl rfl rfl rfl rfl) ?_) | (refine AL.rd rfl rfl (rd_load_ad Tryz.underlying9 rfl rfl rfl rfl) ?_) | (refine AL.rd rfl rfl (rd_load_map Tryz.underlying9 rfl rfl rfl rfl rfl rfl (by assumption)) ?_) | (refine AL.rd rfl rfl (rd_load_fam (m := 0) Tryz.underlying9 rfl rfl rfl rfl rfl rfl (fun _ => rfl) rfl (by assumption)) ?_) | (refine AL.rd rfl rfl (rd_load_fam (m := 1) Tryz.underlying9 rfl rfl rfl rfl rfl rfl (fun _ => rfl) rfl (by assumption)) ?_) | (refine AL.rd rfl rfl (rd_load_fpre (m := 1) Tryz.underlying9 rfl rfl rfl rfl rfl rfl (fun _ => rfl) rfl (by assumption) rfl) ?_) | (refine AL.rd rfl rfl (rd_load_flat Tryz.underlying9 rfl rfl rfl rfl rfl rfl (fun _ => rfl) (by assumption) rfl) ?_))
      (first | (refine AL.rp rfl rfl (rp_eqlsT rfl rfl rfl (by assumption)) ?_) | (refine AL.rp rfl rfl (rp_eqlsF rfl rfl rfl (by assumption)) ?_) | (refine AL.rp rfl rfl (rp_eqls rfl rfl rfl) ?_))
      refine AL.rp rfl rfl (rp_move rfl rfl) ?_
      (first | (refine AL.noV rfl rfl rfl rfl ?_) | (refine AL.noU rfl ⟨_, rfl, rfl⟩ rfl ?_) | (refine AL.rpy rfl rfl rfl (rp_move rfl rfl) ?_))
      (first | (refine AL.noV rfl rfl rfl rfl ?_) | (refine AL.noU rfl ⟨_, rfl, rfl⟩ rfl ?_) | (refine AL.rpy rfl rfl rfl (rp_len_map Tryz.underlying51 rfl rfl (by assumption)) ?_) | (refine AL.rpy rfl rfl rfl (rp_len_own Tryz.underlying51 rfl rfl) ?_) | (refine AL.rpy rfl rfl rfl (rp_len_sl Tryz.underlying51 rfl rfl) ?_) | (refine AL.rpy rfl rfl rfl (rp_len_nil Tryz.underlying51 rfl rfl) ?_) | (refine AL.rpy rfl rfl rfl (rp_len_str Tryz.underlying51 rfl rfl) ?_))
      (first | (refine AL.noV rfl rfl rfl rfl ?_) | (refine AL.noU rfl ⟨_, rfl, rfl⟩ rfl ?_) | (refine AL.rpy rfl rfl rfl (rp_eqlT rfl rfl rfl (by first | assumption | omega | (dsimp only; omega))) ?_) | (refine AL.rpy rfl rfl rfl (rp_eqlF rfl rfl rfl (by first | assumption | omega | (dsimp only; omega))) ?_) | (refine AL.rpy rfl rfl rfl (rp_eql rfl rfl rfl) ?_))
      refine AL.rp rfl rfl (rp_pick rfl rfl rfl) ?_
      refine AL.rp rfl rfl (rp_move rfl rfl) ?_
      (first | (refine AL.noV rfl rfl rfl rfl ?_) | (refine AL.noU rfl ⟨_, rfl, rfl⟩ rfl ?_) | (refine AL.rpy rfl rfl rfl (rp_field_ref Tryz.underlying24 rfl rfl rfl inf22 (by decide) rfl) ?_) | (refine AL.rpy rfl rfl rfl (rp_field_ad Tryz.underlying24 rfl rfl rfl inf22 (by decide) rfl) ?_))
      (first | (refine AL.noV rfl rfl rfl rfl ?_) | (refine AL.noU rfl ⟨_, rfl, rfl⟩ rfl ?_) | (refine AL.rdy rfl rfl rfl (rd_load_ref Tryz.underlying22 rfl rfl rfl rfl rfl rfl) ?_) | (refine AL.rdy rfl rfl rfl (rd_load_ad Tryz.underlying22 rfl rfl rfl rfl) ?_) | (refine AL.rdy rfl rfl rfl (rd_load_map Tryz.underlying22 rfl rfl rfl rfl rfl rfl (by assumption)) ?_) | (refine AL.rdy rfl rfl rfl (rd_load_fam (m := 0) Tryz.underlying22 rfl rfl rfl rfl rfl rfl (fun _ => rfl) rfl (by assumption)) ?_) | (refine AL.rdy rfl rfl rfl (rd_load_fam (m := 1) Tryz.underlying22 rfl rfl rfl rfl rfl rfl (fun _ => rfl) rfl (by assumption)) ?_) | (refine AL.rdy rfl rfl rfl (rd_load_fpre (m := 1) Tryz.underlying22 rfl rfl rfl rfl rfl rfl (fun _ => rfl) rfl (by assumption) rfl) ?_) | (refine AL.rdy rfl rfl rfl (rd_load_flat Tryz.underlying22 rfl rfl rfl rfl rfl rfl (fun _ => rfl) (by assumption) rfl) ?_))
      (first | (refine AL.noV rfl rfl rfl rfl ?_) | (refine AL.noU rfl ⟨_, rfl, rfl⟩ rfl ?_) | (refine AL.rpy rfl rfl rfl (rp_len_map Tryz.underlying22 rfl rfl (by assumption)) ?_) | (refine AL.rpy rfl rfl rfl (rp_len_own Tryz.underlying22 rfl rfl) ?_) | (refine AL.rpy rfl rfl rfl (rp_len_sl Tryz.underlying22 rfl rfl) ?_) | (refine AL.rpy rfl rfl rfl (rp_len_nil Tryz.underlying22 rfl rfl) ?_) | (refine AL.rpy rfl rfl rfl (rp_len_str Tryz.underlying22 rfl rfl) ?_))
      (first | (refine AL.noV rfl rfl rfl rfl ?_) | (refine AL.noU rfl ⟨_, rfl, rfl⟩ rfl ?_) | (refine AL.rpy rfl rfl rfl (rp_gtrT rfl rfl rfl (by first | assumption | omega | (dsimp only; omega))) ?_) | (refine AL.rpy rfl rfl rfl (rp_gtrF rfl rfl rfl (by first | assumption | omega | (dsimp only; omega))) ?_) | (refine AL.rpy rfl rfl rfl (rp_gtr rfl rfl rfl) ?_))
      refine AL.rp rfl rfl (rp_pick rfl rfl rfl) ?_
      refine AL.rp rfl rfl (rp_assign rfl rfl) ?_
      refine AL.nil ?_
      try simp only [thenS, S.put, List.nil_append, List.cons_append]
      refine AF.condF rfl ?_
      refine AF.skip ?_
      try simp only [thenS, List.nil_append, List.cons_append]
      simp only [thenS, inBlockS, QB, QB1]
      refine ⟨⟨104, [], (790, lnRow (ln2 rem)) :: ppH ⟨st, sts⟩ z, lnLoop lb w0.heap.size r0 .busy none :: ylV lb :: .ref 790 0 :: lnDf db w0.heap.size :: [.ref 2 0, .ref 3 0]⟩, ?_, rfl, rfl, _, rfl, (ppJ_ok hJ).2, hJ⟩
      unfold ppH
      exact (Less.of rfl (by repeat (first | exact trivial | refine ⟨⟨_, rfl, Wk.refl _⟩, ?_⟩ | refine ⟨⟨_, rfl, Wk.nil _ _⟩, ?_⟩ | refine ⟨⟨_, rfl, Wk.junk _⟩, ?_⟩)) (by repeat (first | exact trivial | refine ⟨rfl, ?_⟩ | exact LH.fam | refine LH.skip (by decide) ?_)) rfl)
    ·have hcA : (bs p0).data.toList ≠ (⟨#[97, 114, 99]⟩ : ByteArray).data.toList := by rw [bs_list]; exact h3
     rw [if_neg (fun h => h3 h.1)] at hF
     have hJ := same hF
     refine AF.block ?_
     refine AF.seq ?_
     refine AF.region (fun _ h => h) rfl ?_
     refine AL.rp rfl rfl (rp_move rfl rfl) ?_
     refine AL.call (post := ?pc71) rfl (sm_call (args := [_, _]) ?hc71 ⟨Tryz.func17, rfl, rfl, rfl, rfl⟩ rfl rfl rfl rfl) ?_
     case hc71 => exact htrim
     rintro _ rfl -
     try dsimp only
     refine AL.call (post := ?pc72) rfl (sm_callP (args := [_, _]) (preN_kept) (by assumption) ?hc72 ⟨Tryz.func16, rfl, rfl, rfl, rfl⟩ rfl rfl rfl rfl) ?_
     case hc72 => exact hsp
     rintro _ rfl -
     try dsimp only
     refine AL.rp rfl rfl (rp_assign rfl rfl) ?_
     refine AL.nil ?_
     try simp only [thenS, S.put, S.newObj, setL, V.cs, List.length_cons, List.length_nil, List.take_succ_cons, List.take_zero, List.drop_succ_cons, List.drop_zero, List.drop_nil, List.nil_append, List.cons_append, List.append_nil, Nat.zero_add, Nat.reduceAdd, List.map_cons, List.map_nil, List.set_cons_zero, List.set_cons_succ]
     refine AF.seq ?_
     refine AF.region (fun _ h => h) rfl ?_
     refine AL.rp rfl rfl (rp_move rfl rfl) ?_
     (first | (refine AL.rd rfl rfl (rd_slice_que (j := 1) Tryz.underlying33 inf9 rfl rfl rfl (by omega) (by omega)) ?_) | (refine AL.rd rfl rfl (rd_slice_fromD (j := 1) Tryz.underlying33 inf9 rfl rfl rfl (by first | rfl | omega) (by first | assumption | omega) (by assumption)) ?_))
     refine AL.call (post := ?pc73) rfl (sm_callP (args := [_]) (preN_kept) (by assumption) ?hc73 ⟨Tryz.func18, rfl, rfl, rfl, rfl⟩ rfl rfl rfl rfl) ?_
     case hc73 => exact hnu
     rintro _ rfl -
     try dsimp only
     refine AL.rp rfl rfl (rp_assign rfl rfl) ?_
     refine AL.nil ?_
     try simp only [thenS, S.put, S.newObj, setL, V.cs, List.length_cons, List.length_nil, List.take_succ_cons, List.take_zero, List.drop_succ_cons, List.drop_zero, List.drop_nil, List.nil_append, List.cons_append, List.append_nil, Nat.zero_add, Nat.reduceAdd, List.map_cons, List.map_nil, List.set_cons_zero, List.set_cons_succ]
     refine AF.block ?_
     refine AF.seq ?_
     refine AF.region (fun _ h => h) rfl ?_
     refine AL.rp rfl rfl (rp_move rfl rfl) ?_
     (first | (refine AL.rp rfl rfl (rp_index_own (k := 0) Tryz.underlying33 inf9 rfl rfl rfl (by omega) (by omega)) ?_) | (refine AL.rp rfl rfl (rp_index_map (k := 0) Tryz.underlying33 inf9 rfl rfl rfl (by omega) (by assumption)) ?_))
     (first | (refine AL.rd rfl rfl (rd_load_ref Tryz.underlying9 rfl rfl rfl rfl rfl rfl) ?_) | (refine AL.rd rfl rfl (rd_load_ad Tryz.underlying9 rfl rfl rfl rfl) ?_) | (refine AL.rd rfl rfl (rd_load_map Tryz.underlying9 rfl rfl rfl rfl rfl rfl (by assumption)) ?_) | (refine AL.rd rfl rfl (rd_load_fam (m := 0) Tryz.underlying9 rfl rfl rfl rfl rfl rfl (fun _ => rfl) rfl (by assumption)) ?_) | (refine AL.rd rfl rfl (rd_load_fam (m := 1) Tryz.underlying9 rfl rfl rfl rfl rfl rfl (fun _ => rfl) rfl (by assumption)) ?_) | (refine AL.rd rfl rfl (rd_load_fpre (m := 1) Tryz.underlying9 rfl rfl rfl rfl rfl rfl (fun _ => rfl) rfl (by assumption) rfl) ?_) | (refine AL.rd rfl rfl (rd_load_flat Tryz.underlying9 rfl rfl rfl rfl rfl rfl (fun _ => rfl) (by assumption) rfl) ?_))
     (first | (refine AL.rp rfl rfl (rp_eqlsT rfl rfl rfl (by assumption)) ?_) | (refine AL.rp rfl rfl (rp_eqlsF rfl rfl rfl (by assumption)) ?_) | (refine AL.rp rfl rfl (rp_eqls rfl rfl rfl) ?_))
     refine AL.rp rfl rfl (rp_move rfl rfl) ?_
     (first | (refine AL.noV rfl rfl rfl rfl ?_) | (refine AL.noU rfl ⟨_, rfl, rfl⟩ rfl ?_) | (refine AL.rpy rfl rfl rfl (rp_move rfl rfl) ?_))
     (first | (refine AL.noV rfl rfl rfl rfl ?_) | (refine AL.noU rfl ⟨_, rfl, rfl⟩ rfl ?_) | (refine AL.rpy rfl rfl rfl (rp_len_map Tryz.underlying51 rfl rfl (by assumption)) ?_) | (refine AL.rpy rfl rfl rfl (rp_len_own Tryz.underlying51 rfl rfl) ?_) | (refine AL.rpy rfl rfl rfl (rp_len_sl Tryz.underlying51 rfl rfl) ?_) | (refine AL.rpy rfl rfl rfl (rp_len_nil Tryz.underlying51 rfl rfl) ?_) | (refine AL.rpy rfl rfl rfl (rp_len_str Tryz.underlying51 rfl rfl) ?_))
     (first | (refine AL.noV rfl rfl rfl rfl ?_) | (refine AL.noU rfl ⟨_, rfl, rfl⟩ rfl ?_) | (refine AL.rpy rfl rfl rfl (rp_eqlT rfl rfl rfl (by first | assumption | omega | (dsimp only; omega))) ?_) | (refine AL.rpy rfl rfl rfl (rp_eqlF rfl rfl rfl (by first | assumption | omega | (dsimp only; omega))) ?_) | (refine AL.rpy rfl rfl rfl (rp_eql rfl rfl rfl) ?_))
     refine AL.rp rfl rfl (rp_pick rfl rfl rfl) ?_
     refine AL.rp rfl rfl (rp_assign rfl rfl) ?_
     refine AL.nil ?_
     try simp only [thenS, S.put, List.nil_append, List.cons_append]
     refine AF.condF rfl ?_
     refine AF.seq ?_
     refine AF.region (fun _ h => h) rfl ?_
     refine AL.rp rfl rfl (rp_move rfl rfl) ?_
     (first | (refine AL.rp rfl rfl (rp_index_own (k := 0) Tryz.underlying33 inf9 rfl rfl rfl (by omega) (by omega)) ?_) | (refine AL.rp rfl rfl (rp_index_map (k := 0) Tryz.underlying33 inf9 rfl rfl rfl (by omega) (by assumption)) ?_))
     (first | (refine AL.rd rfl rfl (rd_load_ref Tryz.underlying9 rfl rfl rfl rfl rfl rfl) ?_) | (refine AL.rd rfl rfl (rd_load_ad Tryz.underlying9 rfl rfl rfl rfl) ?_) | (refine AL.rd rfl rfl (rd_load_map Tryz.underlying9 rfl rfl rfl rfl rfl rfl (by assumption)) ?_) | (refine AL.rd rfl rfl (rd_load_fam (m := 0) Tryz.underlying9 rfl rfl rfl rfl rfl rfl (fun _ => rfl) rfl (by assumption)) ?_) | (refine AL.rd rfl rfl (rd_load_fam (m := 1) Tryz.underlying9 rfl rfl rfl rfl rfl rfl (fun _ => rfl) rfl (by assumption)) ?_) | (refine AL.rd rfl rfl (rd_load_fpre (m := 1) Tryz.underlying9 rfl rfl rfl rfl rfl rfl (fun _ => rfl) rfl (by assumption) rfl) ?_) | (refine AL.rd rfl rfl (rd_load_flat Tryz.underlying9 rfl rfl rfl rfl rfl rfl (fun _ => rfl) (by assumption) rfl) ?_))
     (first | (refine AL.rp rfl rfl (rp_eqlsT rfl rfl rfl (by assumption)) ?_) | (refine AL.rp rfl rfl (rp_eqlsF rfl rfl rfl (by assumption)) ?_) | (refine AL.rp rfl rfl (rp_eqls rfl rfl rfl) ?_))
     refine AL.rp rfl rfl (rp_move rfl rfl) ?_
     (first | (refine AL.noV rfl rfl rfl rfl ?_) | (refine AL.noU rfl ⟨_, rfl, rfl⟩ rfl ?_) | (refine AL.rpy rfl rfl rfl (rp_move rfl rfl) ?_))
     (first | (refine AL.noV rfl rfl rfl rfl ?_) | (refine AL.noU rfl ⟨_, rfl, rfl⟩ rfl ?_) | (refine AL.rpy rfl rfl rfl (rp_len_map Tryz.underlying51 rfl rfl (by assumption)) ?_) | (refine AL.rpy rfl rfl rfl (rp_len_own Tryz.underlying51 rfl rfl) ?_) | (refine AL.rpy rfl rfl rfl (rp_len_sl Tryz.underlying51 rfl rfl) ?_) | (refine AL.rpy rfl rfl rfl (rp_len_nil Tryz.underlying51 rfl rfl) ?_) | (refine AL.rpy rfl rfl rfl (rp_len_str Tryz.underlying51 rfl rfl) ?_))
     (first | (refine AL.noV rfl rfl rfl rfl ?_) | (refine AL.noU rfl ⟨_, rfl, rfl⟩ rfl ?_) | (refine AL.rpy rfl rfl rfl (rp_eqlT rfl rfl rfl (by first | assumption | omega | (dsimp only; omega))) ?_) | (refine AL.rpy rfl rfl rfl (rp_eqlF rfl rfl rfl (by first | assumption | omega | (dsimp only; omega))) ?_) | (refine AL.rpy rfl rfl rfl (rp_eql rfl rfl rfl) ?_))
     refine AL.rp rfl rfl (rp_pick rfl rfl rfl) ?_
     refine AL.rp rfl rfl (rp_assign rfl rfl) ?_
     refine AL.nil ?_
     try simp only [thenS, S.put, List.nil_append, List.cons_append]
     refine AF.condF rfl ?_
     refine AF.seq ?_
     refine AF.region (fun _ h => h) rfl ?_
     refine AL.rp rfl rfl (rp_move rfl rfl) ?_
     (first | (refine AL.rp rfl rfl (rp_index_own (k := 0) Tryz.underlying33 inf9 rfl rfl rfl (by omega) (by omega)) ?_) | (refine AL.rp rfl rfl (rp_index_map (k := 0) Tryz.underlying33 inf9 rfl rfl rfl (by omega) (by assumption)) ?_))
     (first | (refine AL.rd rfl rfl (rd_load_ref Tryz.underlying9 rfl rfl rfl rfl rfl rfl) ?_) | (refine AL.rd rfl rfl (rd_load_ad Tryz.underlying9 rfl rfl rfl rfl) ?_) | (refine AL.rd rfl rfl (rd_load_map Tryz.underlying9 rfl rfl rfl rfl rfl rfl (by assumption)) ?_) | (refine AL.rd rfl rfl (rd_load_fam (m := 0) Tryz.underlying9 rfl rfl rfl rfl rfl rfl (fun _ => rfl) rfl (by assumption)) ?_) | (refine AL.rd rfl rfl (rd_load_fam (m := 1) Tryz.underlying9 rfl rfl rfl rfl rfl rfl (fun _ => rfl) rfl (by assumption)) ?_) | (refine AL.rd rfl rfl (rd_load_fpre (m := 1) Tryz.underlying9 rfl rfl rfl rfl rfl rfl (fun _ => rfl) rfl (by assumption) rfl) ?_) | (refine AL.rd rfl rfl (rd_load_flat Tryz.underlying9 rfl rfl rfl rfl rfl rfl (fun _ => rfl) (by assumption) rfl) ?_))
     (first | (refine AL.rp rfl rfl (rp_eqlsT rfl rfl rfl (by assumption)) ?_) | (refine AL.rp rfl rfl (rp_eqlsF rfl rfl rfl (by assumption)) ?_) | (refine AL.rp rfl rfl (rp_eqls rfl rfl rfl) ?_))
     refine AL.rp rfl rfl (rp_move rfl rfl) ?_
     (first | (refine AL.noV rfl rfl rfl rfl ?_) | (refine AL.noU rfl ⟨_, rfl, rfl⟩ rfl ?_) | (refine AL.rpy rfl rfl rfl (rp_move rfl rfl) ?_))
     (first | (refine AL.noV rfl rfl rfl rfl ?_) | (refine AL.noU rfl ⟨_, rfl, rfl⟩ rfl ?_) | (refine AL.rpy rfl rfl rfl (rp_len_map Tryz.underlying51 rfl rfl (by assumption)) ?_) | (refine AL.rpy rfl rfl rfl (rp_len_own Tryz.underlying51 rfl rfl) ?_) | (refine AL.rpy rfl rfl rfl (rp_len_sl Tryz.underlying51 rfl rfl) ?_) | (refine AL.rpy rfl rfl rfl (rp_len_nil Tryz.underlying51 rfl rfl) ?_) | (refine AL.rpy rfl rfl rfl (rp_len_str Tryz.underlying51 rfl rfl) ?_))
     (first | (refine AL.noV rfl rfl rfl rfl ?_) | (refine AL.noU rfl ⟨_, rfl, rfl⟩ rfl ?_) | (refine AL.rpy rfl rfl rfl (rp_eqlT rfl rfl rfl (by first | assumption | omega | (dsimp only; omega))) ?_) | (refine AL.rpy rfl rfl rfl (rp_eqlF rfl rfl rfl (by first | assumption | omega | (dsimp only; omega))) ?_) | (refine AL.rpy rfl rfl rfl (rp_eql rfl rfl rfl) ?_))
     refine AL.rp rfl rfl (rp_pick rfl rfl rfl) ?_
     refine AL.rp rfl rfl (rp_move rfl rfl) ?_
     (first | (refine AL.noV rfl rfl rfl rfl ?_) | (refine AL.noU rfl ⟨_, rfl, rfl⟩ rfl ?_) | (refine AL.rpy rfl rfl rfl (rp_field_ref Tryz.underlying24 rfl rfl rfl inf22 (by decide) rfl) ?_) | (refine AL.rpy rfl rfl rfl (rp_field_ad Tryz.underlying24 rfl rfl rfl inf22 (by decide) rfl) ?_))
     (first | (refine AL.noV rfl rfl rfl rfl ?_) | (refine AL.noU rfl ⟨_, rfl, rfl⟩ rfl ?_) | (refine AL.rdy rfl rfl rfl (rd_load_ref Tryz.underlying22 rfl rfl rfl rfl rfl rfl) ?_) | (refine AL.rdy rfl rfl rfl (rd_load_ad Tryz.underlying22 rfl rfl rfl rfl) ?_) | (refine AL.rdy rfl rfl rfl (rd_load_map Tryz.underlying22 rfl rfl rfl rfl rfl rfl (by assumption)) ?_) | (refine AL.rdy rfl rfl rfl (rd_load_fam (m := 0) Tryz.underlying22 rfl rfl rfl rfl rfl rfl (fun _ => rfl) rfl (by assumption)) ?_) | (refine AL.rdy rfl rfl rfl (rd_load_fam (m := 1) Tryz.underlying22 rfl rfl rfl rfl rfl rfl (fun _ => rfl) rfl (by assumption)) ?_) | (refine AL.rdy rfl rfl rfl (rd_load_fpre (m := 1) Tryz.underlying22 rfl rfl rfl rfl rfl rfl (fun _ => rfl) rfl (by assumption) rfl) ?_) | (refine AL.rdy rfl rfl rfl (rd_load_flat Tryz.underlying22 rfl rfl rfl rfl rfl rfl (fun _ => rfl) (by assumption) rfl) ?_))
     (first | (refine AL.noV rfl rfl rfl rfl ?_) | (refine AL.noU rfl ⟨_, rfl, rfl⟩ rfl ?_) | (refine AL.rpy rfl rfl rfl (rp_len_map Tryz.underlying22 rfl rfl (by assumption)) ?_) | (refine AL.rpy rfl rfl rfl (rp_len_own Tryz.underlying22 rfl rfl) ?_) | (refine AL.rpy rfl rfl rfl (rp_len_sl Tryz.underlying22 rfl rfl) ?_) | (refine AL.rpy rfl rfl rfl (rp_len_nil Tryz.underlying22 rfl rfl) ?_) | (refine AL.rpy rfl rfl rfl (rp_len_str Tryz.underlying22 rfl rfl) ?_))
     (first | (refine AL.noV rfl rfl rfl rfl ?_) | (refine AL.noU rfl ⟨_, rfl, rfl⟩ rfl ?_) | (refine AL.rpy rfl rfl rfl (rp_gtrT rfl rfl rfl (by first | assumption | omega | (dsimp only; omega))) ?_) | (refine AL.rpy rfl rfl rfl (rp_gtrF rfl rfl rfl (by first | assumption | omega | (dsimp only; omega))) ?_) | (refine AL.rpy rfl rfl rfl (rp_gtr rfl rfl rfl) ?_))
     refine AL.rp rfl rfl (rp_pick rfl rfl rfl) ?_
     refine AL.rp rfl rfl (rp_assign rfl rfl) ?_
     refine AL.nil ?_
     try simp only [thenS, S.put, List.nil_append, List.cons_append]
     refine AF.condF rfl ?_
     refine AF.skip ?_
     try simp only [thenS, List.nil_append, List.cons_append]
     simp only [thenS, inBlockS, QB, QB1]
     refine ⟨⟨104, [], (790, lnRow (ln2 rem)) :: ppH ⟨st, sts⟩ z, lnLoop lb w0.heap.size r0 .busy none :: ylV lb :: .ref 790 0 :: lnDf db w0.heap.size :: [.ref 2 0, .ref 3 0]⟩, ?_, rfl, rfl, _, rfl, (ppJ_ok hJ).2, hJ⟩
     unfold ppH
     exact (Less.of rfl (by repeat (first | exact trivial | refine ⟨⟨_, rfl, Wk.refl _⟩, ?_⟩ | refine ⟨⟨_, rfl, Wk.nil _ _⟩, ?_⟩ | refine ⟨⟨_, rfl, Wk.junk _⟩, ?_⟩)) (by repeat (first | exact trivial | refine ⟨rfl, ?_⟩ | exact LH.fam | refine LH.skip (by decide) ?_)) rfl)
 ·rintro db H ⟨_, m, hsz, hF, hH⟩
  rw [lns_nil] at hF
  simp only [List.foldl_nil] at hF
  subst hF
  refine AW.pp hH rfl rfl ?_
  obtain ⟨st, sts⟩ := m
  unfold ppH
  dsimp only
  by_cases he : sts = []
  ·subst he
   refine AW.freezeH 3 1 32 [] rfl rfl rfl (by decide) rfl rfl rfl (by omega) (by intro a b c d h; simp at h) ?_
   refine AW.less (s' := ⟨104, [(2, .ref 2 0), (3, .ref 3 0)], [(2, ⟨24, [.i 0, .nil], false, 0⟩), (3, ⟨24, [.i st, .d (stsD [])], false, 0⟩)], [lnDf db w0.heap.size]⟩) (Less.of rfl (by repeat (first | exact trivial | refine ⟨⟨_, rfl, Wk.refl _⟩, ?_⟩ | refine ⟨⟨_, rfl, Wk.nil _ _⟩, ?_⟩ | refine ⟨⟨_, rfl, Wk.junk _⟩, ?_⟩)) (by repeat (first | exact trivial | refine ⟨rfl, ?_⟩ | exact LH.fam | refine LH.skip (by decide) ?_)) rfl) ?_
   refine AW.seq ?_
   refine AW.region ?_
   (first | (refine AL.rd rfl rfl (rd_loads_ref Tryz.underlying24 rfl inf24 rfl rfl rfl rfl rfl rfl) ?_) | (refine AL.rd rfl rfl (rd_loads_ad Tryz.underlying24 rfl inf24 rfl rfl rfl rfl) ?_))
   refine AL.st rfl (st_store_any inf24 rfl rfl rfl rfl rfl rfl rfl rfl (by first | decide | (simp; done) | (simp; omega)) rfl) ?_
   refine AL.nil ?_
   try simp only [thenS, S.put, S.newObj, setL, V.cs, List.length_cons, List.length_nil, List.take_succ_cons, List.take_zero, List.drop_succ_cons, List.drop_zero, List.drop_nil, List.nil_append, List.cons_append, List.append_nil, Nat.zero_add, Nat.reduceAdd, List.map_cons, List.map_nil, List.set_cons_zero, List.set_cons_succ]
   refine AW.ret ?_
   refine ⟨[(2, .ref 2 0)], [(2, ⟨24, [.i st, .d (stsD [])], false, 0⟩)], (Less.of rfl (by repeat (first | exact trivial | refine ⟨⟨_, rfl, Wk.refl _⟩, ?_⟩ | refine ⟨⟨_, rfl, Wk.nil _ _⟩, ?_⟩ | refine ⟨⟨_, rfl, Wk.junk _⟩, ?_⟩)) (by repeat (first | exact trivial | refine ⟨rfl, ?_⟩ | exact LH.fam | refine LH.skip (by decide) ?_)) rfl), ⟨rfl, rfl, fun v hv => by cases hv⟩, [_], ⟨⟨2, 0, _, _, rfl, rfl, rfl, Tryz.underlying24, .inr ⟨rfl, _, _, _, _, inf24, rfl, rfl, rfl⟩⟩, trivial⟩, rfl, by simp [tupOf, V.pure, V.has, V.hasL, mV]⟩
  ·obtain ⟨z, hz⟩ : ∃ z, sts.isEmpty = z := ⟨_, rfl⟩
   rw [hz]
   obtain rfl : z = false := by rw [← hz]; cases sts with | nil => exact absurd rfl he | cons => rfl
   refine AW.famFreeze (F := FS) (m := 1) (base := 1000) (L := sts) [_, _, _, _] 901 rfl rfl rfl rfl (fun _ => rfl) (by intro x l hl; simp [FS] at hl; obtain ⟨_, _, rfl⟩ := hl; rfl) ?_ rfl (by simp [V.hasL, V.has]; intro r hr; omega) rfl rfl ?_
   ·intro s hs
    have := hsz.2 s hs
    simp [FS]; omega
   refine AW.freezeH 3 1 32 (sts.map FS.data) rfl rfl rfl (by decide) rfl rfl (by rw [List.length_map]) (by have := hsz.1; simp only at this; omega) (rowsF (sz := 2) (fun _ => rfl) rfl) ?_
   refine AW.less (s' := ⟨104, [(2, .ref 2 0), (3, .ref 3 0)], [(2, ⟨24, [.i 0, .nil], false, 0⟩), (3, ⟨24, [.i st, .d (stsD sts)], false, 0⟩)], [lnDf db w0.heap.size]⟩) (Less.of rfl (by repeat (first | exact trivial | refine ⟨⟨_, rfl, Wk.refl _⟩, ?_⟩ | refine ⟨⟨_, rfl, Wk.nil _ _⟩, ?_⟩ | refine ⟨⟨_, rfl, Wk.junk _⟩, ?_⟩)) (by repeat (first | exact trivial | refine ⟨rfl, ?_⟩ | exact LH.fam | refine LH.skip (by decide) ?_)) rfl) ?_
   refine AW.seq ?_
   refine AW.region ?_
   (first | (refine AL.rd rfl rfl (rd_loads_ref Tryz.underlying24 rfl inf24 rfl rfl rfl rfl rfl rfl) ?_) | (refine AL.rd rfl rfl (rd_loads_ad Tryz.underlying24 rfl inf24 rfl rfl rfl rfl) ?_))
   refine AL.st rfl (st_store_any inf24 rfl rfl rfl rfl rfl rfl rfl rfl (by first | decide | (simp; done) | (simp; omega)) rfl) ?_
   refine AL.nil ?_
   try simp only [thenS, S.put, S.newObj, setL, V.cs, List.length_cons, List.length_nil, List.take_succ_cons, List.take_zero, List.drop_succ_cons, List.drop_zero, List.drop_nil, List.nil_append, List.cons_append, List.append_nil, Nat.zero_add, Nat.reduceAdd, List.map_cons, List.map_nil, List.set_cons_zero, List.set_cons_succ]
   refine AW.ret ?_
   refine ⟨[(2, .ref 2 0)], [(2, ⟨24, [.i st, .d (stsD sts)], false, 0⟩)], (Less.of rfl (by repeat (first | exact trivial | refine ⟨⟨_, rfl, Wk.refl _⟩, ?_⟩ | refine ⟨⟨_, rfl, Wk.nil _ _⟩, ?_⟩ | refine ⟨⟨_, rfl, Wk.junk _⟩, ?_⟩)) (by repeat (first | exact trivial | refine ⟨rfl, ?_⟩ | exact LH.fam | refine LH.skip (by decide) ?_)) rfl), ⟨rfl, rfl, fun v hv => by cases hv⟩, [_], ⟨⟨2, 0, _, _, rfl, rfl, rfl, Tryz.underlying24, .inr ⟨rfl, _, _, _, _, inf24, rfl, rfl, rfl⟩⟩, trivial⟩, rfl, by simp [tupOf, V.pure, V.has, V.hasL, mV]⟩
end Go.Proofs.YtkikceoccmoanaaGreatDoor
namespace Go.Proofs.YtkikceoccmoanaaGreatDoor
open Go.RowKit
set_option linter.unusedSimpArgs false
set_option linter.unusedVariables false
set_option maxRecDepth 100000

theorem am_ShowP (x : Int) : FnP preT Tryz.prog 23 [.i x] (fun v => v = .tup [.s (shS x), .i (shE x)]) :=
  FnP.ofCalls (xs := [.int .i64 x]) (y := .tuple #[.string (shS x), .int .i64 (shE x)]) (fun w hw => weight_Show x w hw) (fun _ _ _ zs h => by
    obtain ⟨h1, h2⟩ := h
    match zs, h1, h2 with
    | [z], _, h2 => rw [VRep.p_eq (h2 0 _ z rfl rfl)]) (fun _ _ _ => .tup _ _ rfl fun j u z hu hz => by
    match j, hu with
    | 0, hu => simp at hu hz; subst hu hz; exact .d _ _ (.p _)
    | 1, hu => simp at hu hz; subst hu hz; exact .d _ _ (.p _)
    | j + 2, hu => simp at hu) (by simp [V.pure, V.has, V.hasL])
end Go.Proofs.YtkikceoccmoanaaGreatDoor
namespace Go.Proofs.YtkikceoccmoanaaGreatDoor
open Go.Shelf Go.RowKit
def lays156_ren : Go.Shelf.Ren := ⟨fun | 156 => 42 | 165 => 63 | 166 => 41 | 169 => 24 | 240 => 62 | 241 => 82 | 276 => 81 | 277 => 97 | n => n, fun | 31 => 33 | 9 => 9 | 3 => 3 | 4 => 4 | 0 => 0 | 20 => 20 | 72 => 57 | 76 => 73 | 70 => 54 | 37 => 55 | 75 => 72 | 127 => 81 | 164 => 112 | 5 => 5 | 80 => 63 | n => n, fun | n => n⟩
theorem lays156 : Go.Proofs.Lays.n156 Tryz.prog lays156_ren := {
  mixed := by kernel_rfl
  f156 := Tryz.func42.trans (congrArg some (by kernel_rfl))
  f165 := Tryz.func63.trans (congrArg some (by kernel_rfl))
  f166 := Tryz.func41.trans (congrArg some (by kernel_rfl))
  f169 := Tryz.func24.trans (congrArg some (by kernel_rfl))
  f240 := Tryz.func62.trans (congrArg some (by kernel_rfl))
  f241 := Tryz.func82.trans (congrArg some (by kernel_rfl))
  f276 := Tryz.func81.trans (congrArg some (by kernel_rfl))
  f277 := Tryz.func97.trans (congrArg some (by kernel_rfl))
  t0 := Tryz.underlying0
  a0 := Tryz.isAgg0
  z0 := Tryz.sizeOf0
  v0 := Tryz.zeroValue0
  t3 := Tryz.underlying3
  a3 := Tryz.isAgg3
  z3 := Tryz.sizeOf3
  v3 := Tryz.zeroValue3
  t4 := Tryz.underlying4
  a4 := Tryz.isAgg4
  z4 := Tryz.sizeOf4
  v4 := Tryz.zeroValue4
  t9 := Tryz.underlying9
  a9 := Tryz.isAgg9
  z9 := Tryz.sizeOf9
  v9 := Tryz.zeroValue9
  t20 := Tryz.underlying20
  a20 := Tryz.isAgg20
  z20 := Tryz.sizeOf20
  v20 := Tryz.zeroValue20
  t31 := Tryz.underlying33
  a31 := Tryz.isAgg33
  z31 := Tryz.sizeOf33
  v31 := Tryz.zeroValue33
  t37 := Tryz.underlying55
  a37 := Tryz.isAgg55
  z37 := Tryz.sizeOf55
  v37 := Tryz.zeroValue55
  t70 := Tryz.underlying54
  a70 := Tryz.isAgg54
  z70 := Tryz.sizeOf54
  v70 := Tryz.zeroValue54
  t72 := Tryz.underlying57
  a72 := Tryz.isAgg57
  z72 := Tryz.sizeOf57
  v72 := Tryz.zeroValue57
  t75 := Tryz.underlying72
  a75 := Tryz.isAgg72
  z75 := Tryz.sizeOf72
  v75 := Tryz.zeroValue72
  t76 := Tryz.underlying73
  a76 := Tryz.isAgg73
  z76 := Tryz.sizeOf73
  v76 := Tryz.zeroValue73
  t127 := Tryz.underlying81
  a127 := Tryz.isAgg81
  z127 := Tryz.sizeOf81
  v127 := Tryz.zeroValue81
  t164 := Tryz.underlying112
  a164 := Tryz.isAgg112
  z164 := Tryz.sizeOf112
  v164 := Tryz.zeroValue112 }
theorem builder_Extra_156 : Builder.Extra Tryz.prog lays156_ren := {
  sizeBuilder := by kernel_rfl
  liesBuilder := by kernel_rfl
  t5 := Tryz.underlying5
  a5 := Tryz.isAgg5
  z5 := Tryz.sizeOf5
  v5 := Tryz.zeroValue5
  infoByte := by kernel_rfl
  cellsByte := by kernel_rfl
  sizeByte := by kernel_rfl
  neB5 := by decide }
theorem join_call (bk o c : Nat) (xs : List ByteArray) (sep : ByteArray) (w : World) (hcells : ∀ (j : Nat) x, xs[j]? = some x → w.cell? ⟨bk, o + j, none⟩ = some (.string x)) (hbk : bk < w.heap.size) (hN : xs.length ≤ 140737488355328) (hcap : xs.length ≤ c) (hlen : (Lib.join (xs.map (·.data.toList)) sep.data.toList).length ≤ 140737488355328) :
    Calls Tryz.prog 42 #[.slice (some ⟨bk, o, none⟩) xs.length c, .string sep] w fun e w' => e = .returned (.string ⟨(Lib.join (xs.map (·.data.toList)) sep.data.toList).toArray⟩) ∧ Below w.heap.size w w' := Any.strings_Join lays156 builder_Extra_156 bk o c xs sep w hcells hbk hN hcap hlen
end Go.Proofs.YtkikceoccmoanaaGreatDoor
namespace Go.Proofs.YtkikceoccmoanaaGreatDoor
open Go.RowKit
set_option linter.unusedSimpArgs false
set_option linter.unusedVariables false
set_option maxRecDepth 100000

def joinB (ws : List ByteArray) (sep : ByteArray) : ByteArray := ⟨(Lib.join (ws.map (·.data.toList)) sep.data.toList).toArray⟩
section
variable {c : Cx} {s : S} {o : Oper}
theorem sm_join {x y fx : Operand} {ts : Array TypeId} {f : FuncId} {fn : Func} {code : Code} {n m r : Nat} {rs : List ResultVar} {row : Row} {sep : ByteArray} (ws : List ByteArray)
    (hj : ∀ (bk cap : Nat) (w : World), (∀ (j : Nat) x, ws[j]? = some x → w.cell? ⟨bk, 0 + j, none⟩ = some (.string x)) → bk < w.heap.size → ws.length ≤ cap → Calls c.P f #[.slice (some ⟨bk, 0, none⟩) ws.length cap, .string sep] w fun e w' => e = .returned (.string (joinB ws sep)) ∧ Below w.heap.size w w')
    (hf : Is c.P f fn code n rs) (ho : o.op = .call { callee := .value fx, args := #[x, y], argTypes := ts }) (hfx : s.ev fx = some (.fn f [])) (hx : s.ev x = some (.own r 1 m false)) (hr : fnd s.H r = some row) (hn : row.nil = false) (hc : row.cells.take m = ws.map V.s) (hm : ws.length = m) (hy : s.ev y = some (.s sep)) (hd : dok s o = true) : StepM c o s (fun s' => s' = s.put o.dst (.s (joinB ws sep))) := by
  intro g a w hs K Q hK
  have hfx' : a.eval fx = .func (.func f) #[] ([] : List Value).toArray := by
    have h := hs.ev hfx
    generalize a.eval fx = u at h
    cases h with
    | fn _ _ cs hl _ =>
      obtain rfl : cs = [] := by cases cs with | nil => rfl | cons => simp at hl
      rfl
  have hyv := VRep.p_eq (hs.ev hy)
  obtain ⟨arr, h1, _, h2⟩ := hs.obj r row hr hn
  have hlt : (g r).1 < w.heap.size := (Array.getElem?_eq_some_iff.1 h1).1
  have h := hs.ev hx
  unfold Oper.wp
  rw [exec_call (caps := []) hf ho hfx']
  simp only [Oper.upon, List.append_nil, List.map_cons, List.map_nil, hyv]
  generalize a.eval x = u at h
  cases h with
  | own _ _ _ hle hcap =>
    subst hm
    refine (hj (g r).1 (g r).2 w (fun j z hz => ?_) hlt hle).mono ?_
    · have hk : row.cells[j]? = some (V.s z) := by
        have := congrArg (fun l => l[j]?) hc
        have hjl := (List.getElem?_eq_some_iff.1 hz).1
        simp only [List.getElem?_take, if_pos hjl, List.getElem?_map, hz, Option.map_some] at this
        exact this
      obtain ⟨y, h3, h4⟩ := h2 j _ hk
      have h5 := VRep.p_eq h4
      subst h5
      rw [Nat.zero_add]
      exact (cell_of_row w _ _ _ _ _ h1).trans h3
    · rintro e w' ⟨rfl, h4⟩
      exact hK g _ _ _ rfl ((hs.move h4).put o.dst (dok_spec hd) (.d _ _ (.p _))) h4
/-- A pointer to an object of the call's own, held against itself. -/
theorem rp_neqp_same {t t' e : TypeId} {sz bt : Nat} {z : Value} {x y : Operand} {r k : Nat} (hu : c.P.underlying t = some (.pointer e)) (hii : Inf c.P e sz bt z) (ho : o.op = .binOp .neq t x y t') (hx : s.ev x = some (.ref r k)) (hy : s.ev y = some (.ref r k)) : RP c o s (.b false) := fun g a w hs => by
  obtain ⟨j, hi, _⟩ := hii.out
  have h1 := hs.ev hx
  have h2 := hs.ev hy
  refine ⟨.bool false, .d _ _ (.p _), fun w' => ?_⟩
  have h3 : a.eval x = .pointer (some ⟨(g r).1, k, none⟩) := by generalize a.eval x = u at h1; cases h1; rfl
  have h4 : a.eval y = .pointer (some ⟨(g r).1, k, none⟩) := by generalize a.eval y = u at h2; cases h2; rfl
  have h := Lib.run_neq_ptr_same w' (P := c.P) ⟨(g r).1, k, none⟩ hu hi
  simp [execOp, ho, h3, h4, eqGuard, h]
theorem rp_eqlp_nil {t t' e : TypeId} {x y : Operand} (hu : c.P.underlying t = some (.pointer e)) (ho : o.op = .binOp .eql t x y t') (hx : s.ev x = some (.d (.p (.pointer none)))) (hy : s.ev y = some (.d (.p (.pointer none)))) : RP c o s (.b true) :=
  rp_ptr (b := true) (.inl rfl) hu ho hx hy fun w q g z hz => by rw [VRep.p_eq hz]; exact ⟨_, rfl, rfl⟩
/-- A pointer to an object of the call's own is not nil. -/
theorem rp_eqlp_own {t t' e : TypeId} {x y : Operand} {r k : Nat} (hu : c.P.underlying t = some (.pointer e)) (ho : o.op = .binOp .eql t x y t') (hx : s.ev x = some (.ref r k)) (hy : s.ev y = some (.d (.p (.pointer none)))) : RP c o s (.b false) :=
  rp_ptr (b := false) (.inl rfl) hu ho hx hy fun w q g z hz => by cases hz; exact ⟨_, rfl, rfl⟩
end
theorem join_fits (sep : ByteArray) (ws : List ByteArray) (hN : ws.length ≤ 1000) (hlen : (Lib.join (ws.map (·.data.toList)) sep.data.toList).length ≤ 140737488355328) (bk cap : Nat) (w : World) (hcells : ∀ (j : Nat) x, ws[j]? = some x → w.cell? ⟨bk, 0 + j, none⟩ = some (.string x)) (hbk : bk < w.heap.size) (hcap : ws.length ≤ cap) :
    Calls Tryz.prog 42 #[.slice (some ⟨bk, 0, none⟩) ws.length cap, .string sep] w fun e w' => e = .returned (.string (joinB ws sep)) ∧ Below w.heap.size w w' :=
  join_call bk 0 cap ws sep w hcells hbk (by omega) hcap hlen
end Go.Proofs.YtkikceoccmoanaaGreatDoor
