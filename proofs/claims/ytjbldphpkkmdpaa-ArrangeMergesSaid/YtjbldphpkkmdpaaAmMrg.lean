-- %cpt
-- %hmode
/- slices.CompactFunc on a slice of the caller's own. -/
import Derived.Test.YtjbldphpkkmdpaaAmZ
import Derived.Test.YtjbldphpkkmdpaaAmY
import Derived.Test.YtjbldphpkkmdpaaAmHp
import Derived.Test.YtjbldphpkkmdpaaAmStrm
import Derived.Test.YtjbldphpkkmdpaaAmH
import Derived.Test.YtjbldphpkkmdpaaAmSorted
namespace Go.Proofs.Ytjbldphpkkmdpaa
open Go.RowKit
set_option linter.unusedSimpArgs false
set_option linter.unusedVariables false
set_option maxRecDepth 100000
-- AmZ AmY

section
variable {c : Cx} {s : S} {o : Oper}
/-- From element j on. -/
theorem rd_slice_from {t e : TypeId} {x y : Operand} {r sz n j bt : Nat} {z : Value} {n' : Int} {kd : IntKind} (hu : c.P.underlying t = some (.slice e)) (hi : Inf c.P e sz bt z) (ho : o.op = .slice t x (some y) none none) (hx : s.ev x = some (.own r sz n false)) (hy : s.ev y = some (.d (.p (.int kd n')))) (hk : n' = (j : Int)) (hle : j ≤ n) : RD c o s (.que r sz j (n - j)) := fun g a w hs => by
 subst hk
 have h := hs.ev hx
 have hyv := VRep.p_eq (hs.ev hy)
 generalize hxx : a.eval x = u at h
 cases h with
 | own _ _ _ hn hcap =>
  refine ⟨.slice (if (g r).2 = j then some ⟨(g r).1, 0, none⟩ else (some (⟨(g r).1, 0, none⟩ : Addr)).map (·.add (j * sz))) (n - j) ((g r).2 - j), .que r sz j (n - j) _ _ (by omega) (by omega) fun h0 => ?_, fun w' _ => ?_⟩
  ·rw [if_neg (by omega)]
   exact ⟨by simp [Addr.add]; exact fun h => h.symm, by omega⟩
  ·have h0 : (0 : Int) ≤ (j : Int) ∧ (j : Int) ≤ (n : Int) := by omega
   simp only [execOp, ho, hxx, hyv, Option.map_some, Option.map_none]
   simp only [Instr.sliceAt, Instr.slice, Sem.run_bind, run_underlying hu, Result.andThen_ok, Instr.sliceBounds, run_sliceBound _ kd _ _ _ h0.1 h0.2, Sem.run_pure, run_sizeOf hi, Int.toNat_natCast]
   rfl
theorem zc_one {z : Value} (h1 : z.cells.all (·.oneCell') = true) (hz : 0 < z.cells.size) (n : Nat) : ∀ v ∈ (Builtin.zeroCells z.cells n).toList, v.oneCell' = true := by
 intro v hv
 simp only [Builtin.zeroCells, Array.toList_map, List.mem_map] at hv
 obtain ⟨i, _, rfl⟩ := hv
 have hlt : i % z.cells.size < z.cells.size := Nat.mod_lt _ hz
 rw [getElem!_pos z.cells _ hlt]
 exact Array.all_eq_true.1 h1 _ hlt
/-- The end of a slice of the call's own is cleared: it is not spoken of any more. -/
theorem st_clear {t e : TypeId} {x : Operand} {r sz k n bt : Nat} {z : Value} {row : Row} (hu : c.P.underlying t = some (.slice e)) (hi : Inf c.P e sz bt z) (hzs : z.cells.size = sz) (hz1 : z.cells.all (·.oneCell') = true)
  (ho : o.op = .call { callee := .builtin .clear, args := #[x], argTypes := #[t] }) (hd : o.dst = none) (hx : s.ev x = some (.que r sz k n)) (hr : fnd s.H r = some row) (hnl : row.nil = false) (hrz : row.sz = sz) (hn0 : 0 < n) (hsz : 0 < sz) :
  Step c o s (fun s' => s' = { s with H := (r, { row with cells := row.cells.take (k * sz) }) :: s.H }) := by
 intro g a w hs K Q hK
 obtain ⟨arr, h1, hsz2, h2⟩ := hs.obj r row hr hnl
 have hsz2 := hsz2 (by omega)
 rw [hrz] at hsz2
 have h := hs.ev hx
 generalize hxx : a.eval x = u at h
 cases h with
 | que _ _ _ _ ad cap hn hcap h =>
  obtain ⟨rfl, hc2⟩ := h (by omega)
  have hcl : (Builtin.zeroCells z.cells n).toList.length = n * sz := by simp [Builtin.zeroCells, hzs]
  have hle : (k + n) * sz ≤ (g r).2 * sz := Nat.mul_le_mul_right _ (by omega)
  rw [Nat.add_mul] at hle
  have hrun := run_storeCells_at c.P (g r).1 (k * sz) row.ty (Builtin.zeroCells z.cells n).toList 0 arr w h1 (by omega) (zc_one hz1 (by omega) n)
  obtain ⟨m, rfl⟩ : ∃ m, n = m + 1 := ⟨n - 1, by omega⟩
  unfold Oper.wp
  have hexec : (execOp a.eval o).run c.P w = .ok (.value (.tuple #[])) (w.setRow (g r).1 (arr.toList.take (k * sz + 0) ++ (Builtin.zeroCells z.cells (m + 1)).toList ++ arr.toList.drop (k * sz + 0 + (Builtin.zeroCells z.cells (m + 1)).toList.length)).toArray) := by
   simp only [execOp, ho, resolve, invoke, builtin, Sem.run_bind, Sem.run_pure, Result.andThen_ok, List.map_toArray, List.map_cons, List.map_nil, hxx, Builtin.clear_, run_underlying hu, run_zeroValue hi]
   simp [run_underlying hu, run_zeroValue hi, hrun]
  rw [hexec]
  simp only [Oper.upon, hd, Act.put]
  simp only [Nat.add_zero]
  refine hK g _ a _ rfl (Sim.setRow hs (row' := { row with cells := row.cells.take (k * sz) }) hr hnl rfl hnl rfl (setRow_heap _ _ _ _ _ _ h1) (fun b hb => setRow_other _ _ _ _ hb) (by simp) rfl rfl rfl ?_ ?_)
  ·intro arr0 ty h0
   rw [h1] at h0
   simp only [Option.some.injEq, Obj.cells.injEq, and_true] at h0
   obtain ⟨rfl, _⟩ := h0
   simp only [List.size_toArray, List.length_append, List.length_take, List.length_drop, hcl, Array.length_toList]
   omega
  ·intro j v hv
   simp only at hv
   rw [List.getElem?_take] at hv
   split at hv
   ·rename_i hj
    obtain ⟨y, h3, h4⟩ := h2 j v hv
    refine ⟨y, ?_, h4⟩
    simp only [List.getElem?_toArray]
    rw [List.append_assoc, List.getElem?_append_left (by simp; omega), List.getElem?_take_of_lt hj]
    simpa using h3
   ·cases hv
end

theorem am_alk (x p : Ar) (b : Bool) (h : alk x p = b) (hx : okA x) (hp : okA p) : Fn Try.prog 46 [.agg (arV4 x), .agg (arV4 p)] (fun v => v = .b b) := by
 subst h
 obtain ⟨xi, xo, xw, xt⟩ := x
 obtain ⟨pi, po, pw, pt⟩ := p
 obtain ⟨⟨h1, h2⟩, ⟨h3, h4⟩, h5, h6⟩ := hx
 obtain ⟨⟨g1, g2⟩, ⟨g3, g4⟩, g5, g6⟩ := hp
 simp only at h1 h2 h3 h4 h5 h6 g1 g2 g3 g4 g5 g6
 have hb : alk ⟨xi, xo, xw, xt⟩ ⟨pi, po, pw, pt⟩ = decide (orI [xi - pi, xo - po, xt - pt] = 0) := by
  rw [alk, Bool.eq_iff_iff, decide_eq_true_iff, decide_eq_true_iff]
  simp only [orI]
  constructor
  ·rintro ⟨rfl, rfl, rfl⟩; simp
  ·intro h
   split at h
   ·split at h
    ·split at h
     ·omega
     ·omega
    ·omega
   ·omega
 rw [hb]
 refine Fn.intro (n := 23) ⟨Try.func46, rfl, rfl, rfl, rfl⟩ (by simp [V.pure, V.has, V.hasL]) (by simp) fun w0 out => ?_
 refine AW.seq ?_
 refine AW.region ?_
 refine AL.sm rfl (sm_box 2 rfl rfl rfl (by first | rfl | simp [S.clean, S.put, S.newObj, S.forget, V.has, V.hasL, junkIf, setL, V.cs, hasL_i, hasL_b, hasL_s, hasL_n, hasL_rep, hasL_flat, hasL_append, -List.map_set]) rfl) ?_
 refine AL.sm rfl (sm_box 3 rfl rfl rfl (by first | rfl | simp [S.clean, S.put, S.newObj, S.forget, V.has, V.hasL, junkIf, setL, V.cs, hasL_i, hasL_b, hasL_s, hasL_n, hasL_rep, hasL_flat, hasL_append, -List.map_set]) rfl) ?_
 refine AL.rp rfl rfl (rp_assign rfl rfl) ?_
 refine AL.nil ?_
 try simp only [thenS, S.put, S.newObj, setL, V.cs, List.length_cons, List.length_nil, List.take_succ_cons, List.take_zero, List.drop_succ_cons, List.drop_zero, List.drop_nil, List.nil_append, List.cons_append, List.append_nil, Nat.zero_add, Nat.reduceAdd, List.map_cons, List.map_nil, List.set_cons_zero, List.set_cons_succ, enum]
 refine AW.seq ?_
 refine AW.region ?_
 (first | (refine AL.rp rfl rfl (rp_field_ref Try.underlying56 rfl rfl rfl inf3 (by decide) rfl) ?_) | (refine AL.rp rfl rfl (rp_field_ad Try.underlying56 rfl rfl rfl inf3 (by decide) rfl) ?_))
 (first | (refine AL.rd rfl rfl (rd_load_ref Try.underlying3 rfl rfl rfl rfl rfl rfl) ?_) | (refine AL.rd rfl rfl (rd_load_ad Try.underlying3 rfl rfl rfl rfl) ?_) | (refine AL.rd rfl rfl (rd_load_map Try.underlying3 rfl rfl rfl rfl rfl rfl (by assumption)) ?_) | (refine AL.rd rfl rfl (rd_load_flat Try.underlying3 rfl rfl rfl rfl rfl rfl (fun _ => rfl) (by assumption) rfl) ?_))
 (first | (refine AL.rp rfl rfl (rp_field_ref Try.underlying56 rfl rfl rfl inf3 (by decide) rfl) ?_) | (refine AL.rp rfl rfl (rp_field_ad Try.underlying56 rfl rfl rfl inf3 (by decide) rfl) ?_))
 (first | (refine AL.rd rfl rfl (rd_load_ref Try.underlying3 rfl rfl rfl rfl rfl rfl) ?_) | (refine AL.rd rfl rfl (rd_load_ad Try.underlying3 rfl rfl rfl rfl) ?_) | (refine AL.rd rfl rfl (rd_load_map Try.underlying3 rfl rfl rfl rfl rfl rfl (by assumption)) ?_) | (refine AL.rd rfl rfl (rd_load_flat Try.underlying3 rfl rfl rfl rfl rfl rfl (fun _ => rfl) (by assumption) rfl) ?_))
 refine AL.rp rfl rfl (rp_sub rfl rfl rfl (by first | omega | (dsimp only; omega))) ?_
 (first | (refine AL.rp rfl rfl (rp_field_ref Try.underlying56 rfl rfl rfl inf3 (by decide) rfl) ?_) | (refine AL.rp rfl rfl (rp_field_ad Try.underlying56 rfl rfl rfl inf3 (by decide) rfl) ?_))
 (first | (refine AL.rd rfl rfl (rd_load_ref Try.underlying3 rfl rfl rfl rfl rfl rfl) ?_) | (refine AL.rd rfl rfl (rd_load_ad Try.underlying3 rfl rfl rfl rfl) ?_) | (refine AL.rd rfl rfl (rd_load_map Try.underlying3 rfl rfl rfl rfl rfl rfl (by assumption)) ?_) | (refine AL.rd rfl rfl (rd_load_flat Try.underlying3 rfl rfl rfl rfl rfl rfl (fun _ => rfl) (by assumption) rfl) ?_))
 (first | (refine AL.rp rfl rfl (rp_field_ref Try.underlying56 rfl rfl rfl inf3 (by decide) rfl) ?_) | (refine AL.rp rfl rfl (rp_field_ad Try.underlying56 rfl rfl rfl inf3 (by decide) rfl) ?_))
 (first | (refine AL.rd rfl rfl (rd_load_ref Try.underlying3 rfl rfl rfl rfl rfl rfl) ?_) | (refine AL.rd rfl rfl (rd_load_ad Try.underlying3 rfl rfl rfl rfl) ?_) | (refine AL.rd rfl rfl (rd_load_map Try.underlying3 rfl rfl rfl rfl rfl rfl (by assumption)) ?_) | (refine AL.rd rfl rfl (rd_load_flat Try.underlying3 rfl rfl rfl rfl rfl rfl (fun _ => rfl) (by assumption) rfl) ?_))
 refine AL.rp rfl rfl (rp_sub rfl rfl rfl (by first | omega | (dsimp only; omega))) ?_
 (first | (refine AL.rp rfl rfl (rp_field_ref Try.underlying56 rfl rfl rfl inf3 (by decide) rfl) ?_) | (refine AL.rp rfl rfl (rp_field_ad Try.underlying56 rfl rfl rfl inf3 (by decide) rfl) ?_))
 (first | (refine AL.rd rfl rfl (rd_load_ref Try.underlying3 rfl rfl rfl rfl rfl rfl) ?_) | (refine AL.rd rfl rfl (rd_load_ad Try.underlying3 rfl rfl rfl rfl) ?_) | (refine AL.rd rfl rfl (rd_load_map Try.underlying3 rfl rfl rfl rfl rfl rfl (by assumption)) ?_) | (refine AL.rd rfl rfl (rd_load_flat Try.underlying3 rfl rfl rfl rfl rfl rfl (fun _ => rfl) (by assumption) rfl) ?_))
 (first | (refine AL.rp rfl rfl (rp_field_ref Try.underlying56 rfl rfl rfl inf3 (by decide) rfl) ?_) | (refine AL.rp rfl rfl (rp_field_ad Try.underlying56 rfl rfl rfl inf3 (by decide) rfl) ?_))
 (first | (refine AL.rd rfl rfl (rd_load_ref Try.underlying3 rfl rfl rfl rfl rfl rfl) ?_) | (refine AL.rd rfl rfl (rd_load_ad Try.underlying3 rfl rfl rfl rfl) ?_) | (refine AL.rd rfl rfl (rd_load_map Try.underlying3 rfl rfl rfl rfl rfl rfl (by assumption)) ?_) | (refine AL.rd rfl rfl (rd_load_flat Try.underlying3 rfl rfl rfl rfl rfl rfl (fun _ => rfl) (by assumption) rfl) ?_))
 refine AL.rp rfl rfl (rp_sub rfl rfl rfl (by first | omega | (dsimp only; omega))) ?_
 refine AL.sm rfl (sm_slice (vs := [(0, _), (1, _), (2, _)]) (zs := [.d (.p (.int .i64 0)), .d (.p (.int .i64 0)), .d (.p (.int .i64 0))]) 20 Try.underlying40 inf3 rfl rfl (by decide) (by decide) (by decide) rfl rfl rfl rfl (by first | rfl | simp [S.clean, S.put, S.newObj, S.forget, V.has, V.hasL, junkIf, setL, V.cs, hasL_i, hasL_b, hasL_s, hasL_n, hasL_rep, hasL_flat, hasL_append, -List.map_set]) (by first | rfl | simp [S.clean, S.put, S.newObj, S.forget, V.has, V.hasL, junkIf, setL, V.cs, hasL_i, hasL_b, hasL_s, hasL_n, hasL_rep, hasL_flat, hasL_append, -List.map_set]) rfl) ?_
 refine AL.call (post := ?pc10) rfl (sm_callr (args := ?ac10) (us := [_]) ?hc10 ?qc10 ⟨Try.func47, rfl, rfl, rfl, rfl⟩ rfl rfl rfl ?rc10 rfl) ?_
 case hc10 => exact am_Or [xi - pi, xo - po, xt - pt]
 case qc10 => (intro v hv; first | (subst hv; first | trivial | (simp [V.plain]; done)) | (obtain ⟨_, rfl, _⟩ := hv; first | trivial | (simp [V.plain]; done)))
 case rc10 => exact .cons (.own 20 1 3 8 false _ ([xi - pi, xo - po, xt - pt].map fun x => [D.p (.int .i64 x)]) rfl rfl rfl (by decide) (rows1 (f := fun x => D.p (.int .i64 x)) (by simp [setL, V.cs]))) .nil
 rintro _ rfl -
 try dsimp only
 (first | (refine AL.rp rfl rfl (rp_eqlT rfl rfl rfl (by first | assumption | omega | (dsimp only; omega))) ?_) | (refine AL.rp rfl rfl (rp_eqlF rfl rfl rfl (by first | assumption | omega | (dsimp only; omega))) ?_) | (refine AL.rp rfl rfl (rp_eql rfl rfl rfl) ?_))
 refine AL.rp rfl rfl (rp_assign rfl rfl) ?_
 refine AL.nil ?_
 try simp only [thenS, S.put, S.newObj, setL, V.cs, List.length_cons, List.length_nil, List.take_succ_cons, List.take_zero, List.drop_succ_cons, List.drop_zero, List.drop_nil, List.nil_append, List.cons_append, List.append_nil, Nat.zero_add, Nat.reduceAdd, List.map_cons, List.map_nil, List.set_cons_zero, List.set_cons_succ]
 refine AW.ret ?_
 exact ⟨[_], ⟨rfl, trivial⟩, rfl, by simp [tupOf, V.pure, V.has]⟩
set_option maxHeartbeats 1000000 in
theorem am_Compact (l : List Ar) (n : Nat) (hn : l.length = n) (hn4 : n ≤ 400) (hok : ∀ y ∈ l, okA y) (fl : Bool) (hfl : fl = true → n = 0) : PC Try.prog 45 [.own 900 4 n fl, .fn 46 []] [(900, ⟨56, l.flatMap arV4, fl, 4⟩)] [] (fun v H K => v = .own 900 4 (lst l).length fl ∧ H = [(900, ⟨56, (lst l).flatMap arV4, fl, 4⟩)] ∧ K = []) := by
 refine PC.intro (n := 66) ⟨Try.func45, rfl, rfl, rfl, rfl⟩ (by simp) fun w0 out kx => ?_
 by_cases h2 : n < 2
 ·rw [lst_short (by omega), hn]
  refine AW.seq ?_
  refine AW.region ?_
  refine AL.rp rfl rfl (rp_assign rfl rfl) ?_
  refine AL.nil ?_
  try simp only [thenS, S.put, enum, List.nil_append, List.cons_append, List.append_nil, Nat.zero_add, Nat.reduceAdd]
  refine AW.seq ?_
  refine AW.seq ?_
  refine AW.region ?_
  refine AL.rp rfl rfl (rp_move rfl rfl) ?_
  (first | (refine AL.rp rfl rfl (rp_len_map Try.underlying50 rfl rfl (by assumption)) ?_) | (refine AL.rp rfl rfl (rp_len_own Try.underlying50 rfl rfl) ?_) | (refine AL.rp rfl rfl (rp_len_sl Try.underlying50 rfl rfl) ?_) | (refine AL.rp rfl rfl (rp_len_nil Try.underlying50 rfl rfl) ?_) | (refine AL.rp rfl rfl (rp_len_str Try.underlying50 rfl rfl) ?_) | (refine AL.rp rfl rfl (rp_len_que Try.underlying50 rfl rfl) ?_))
  (first | (refine AL.rp rfl rfl (rp_lssT rfl rfl rfl (by first | assumption | omega | (dsimp only; omega))) ?_) | (refine AL.rp rfl rfl (rp_lssF rfl rfl rfl (by first | assumption | omega | (dsimp only; omega))) ?_) | (refine AL.rp rfl rfl (rp_lss rfl rfl rfl) ?_))
  refine AL.nil ?_
  try simp only [thenS, S.put]
  refine AW.condT rfl ?_
  refine AW.seq ?_
  refine AW.region ?_
  refine AL.rp rfl rfl (rp_move rfl rfl) ?_
  refine AL.rp rfl rfl (rp_assign rfl rfl) ?_
  refine AL.nil ?_
  try simp only [thenS, S.put]
  refine AW.ret ?_
  exact ⟨[_], ⟨rfl, trivial⟩, rfl, rfl, rfl⟩
 ·obtain rfl : fl = false := by
   cases fl with
   | false => rfl
   | true => have := hfl rfl; omega
  have hcells := enc_len l
  refine AW.seq ?_
  refine AW.region ?_
  refine AL.rp rfl rfl (rp_assign rfl rfl) ?_
  refine AL.nil ?_
  try simp only [thenS, S.put, enum, List.nil_append, List.cons_append, List.append_nil, Nat.zero_add, Nat.reduceAdd]
  refine AW.seq ?_
  refine AW.seq ?_
  refine AW.region ?_
  refine AL.rp rfl rfl (rp_move rfl rfl) ?_
  (first | (refine AL.rp rfl rfl (rp_len_map Try.underlying50 rfl rfl (by assumption)) ?_) | (refine AL.rp rfl rfl (rp_len_own Try.underlying50 rfl rfl) ?_) | (refine AL.rp rfl rfl (rp_len_sl Try.underlying50 rfl rfl) ?_) | (refine AL.rp rfl rfl (rp_len_nil Try.underlying50 rfl rfl) ?_) | (refine AL.rp rfl rfl (rp_len_str Try.underlying50 rfl rfl) ?_) | (refine AL.rp rfl rfl (rp_len_que Try.underlying50 rfl rfl) ?_))
  (first | (refine AL.rp rfl rfl (rp_lssT rfl rfl rfl (by first | assumption | omega | (dsimp only; omega))) ?_) | (refine AL.rp rfl rfl (rp_lssF rfl rfl rfl (by first | assumption | omega | (dsimp only; omega))) ?_) | (refine AL.rp rfl rfl (rp_lss rfl rfl rfl) ?_))
  refine AL.nil ?_
  try simp only [thenS, S.put]
  refine AW.condF rfl ?_
  refine AW.skip ?_
  try simp only [thenS]
  refine AW.seq ?_
  refine AW.seq ?_
  refine AW.region ?_
  refine AL.rp rfl rfl (rp_assign rfl rfl) ?_
  refine AL.nil ?_
  try simp only [thenS, S.put]
  refine AW.block ?_
  refine AW.loop (fun s' => ∃ (k : Nat), 1 ≤ k ∧ k ≤ n ∧ lst (l.take k) = l.take k ∧ s' = ⟨66, [(0, .own 900 4 n false), (1, .fn 46 []), (5, .i k)], [(900, ⟨56, l.flatMap arV4, false, 4⟩)], []⟩) (fun s' => n - s'.nat 5) ⟨_, ?_, 1, by omega, by omega, lst_short (by rw [List.length_take]; omega), rfl⟩ ?_
  ·exact (Less.of rfl (by repeat (first | exact trivial | refine ⟨⟨_, rfl, Wk.refl _⟩, ?_⟩ | refine ⟨⟨_, rfl, Wk.nil _ _⟩, ?_⟩ | refine ⟨⟨_, rfl, Wk.junk _⟩, ?_⟩)) (by repeat (first | exact trivial | refine ⟨rfl, ?_⟩)) rfl)
  rintro s' ⟨k, hk1, hk, hlk, rfl⟩
  by_cases hlt : k < n
  ·obtain ⟨x, hx⟩ := get_lt hn hlt
   obtain ⟨p, hp⟩ := get_lt hn (show k - 1 < n by omega)
   have hxo := hok x (List.mem_of_getElem? hx)
   have hpo := hok p (List.mem_of_getElem? hp)
   have hsn := lst_snoc (l := l) (i := k - 1) (x := x) (p := p) (by rw [show k - 1 + 1 = k by omega]; exact hx) hp
   rw [show k - 1 + 2 = k + 1 by omega, show k - 1 + 1 = k by omega] at hsn
   have htk := take_snoc hx
   cases hc : alk x p with
   | false =>
    rw [hc] at hsn
    refine AW.seq ?_
    refine AW.seq ?_
    refine AW.region ?_
    refine AL.rp rfl rfl (rp_move rfl rfl) ?_
    refine AL.rp rfl rfl (rp_move rfl rfl) ?_
    (first | (refine AL.rp rfl rfl (rp_len_map Try.underlying50 rfl rfl (by assumption)) ?_) | (refine AL.rp rfl rfl (rp_len_own Try.underlying50 rfl rfl) ?_) | (refine AL.rp rfl rfl (rp_len_sl Try.underlying50 rfl rfl) ?_) | (refine AL.rp rfl rfl (rp_len_nil Try.underlying50 rfl rfl) ?_) | (refine AL.rp rfl rfl (rp_len_str Try.underlying50 rfl rfl) ?_) | (refine AL.rp rfl rfl (rp_len_que Try.underlying50 rfl rfl) ?_))
    (first | (refine AL.rp rfl rfl (rp_lssT rfl rfl rfl (by first | assumption | omega | (dsimp only; omega))) ?_) | (refine AL.rp rfl rfl (rp_lssF rfl rfl rfl (by first | assumption | omega | (dsimp only; omega))) ?_) | (refine AL.rp rfl rfl (rp_lss rfl rfl rfl) ?_))
    refine AL.nil ?_
    try simp only [thenS, S.put]
    refine AW.condT rfl ?_
    refine AW.skip ?_
    try simp only [thenS]
    refine AW.seq ?_
    refine AW.block ?_
    refine AW.seq ?_
    refine AW.draw [(0, true), (1, true), (2, true), (3, true), (4, true), (5, true), (6, true), (7, true), (8, true), (9, true), (10, false)] (fun i => !([] : List Nat).contains i) 11 (by kernel_rfl) (by kernel_rfl) rfl (by kernel_rfl) ?_
    refine AD1.rp rfl rfl rfl (fun _ _ h => h) (rp_move rfl rfl) ?_
    refine AD1.rp rfl rfl rfl (fun _ _ h => h) (rp_move rfl rfl) ?_
    refine AD1.rp rfl rfl rfl (fun _ _ h => h) (rp_move rfl rfl) ?_
    (first | (refine AD1.rp rfl rfl rfl (fun _ _ h => h) (rp_index_map Try.underlying50 inf56 rfl rfl rfl rfl (by assumption)) ?_) | (refine AD1.rp rfl rfl rfl (fun _ _ h => h) (rp_index_own Try.underlying50 inf56 rfl rfl rfl rfl (by first | assumption | omega)) ?_) | (refine AD1.rp rfl rfl rfl (fun _ _ h => h) (rd_index_sl Try.underlying50 inf56 rfl rfl rfl rfl (by assumption)) ?_) | (refine AD1.rp rfl rfl rfl (fun _ _ h => h) (rp_index_own Try.underlying50 inf56 rfl rfl rfl (by omega) (by omega)) ?_))
    refine AD1.rd rfl rfl rfl (fun _ _ h => h) (rd_loads_flat Try.underlying56 rfl inf56 rfl rfl rfl rfl rfl (fun _ => rfl) (by assumption)) ?_
    refine AD1.rp rfl rfl rfl (fun _ _ h => h) (rp_move rfl rfl) ?_
    refine AD1.rp rfl rfl rfl (fun _ _ h => h) (rp_move rfl rfl) ?_
    refine AD1.rp rfl rfl rfl (fun _ _ h => h) (rp_sub rfl rfl rfl (by first | omega | (dsimp only; omega))) ?_
    (first | (refine AD1.rp rfl rfl rfl (fun _ _ h => h) (rp_index_que (j := k - 1) Try.underlying50 inf56 rfl rfl rfl (by omega) (by omega)) ?_) | (refine AD1.rp rfl rfl rfl (fun _ _ h => h) (rp_index_own (k := k - 1) Try.underlying50 inf56 rfl rfl rfl (by omega) (by omega)) ?_) | (refine AD1.rp rfl rfl rfl (fun _ _ h => h) (rp_index_map (k := k - 1) Try.underlying50 inf56 rfl rfl rfl (by omega) (by assumption)) ?_))
    refine AD1.rd rfl rfl rfl (fun _ _ h => h) (rd_loads_flat Try.underlying56 rfl inf56 rfl rfl rfl rfl rfl (fun _ => rfl) (by assumption)) ?_
    refine AD1.go ?_
    refine AD2.call (post := ?pc11) rfl rfl (sm_callv (args := [_, _]) ?hc11 ⟨Try.func46, rfl, rfl, rfl, rfl⟩ rfl rfl rfl rfl) ?_
    case hc11 => exact am_alk x p _ hc hxo hpo
    rintro _ rfl -
    try dsimp only
    refine AD2.nil ?_
    try simp only [thenS, S.put, S.newObj, setL, V.cs, List.length_cons, List.length_nil, List.take_succ_cons, List.take_zero, List.drop_succ_cons, List.drop_zero, List.drop_nil, List.nil_append, List.cons_append, List.append_nil, Nat.zero_add, Nat.reduceAdd, List.map_cons, List.map_nil, List.set_cons_zero, List.set_cons_succ]
    refine AW.condF rfl ?_
    refine AW.skip ?_
    try simp only [thenS]
    refine AW.region ?_
    refine AL.rp rfl rfl (rp_move rfl rfl) ?_
    refine AL.rp rfl rfl (rp_add rfl rfl rfl (by first | omega | (dsimp only; omega))) ?_
    refine AL.rp rfl rfl (rp_assign rfl rfl) ?_
    refine AL.nil ?_
    try simp only [thenS, S.put]
    refine ⟨_, ?_, ⟨k + 1, by omega, by omega, by rw [hsn, hlk, htk]; rfl, rfl⟩, ?_⟩
    ·exact (Less.of rfl (by repeat (first | exact trivial | refine ⟨⟨_, rfl, Wk.refl _⟩, ?_⟩ | refine ⟨⟨_, rfl, Wk.nil _ _⟩, ?_⟩ | refine ⟨⟨_, rfl, Wk.junk _⟩, ?_⟩)) (by repeat (first | exact trivial | refine ⟨rfl, ?_⟩)) rfl)
    ·simp [S.nat, fnd]; omega
   | true =>
    rw [hc] at hsn
    have hsn1 : lst (l.take (k + 1)) = l.take k := by rw [hsn, hlk]; simp
    clear hsn htk
    refine AW.seq ?_
    refine AW.seq ?_
    refine AW.region ?_
    refine AL.rp rfl rfl (rp_move rfl rfl) ?_
    refine AL.rp rfl rfl (rp_move rfl rfl) ?_
    (first | (refine AL.rp rfl rfl (rp_len_map Try.underlying50 rfl rfl (by assumption)) ?_) | (refine AL.rp rfl rfl (rp_len_own Try.underlying50 rfl rfl) ?_) | (refine AL.rp rfl rfl (rp_len_sl Try.underlying50 rfl rfl) ?_) | (refine AL.rp rfl rfl (rp_len_nil Try.underlying50 rfl rfl) ?_) | (refine AL.rp rfl rfl (rp_len_str Try.underlying50 rfl rfl) ?_) | (refine AL.rp rfl rfl (rp_len_que Try.underlying50 rfl rfl) ?_))
    (first | (refine AL.rp rfl rfl (rp_lssT rfl rfl rfl (by first | assumption | omega | (dsimp only; omega))) ?_) | (refine AL.rp rfl rfl (rp_lssF rfl rfl rfl (by first | assumption | omega | (dsimp only; omega))) ?_) | (refine AL.rp rfl rfl (rp_lss rfl rfl rfl) ?_))
    refine AL.nil ?_
    try simp only [thenS, S.put]
    refine AW.condT rfl ?_
    refine AW.skip ?_
    try simp only [thenS]
    refine AW.seq ?_
    refine AW.block ?_
    refine AW.seq ?_
    refine AW.draw [(0, true), (1, true), (2, true), (3, true), (4, true), (5, true), (6, true), (7, true), (8, true), (9, true), (10, false)] (fun i => !([] : List Nat).contains i) 11 (by kernel_rfl) (by kernel_rfl) rfl (by kernel_rfl) ?_
    refine AD1.rp rfl rfl rfl (fun _ _ h => h) (rp_move rfl rfl) ?_
    refine AD1.rp rfl rfl rfl (fun _ _ h => h) (rp_move rfl rfl) ?_
    refine AD1.rp rfl rfl rfl (fun _ _ h => h) (rp_move rfl rfl) ?_
    (first | (refine AD1.rp rfl rfl rfl (fun _ _ h => h) (rp_index_map Try.underlying50 inf56 rfl rfl rfl rfl (by assumption)) ?_) | (refine AD1.rp rfl rfl rfl (fun _ _ h => h) (rp_index_own Try.underlying50 inf56 rfl rfl rfl rfl (by first | assumption | omega)) ?_) | (refine AD1.rp rfl rfl rfl (fun _ _ h => h) (rd_index_sl Try.underlying50 inf56 rfl rfl rfl rfl (by assumption)) ?_) | (refine AD1.rp rfl rfl rfl (fun _ _ h => h) (rp_index_own Try.underlying50 inf56 rfl rfl rfl (by omega) (by omega)) ?_))
    refine AD1.rd rfl rfl rfl (fun _ _ h => h) (rd_loads_flat Try.underlying56 rfl inf56 rfl rfl rfl rfl rfl (fun _ => rfl) (by assumption)) ?_
    refine AD1.rp rfl rfl rfl (fun _ _ h => h) (rp_move rfl rfl) ?_
    refine AD1.rp rfl rfl rfl (fun _ _ h => h) (rp_move rfl rfl) ?_
    refine AD1.rp rfl rfl rfl (fun _ _ h => h) (rp_sub rfl rfl rfl (by first | omega | (dsimp only; omega))) ?_
    (first | (refine AD1.rp rfl rfl rfl (fun _ _ h => h) (rp_index_que (j := k - 1) Try.underlying50 inf56 rfl rfl rfl (by omega) (by omega)) ?_) | (refine AD1.rp rfl rfl rfl (fun _ _ h => h) (rp_index_own (k := k - 1) Try.underlying50 inf56 rfl rfl rfl (by omega) (by omega)) ?_) | (refine AD1.rp rfl rfl rfl (fun _ _ h => h) (rp_index_map (k := k - 1) Try.underlying50 inf56 rfl rfl rfl (by omega) (by assumption)) ?_))
    refine AD1.rd rfl rfl rfl (fun _ _ h => h) (rd_loads_flat Try.underlying56 rfl inf56 rfl rfl rfl rfl rfl (fun _ => rfl) (by assumption)) ?_
    refine AD1.go ?_
    refine AD2.call (post := ?pc12) rfl rfl (sm_callv (args := [_, _]) ?hc12 ⟨Try.func46, rfl, rfl, rfl, rfl⟩ rfl rfl rfl rfl) ?_
    case hc12 => exact am_alk x p _ hc hxo hpo
    rintro _ rfl -
    try dsimp only
    refine AD2.nil ?_
    try simp only [thenS, S.put, S.newObj, setL, V.cs, List.length_cons, List.length_nil, List.take_succ_cons, List.take_zero, List.drop_succ_cons, List.drop_zero, List.drop_nil, List.nil_append, List.cons_append, List.append_nil, Nat.zero_add, Nat.reduceAdd, List.map_cons, List.map_nil, List.set_cons_zero, List.set_cons_succ]
    refine AW.condT rfl ?_
    refine AW.seq ?_
    refine AW.region ?_
    refine AL.rp rfl rfl (rp_move rfl rfl) ?_
    refine AL.rp rfl rfl (rp_move rfl rfl) ?_
    (first | (refine AL.rd rfl rfl (rd_slice_que (j := k) Try.underlying50 inf56 rfl rfl rfl (by omega) (by omega)) ?_) | (refine AL.rd rfl rfl (rd_slice_from (j := k) Try.underlying50 inf56 rfl rfl rfl (by omega) (by omega)) ?_))
    refine AL.rp rfl rfl (rp_assign rfl rfl) ?_
    refine AL.nil ?_
    try simp only [thenS, S.put]
    refine AW.seq ?_
    refine AW.seq ?_
    refine AW.region ?_
    refine AL.rp rfl rfl (rp_assign rfl rfl) ?_
    refine AL.nil ?_
    try simp only [thenS, S.put]
    refine AW.block ?_
    refine AW.loop (fun s' => ∃ (K j : Nat) (A : List Ar), 1 ≤ j ∧ k + j ≤ n ∧ K + 1 ≤ k + j ∧ A.length = n ∧ A.take K = lst (l.take (k + j)) ∧ (∀ i, k + j ≤ i + 1 → A[i]? = l[i]?) ∧ s' = ⟨66, [(0, .own 900 4 n false), (1, .fn 46 []), (5, .i K), (6, .que 900 4 k (n - k)), (7, .i j)], [(900, ⟨56, A.flatMap arV4, false, 4⟩)], []⟩) (fun s' => n - s'.nat 7) ⟨_, ?_, k, 1, l, by omega, by omega, by omega, hn, hsn1.symm, fun _ _ => rfl, rfl⟩ ?_
    ·exact (Less.of rfl (by repeat (first | exact trivial | refine ⟨⟨_, rfl, Wk.refl _⟩, ?_⟩ | refine ⟨⟨_, rfl, Wk.nil _ _⟩, ?_⟩ | refine ⟨⟨_, rfl, Wk.junk _⟩, ?_⟩)) (by repeat (first | exact trivial | refine ⟨rfl, ?_⟩)) rfl)
    clear hc hxo hpo hx hp hsn1 hlk
    rintro s' ⟨K, j, A, hj1, hjn, hKj, hAl, hAt, eg, rfl⟩
    by_cases hlt2 : k + j < n
    ·obtain ⟨y, hy⟩ := get_lt hn hlt2
     obtain ⟨q, hq⟩ := get_lt hn (show k + (j - 1) < n by omega)
     have hyA : A[k + j]? = some y := (eg _ (by omega)).trans hy
     have hqA : A[k + (j - 1)]? = some q := (eg _ (by omega)).trans hq
     have hyo := hok y (List.mem_of_getElem? hy)
     have hqo := hok q (List.mem_of_getElem? hq)
     have hsn := lst_snoc (l := l) (i := k + (j - 1)) (x := y) (p := q) (by rw [show k + (j - 1) + 1 = k + j by omega]; exact hy) hq
     rw [show k + (j - 1) + 2 = k + (j + 1) by omega, show k + (j - 1) + 1 = k + j by omega] at hsn
     cases hc : alk y q with
     | true =>
      rw [hc] at hsn
      refine AW.seq ?_
      refine AW.seq ?_
      refine AW.region ?_
      refine AL.rp rfl rfl (rp_move rfl rfl) ?_
      refine AL.rp rfl rfl (rp_move rfl rfl) ?_
      (first | (refine AL.rp rfl rfl (rp_len_map Try.underlying50 rfl rfl (by assumption)) ?_) | (refine AL.rp rfl rfl (rp_len_own Try.underlying50 rfl rfl) ?_) | (refine AL.rp rfl rfl (rp_len_sl Try.underlying50 rfl rfl) ?_) | (refine AL.rp rfl rfl (rp_len_nil Try.underlying50 rfl rfl) ?_) | (refine AL.rp rfl rfl (rp_len_str Try.underlying50 rfl rfl) ?_) | (refine AL.rp rfl rfl (rp_len_que Try.underlying50 rfl rfl) ?_))
      (first | (refine AL.rp rfl rfl (rp_lssT rfl rfl rfl (by first | assumption | omega | (dsimp only; omega))) ?_) | (refine AL.rp rfl rfl (rp_lssF rfl rfl rfl (by first | assumption | omega | (dsimp only; omega))) ?_) | (refine AL.rp rfl rfl (rp_lss rfl rfl rfl) ?_))
      refine AL.nil ?_
      try simp only [thenS, S.put]
      refine AW.condT rfl ?_
      refine AW.skip ?_
      try simp only [thenS]
      refine AW.seq ?_
      refine AW.block ?_
      refine AW.seq ?_
      refine AW.draw [(0, true), (1, true), (2, true), (3, true), (4, true), (5, true), (6, true), (7, true), (8, true), (9, true), (10, false), (11, false)] (fun i => !([] : List Nat).contains i) 12 (by kernel_rfl) (by kernel_rfl) rfl (by kernel_rfl) ?_
      refine AD1.rp rfl rfl rfl (fun _ _ h => h) (rp_move rfl rfl) ?_
      refine AD1.rp rfl rfl rfl (fun _ _ h => h) (rp_move rfl rfl) ?_
      refine AD1.rp rfl rfl rfl (fun _ _ h => h) (rp_move rfl rfl) ?_
      (first | (refine AD1.rp rfl rfl rfl (fun _ _ h => h) (rp_index_que (j := j) Try.underlying50 inf56 rfl rfl rfl (by omega) (by omega)) ?_) | (refine AD1.rp rfl rfl rfl (fun _ _ h => h) (rp_index_own (k := j) Try.underlying50 inf56 rfl rfl rfl (by omega) (by omega)) ?_) | (refine AD1.rp rfl rfl rfl (fun _ _ h => h) (rp_index_map (k := j) Try.underlying50 inf56 rfl rfl rfl (by omega) (by assumption)) ?_))
      refine AD1.rd rfl rfl rfl (fun _ _ h => h) (rd_loads_flat Try.underlying56 rfl inf56 rfl rfl rfl rfl rfl (fun _ => rfl) (by assumption)) ?_
      refine AD1.rp rfl rfl rfl (fun _ _ h => h) (rp_move rfl rfl) ?_
      refine AD1.rp rfl rfl rfl (fun _ _ h => h) (rp_move rfl rfl) ?_
      refine AD1.rp rfl rfl rfl (fun _ _ h => h) (rp_sub rfl rfl rfl (by first | omega | (dsimp only; omega))) ?_
      (first | (refine AD1.rp rfl rfl rfl (fun _ _ h => h) (rp_index_que (j := j - 1) Try.underlying50 inf56 rfl rfl rfl (by omega) (by omega)) ?_) | (refine AD1.rp rfl rfl rfl (fun _ _ h => h) (rp_index_own (k := j - 1) Try.underlying50 inf56 rfl rfl rfl (by omega) (by omega)) ?_) | (refine AD1.rp rfl rfl rfl (fun _ _ h => h) (rp_index_map (k := j - 1) Try.underlying50 inf56 rfl rfl rfl (by omega) (by assumption)) ?_))
      refine AD1.rd rfl rfl rfl (fun _ _ h => h) (rd_loads_flat Try.underlying56 rfl inf56 rfl rfl rfl rfl rfl (fun _ => rfl) (by assumption)) ?_
      refine AD1.go ?_
      refine AD2.call (post := ?pc13) rfl rfl (sm_callv (args := [_, _]) ?hc13 ⟨Try.func46, rfl, rfl, rfl, rfl⟩ rfl rfl rfl rfl) ?_
      case hc13 => exact am_alk y q _ hc hyo hqo
      rintro _ rfl -
      try dsimp only
      refine AD2.rp1 rfl rfl rfl (rp_not rfl rfl) ?_
      refine AD2.nil ?_
      try simp only [thenS, S.put, S.newObj, setL, V.cs, List.length_cons, List.length_nil, List.take_succ_cons, List.take_zero, List.drop_succ_cons, List.drop_zero, List.drop_nil, List.nil_append, List.cons_append, List.append_nil, Nat.zero_add, Nat.reduceAdd, List.map_cons, List.map_nil, List.set_cons_zero, List.set_cons_succ]
      refine AW.condF rfl ?_
      refine AW.skip ?_
      try simp only [thenS]
      refine AW.region ?_
      refine AL.rp rfl rfl (rp_move rfl rfl) ?_
      refine AL.rp rfl rfl (rp_add rfl rfl rfl (by first | omega | (dsimp only; omega))) ?_
      refine AL.rp rfl rfl (rp_assign rfl rfl) ?_
      refine AL.nil ?_
      try simp only [thenS, S.put]
      refine ⟨_, ?_, ⟨K, j + 1, A, by omega, by omega, by omega, hAl, by rw [hAt, hsn]; simp, fun i hi => eg i (by omega), rfl⟩, ?_⟩
      ·exact (Less.of rfl (by repeat (first | exact trivial | refine ⟨⟨_, rfl, Wk.refl _⟩, ?_⟩ | refine ⟨⟨_, rfl, Wk.nil _ _⟩, ?_⟩ | refine ⟨⟨_, rfl, Wk.junk _⟩, ?_⟩)) (by repeat (first | exact trivial | refine ⟨rfl, ?_⟩)) rfl)
      ·simp [S.nat, fnd]; omega
     | false =>
      rw [hc] at hsn
      have hKl : K < A.length := by omega
      have hset : (A.set K y)[K]? = some y := by simp [hKl]
      have htk : (A.set K y).take (K + 1) = lst (l.take (k + (j + 1))) := by
       rw [take_snoc hset, List.take_set, List.set_eq_of_length_le (by rw [List.length_take]; omega), hAt, hsn]; rfl
      have hsl : (A.set K y).length = n := by rw [List.length_set]; exact hAl
      refine AW.seq ?_
      refine AW.seq ?_
      refine AW.region ?_
      refine AL.rp rfl rfl (rp_move rfl rfl) ?_
      refine AL.rp rfl rfl (rp_move rfl rfl) ?_
      (first | (refine AL.rp rfl rfl (rp_len_map Try.underlying50 rfl rfl (by assumption)) ?_) | (refine AL.rp rfl rfl (rp_len_own Try.underlying50 rfl rfl) ?_) | (refine AL.rp rfl rfl (rp_len_sl Try.underlying50 rfl rfl) ?_) | (refine AL.rp rfl rfl (rp_len_nil Try.underlying50 rfl rfl) ?_) | (refine AL.rp rfl rfl (rp_len_str Try.underlying50 rfl rfl) ?_) | (refine AL.rp rfl rfl (rp_len_que Try.underlying50 rfl rfl) ?_))
      (first | (refine AL.rp rfl rfl (rp_lssT rfl rfl rfl (by first | assumption | omega | (dsimp only; omega))) ?_) | (refine AL.rp rfl rfl (rp_lssF rfl rfl rfl (by first | assumption | omega | (dsimp only; omega))) ?_) | (refine AL.rp rfl rfl (rp_lss rfl rfl rfl) ?_))
      refine AL.nil ?_
      try simp only [thenS, S.put]
      refine AW.condT rfl ?_
      refine AW.skip ?_
      try simp only [thenS]
      refine AW.seq ?_
      refine AW.block ?_
      refine AW.seq ?_
      refine AW.draw [(0, true), (1, true), (2, true), (3, true), (4, true), (5, true), (6, true), (7, true), (8, true), (9, true), (10, false), (11, false)] (fun i => !([] : List Nat).contains i) 12 (by kernel_rfl) (by kernel_rfl) rfl (by kernel_rfl) ?_
      refine AD1.rp rfl rfl rfl (fun _ _ h => h) (rp_move rfl rfl) ?_
      refine AD1.rp rfl rfl rfl (fun _ _ h => h) (rp_move rfl rfl) ?_
      refine AD1.rp rfl rfl rfl (fun _ _ h => h) (rp_move rfl rfl) ?_
      (first | (refine AD1.rp rfl rfl rfl (fun _ _ h => h) (rp_index_que (j := j) Try.underlying50 inf56 rfl rfl rfl (by omega) (by omega)) ?_) | (refine AD1.rp rfl rfl rfl (fun _ _ h => h) (rp_index_own (k := j) Try.underlying50 inf56 rfl rfl rfl (by omega) (by omega)) ?_) | (refine AD1.rp rfl rfl rfl (fun _ _ h => h) (rp_index_map (k := j) Try.underlying50 inf56 rfl rfl rfl (by omega) (by assumption)) ?_))
      refine AD1.rd rfl rfl rfl (fun _ _ h => h) (rd_loads_flat Try.underlying56 rfl inf56 rfl rfl rfl rfl rfl (fun _ => rfl) (by assumption)) ?_
      refine AD1.rp rfl rfl rfl (fun _ _ h => h) (rp_move rfl rfl) ?_
      refine AD1.rp rfl rfl rfl (fun _ _ h => h) (rp_move rfl rfl) ?_
      refine AD1.rp rfl rfl rfl (fun _ _ h => h) (rp_sub rfl rfl rfl (by first | omega | (dsimp only; omega))) ?_
      (first | (refine AD1.rp rfl rfl rfl (fun _ _ h => h) (rp_index_que (j := j - 1) Try.underlying50 inf56 rfl rfl rfl (by omega) (by omega)) ?_) | (refine AD1.rp rfl rfl rfl (fun _ _ h => h) (rp_index_own (k := j - 1) Try.underlying50 inf56 rfl rfl rfl (by omega) (by omega)) ?_) | (refine AD1.rp rfl rfl rfl (fun _ _ h => h) (rp_index_map (k := j - 1) Try.underlying50 inf56 rfl rfl rfl (by omega) (by assumption)) ?_))
      refine AD1.rd rfl rfl rfl (fun _ _ h => h) (rd_loads_flat Try.underlying56 rfl inf56 rfl rfl rfl rfl rfl (fun _ => rfl) (by assumption)) ?_
      refine AD1.go ?_
      refine AD2.call (post := ?pc14) rfl rfl (sm_callv (args := [_, _]) ?hc14 ⟨Try.func46, rfl, rfl, rfl, rfl⟩ rfl rfl rfl rfl) ?_
      case hc14 => exact am_alk y q _ hc hyo hqo
      rintro _ rfl -
      try dsimp only
      refine AD2.rp1 rfl rfl rfl (rp_not rfl rfl) ?_
      refine AD2.nil ?_
      try simp only [thenS, S.put, S.newObj, setL, V.cs, List.length_cons, List.length_nil, List.take_succ_cons, List.take_zero, List.drop_succ_cons, List.drop_zero, List.drop_nil, List.nil_append, List.cons_append, List.append_nil, Nat.zero_add, Nat.reduceAdd, List.map_cons, List.map_nil, List.set_cons_zero, List.set_cons_succ]
      refine AW.condT rfl ?_
      refine AW.seq ?_
      refine AW.region ?_
      refine AL.rp rfl rfl (rp_move rfl rfl) ?_
      refine AL.rp rfl rfl (rp_move rfl rfl) ?_
      refine AL.rp rfl rfl (rp_move rfl rfl) ?_
      refine AL.rp rfl rfl (rp_move rfl rfl) ?_
      (first | (refine AL.rp rfl rfl (rp_index_que (j := j) Try.underlying50 inf56 rfl rfl rfl (by omega) (by omega)) ?_) | (refine AL.rp rfl rfl (rp_index_own (k := j) Try.underlying50 inf56 rfl rfl rfl (by omega) (by omega)) ?_) | (refine AL.rp rfl rfl (rp_index_map (k := j) Try.underlying50 inf56 rfl rfl rfl (by omega) (by assumption)) ?_))
      refine AL.rd rfl rfl (rd_loads_flat Try.underlying56 rfl inf56 rfl rfl rfl rfl rfl (fun _ => rfl) (by assumption)) ?_
      (first | (refine AL.rp rfl rfl (rp_index_map Try.underlying50 inf56 rfl rfl rfl rfl (by assumption)) ?_) | (refine AL.rp rfl rfl (rp_index_own Try.underlying50 inf56 rfl rfl rfl rfl (by first | assumption | omega)) ?_) | (refine AL.rp rfl rfl (rd_index_sl Try.underlying50 inf56 rfl rfl rfl rfl (by assumption)) ?_) | (refine AL.rp rfl rfl (rp_index_own Try.underlying50 inf56 rfl rfl rfl (by omega) (by omega)) ?_))
      refine AL.st rfl (st_stores_flat (y) inf56 rfl rfl rfl rfl rfl rfl rfl (fun _ => rfl) (by first | assumption | omega | (simp; omega)) rfl) ?_
      refine AL.nil ?_
      try simp only [thenS, S.put, S.newObj, setL, V.cs, List.length_cons, List.length_nil, List.take_succ_cons, List.take_zero, List.drop_succ_cons, List.drop_zero, List.drop_nil, List.nil_append, List.cons_append, List.append_nil, Nat.zero_add, Nat.reduceAdd, List.map_cons, List.map_nil, List.set_cons_zero, List.set_cons_succ]
      refine AW.region ?_
      refine AL.rp rfl rfl (rp_move rfl rfl) ?_
      refine AL.rp rfl rfl (rp_add rfl rfl rfl (by first | omega | (dsimp only; omega))) ?_
      refine AL.rp rfl rfl (rp_assign rfl rfl) ?_
      refine AL.nil ?_
      try simp only [thenS, S.put]
      refine AW.region ?_
      refine AL.rp rfl rfl (rp_move rfl rfl) ?_
      refine AL.rp rfl rfl (rp_add rfl rfl rfl (by first | omega | (dsimp only; omega))) ?_
      refine AL.rp rfl rfl (rp_assign rfl rfl) ?_
      refine AL.nil ?_
      try simp only [thenS, S.put]
      refine ⟨_, ?_, ⟨K + 1, j + 1, A.set K y, by omega, by omega, by omega, hsl, htk, fun i hi => by rw [List.getElem?_set_ne (by omega)]; exact eg i (by omega), rfl⟩, ?_⟩
      ·exact (Less.of rfl (by repeat (first | exact trivial | refine ⟨⟨_, rfl, Wk.refl _⟩, ?_⟩ | refine ⟨⟨_, rfl, Wk.nil _ _⟩, ?_⟩ | refine ⟨⟨_, rfl, Wk.junk _⟩, ?_⟩)) (by repeat (first | exact trivial | refine ⟨rfl, ?_⟩)) rfl)
      ·simp [S.nat, fnd]; omega
    ·have hfull : l.take (k + j) = l := List.take_of_length_le (by omega)
     rw [hfull] at hAt
     have hKl : (lst l).length = K := by rw [← hAt, List.length_take]; omega
     have hfl : (A.flatMap arV4).take (K * 4) = (lst l).flatMap arV4 := by
      rw [← hAt]
      have h1 : A.flatMap arV4 = (A.take K).flatMap arV4 ++ (A.drop K).flatMap arV4 := by rw [← List.flatMap_append, List.take_append_drop]
      have h2 : ((A.take K).flatMap arV4).length = K * 4 := by rw [enc_len, List.length_take]; omega
      rw [h1, List.take_append_of_le_length (by omega), List.take_of_length_le (by omega)]
     rw [hKl]
     refine AW.seq ?_
     refine AW.seq ?_
     refine AW.region ?_
     refine AL.rp rfl rfl (rp_move rfl rfl) ?_
     refine AL.rp rfl rfl (rp_move rfl rfl) ?_
     (first | (refine AL.rp rfl rfl (rp_len_map Try.underlying50 rfl rfl (by assumption)) ?_) | (refine AL.rp rfl rfl (rp_len_own Try.underlying50 rfl rfl) ?_) | (refine AL.rp rfl rfl (rp_len_sl Try.underlying50 rfl rfl) ?_) | (refine AL.rp rfl rfl (rp_len_nil Try.underlying50 rfl rfl) ?_) | (refine AL.rp rfl rfl (rp_len_str Try.underlying50 rfl rfl) ?_) | (refine AL.rp rfl rfl (rp_len_que Try.underlying50 rfl rfl) ?_))
     (first | (refine AL.rp rfl rfl (rp_lssT rfl rfl rfl (by first | assumption | omega | (dsimp only; omega))) ?_) | (refine AL.rp rfl rfl (rp_lssF rfl rfl rfl (by first | assumption | omega | (dsimp only; omega))) ?_) | (refine AL.rp rfl rfl (rp_lss rfl rfl rfl) ?_))
     refine AL.nil ?_
     try simp only [thenS, S.put]
     refine AW.condF rfl ?_
     refine AW.exit ?_
     try simp only [thenS, inBlockS, ↓reduceIte, Nat.reduceEqDiff]
     refine AW.seq ?_
     refine AW.region ?_
     refine AL.rp rfl rfl (rp_move rfl rfl) ?_
     refine AL.rp rfl rfl (rp_move rfl rfl) ?_
     (first | (refine AL.rd rfl rfl (rd_slice_que (j := K) Try.underlying50 inf56 rfl rfl rfl (by omega) (by omega)) ?_) | (refine AL.rd rfl rfl (rd_slice_from (j := K) Try.underlying50 inf56 rfl rfl rfl (by omega) (by omega)) ?_))
     refine AL.st rfl (st_clear Try.underlying50 inf56 rfl (by kernel_rfl) rfl rfl rfl rfl rfl rfl (by omega) (by decide)) ?_
     refine AL.nil ?_
     try simp only [thenS, S.put, S.newObj, setL, V.cs, List.length_cons, List.length_nil, List.take_succ_cons, List.take_zero, List.drop_succ_cons, List.drop_zero, List.drop_nil, List.nil_append, List.cons_append, List.append_nil, Nat.zero_add, Nat.reduceAdd, List.map_cons, List.map_nil, List.set_cons_zero, List.set_cons_succ]
     refine AW.seq ?_
     rw [hfl]
     refine AW.less (s' := ⟨66, [(0, .own 900 4 n false), (5, .i K)], [(900, ⟨56, (lst l).flatMap arV4, false, 4⟩)], []⟩) (Less.of rfl (by repeat (first | exact trivial | refine ⟨⟨_, rfl, Wk.refl _⟩, ?_⟩ | refine ⟨⟨_, rfl, Wk.nil _ _⟩, ?_⟩ | refine ⟨⟨_, rfl, Wk.junk _⟩, ?_⟩)) (by repeat (first | exact trivial | refine ⟨rfl, ?_⟩)) rfl) ?_
     refine AW.region ?_
     refine AL.rp rfl rfl (rp_move rfl rfl) ?_
     refine AL.rp rfl rfl (rp_move rfl rfl) ?_
     refine AL.rd rfl rfl (rp_slice_own (k := K) Try.underlying50 inf56 rfl rfl rfl (by first | rfl | omega) (by omega)) ?_
     refine AL.rp rfl rfl (rp_assign rfl rfl) ?_
     refine AL.nil ?_
     try simp only [thenS, S.put]
     refine AW.ret ?_
     exact ⟨[_], ⟨rfl, trivial⟩, rfl, rfl, rfl⟩
  ·rw [List.take_of_length_le (by omega)] at hlk
   rw [hlk, hn]
   refine AW.seq ?_
   refine AW.seq ?_
   refine AW.region ?_
   refine AL.rp rfl rfl (rp_move rfl rfl) ?_
   refine AL.rp rfl rfl (rp_move rfl rfl) ?_
   (first | (refine AL.rp rfl rfl (rp_len_map Try.underlying50 rfl rfl (by assumption)) ?_) | (refine AL.rp rfl rfl (rp_len_own Try.underlying50 rfl rfl) ?_) | (refine AL.rp rfl rfl (rp_len_sl Try.underlying50 rfl rfl) ?_) | (refine AL.rp rfl rfl (rp_len_nil Try.underlying50 rfl rfl) ?_) | (refine AL.rp rfl rfl (rp_len_str Try.underlying50 rfl rfl) ?_) | (refine AL.rp rfl rfl (rp_len_que Try.underlying50 rfl rfl) ?_))
   (first | (refine AL.rp rfl rfl (rp_lssT rfl rfl rfl (by first | assumption | omega | (dsimp only; omega))) ?_) | (refine AL.rp rfl rfl (rp_lssF rfl rfl rfl (by first | assumption | omega | (dsimp only; omega))) ?_) | (refine AL.rp rfl rfl (rp_lss rfl rfl rfl) ?_))
   refine AL.nil ?_
   try simp only [thenS, S.put]
   refine AW.condF rfl ?_
   refine AW.exit ?_
   try simp only [thenS, inBlockS, ↓reduceIte, Nat.reduceEqDiff]
   refine AW.seq ?_
   refine AW.region ?_
   refine AL.rp rfl rfl (rp_move rfl rfl) ?_
   refine AL.rp rfl rfl (rp_assign rfl rfl) ?_
   refine AL.nil ?_
   try simp only [thenS, S.put]
   refine AW.ret ?_
   exact ⟨[_], ⟨rfl, trivial⟩, rfl, rfl, rfl⟩

theorem am_Merged1 (l : List Ar) (hl : l.length ≤ 400) (hok : ∀ y ∈ l, okA y) : Fn2 Try.prog 74 44 [.d (arsD l)] (fun v => v = .d (arsD (inL l))) := by
 refine Fn2.intro (am_CloneA l) ⟨Try.func44, rfl, rfl, rfl, rfl⟩ (by decide) ?_
 rintro v H ⟨fl, hfl, rfl, rfl⟩ w0 out
 have hin := inO_len l
 have hcp := am_Compact (inO l) l.length hin hl (fun y hy => hok y ((inO_perm l).mem_iff.1 hy)) fl hfl
 have hll := lst_len (inO l)
 refine AW.seq ?_
 refine AW.region ?_
 refine AL.rp rfl rfl (rp_assign rfl rfl) ?_
 refine AL.nil ?_
 try simp only [thenS, S.put, enum, List.nil_append, List.cons_append, List.append_nil, Nat.zero_add, Nat.reduceAdd]
 refine AW.seq ?_
 refine AW.region ?_
 refine AL.rp rfl rfl (rp_move rfl rfl) ?_
 refine AL.callo (post := ?pc15) rfl (sm_callo (args := [_]) ?hc15 ⟨Try.func35, rfl, rfl, rfl, rfl⟩ rfl rfl rfl rfl ?fc15) ?_
 case hc15 => exact am_by _
 case fc15 => exact (by rintro _ _ ⟨rfl, rfl⟩; first | rfl | simp [S.clean, S.put, S.newObj, S.forget, V.has, V.hasL, junkIf, setL, V.cs, hasL_i, hasL_b, hasL_s, hasL_n, hasL_rep, hasL_flat, hasL_append])
 rintro _ _ ⟨rfl, rfl⟩
 try dsimp only
 refine AL.st rfl (st_sort ⟨Try.func34, rfl, rfl, rfl, rfl⟩ srtR rfl rfl rfl rfl rfl (by omega) rfl rfl rfl (by decide) rfl ent_by (fun bk W a b hc => by_at readKey_at ent_rk bk a b W hc)) ?_
 try dsimp only
 refine AL.nil ?_
 try simp only [thenS, S.put, S.newObj, setL, V.cs, List.length_cons, List.length_nil, List.take_succ_cons, List.take_zero, List.drop_succ_cons, List.drop_zero, List.drop_nil, List.nil_append, List.cons_append, List.append_nil, Nat.zero_add, Nat.reduceAdd, List.map_cons, List.map_nil, List.set_cons_zero, List.set_cons_succ]
 refine AW.seq ?_
 refine AW.less (s' := ⟨8, [(0, .own 900 4 l.length fl)], [(900, ⟨56, (inO l).flatMap arV4, fl, 4⟩)], []⟩) (Less.of rfl (by repeat (first | exact trivial | refine ⟨⟨_, rfl, Wk.refl _⟩, ?_⟩ | refine ⟨⟨_, rfl, Wk.nil _ _⟩, ?_⟩ | refine ⟨⟨_, rfl, Wk.junk _⟩, ?_⟩)) (by repeat (first | exact trivial | refine ⟨rfl, ?_⟩)) rfl) ?_
 have e : inL l = lst (inO l) := rfl
 rw [e]
 obtain ⟨L, hL⟩ : ∃ L, lst (inO l) = L := ⟨_, rfl⟩
 rw [hL] at hcp hll ⊢
 refine AW.region ?_
 refine AL.rp rfl rfl (rp_move rfl rfl) ?_
 try simp only [S.put, S.newObj, setL, V.cs, List.length_cons, List.length_nil, List.take_succ_cons, List.take_zero, List.drop_succ_cons, List.drop_zero, List.drop_nil, List.nil_append, List.cons_append, List.append_nil, Nat.zero_add, Nat.reduceAdd]
 refine AL.pc [] (ts := []) (args := [_, _]) (post := ?pc16) ?hc16 rfl rfl rfl rfl rfl rfl rfl rfl rfl ?_
 case hc16 => (refine hcp <;> first | rfl | (simp [V.lowL, V.low]; done))
 rintro _ _ _ ⟨rfl, rfl, rfl⟩
 simp only [back, S.put, List.cons_append, List.nil_append, List.zip_cons_cons, List.zip_nil_left, List.drop_succ_cons, List.drop_zero, List.length_cons, List.length_nil, Nat.zero_add, Nat.reduceAdd]
 refine AL.rp rfl rfl (rp_assign rfl rfl) ?_
 refine AL.nil ?_
 try simp only [thenS, S.put]
 refine AW.freeze 2 32 (L.map arD) rfl rfl rfl (by rw [List.length_map]) (by omega) (rowsF (enc := arD) (sz := 4) (l := L) (fun _ => rfl) rfl) ?_
 refine AW.ret ?_
 exact ⟨[_], ⟨rfl, trivial⟩, rfl, by simp [tupOf, V.pure, V.has]⟩
theorem am_Merged (m : Mach) : Fn Try.prog 16 [mV m] (fun v => v = .tup [mV (resM inL m), .i (machE m)]) := by
 have hw := am_with m 44 ⟨Try.func44, rfl, rfl, rfl, rfl⟩ inL am_Merged1
 obtain ⟨M, hM⟩ : ∃ M, resM inL m = M := ⟨_, rfl⟩
 rw [hM] at hw ⊢
 refine Fn.intro (n := 8) ⟨Try.func16, rfl, rfl, rfl, rfl⟩ (by simp [V.pure, V.has, V.hasL]) (by simp) fun w0 out => ?_
 refine AW.seq ?_
 refine AW.region ?_
 refine AL.sm rfl (sm_box 1 rfl rfl rfl (by first | rfl | simp [S.clean, S.put, S.newObj, S.forget, V.has, V.hasL, junkIf, setL, V.cs, hasL_i, hasL_b, hasL_s, hasL_n, hasL_rep, hasL_flat, hasL_append, -List.map_set]) rfl) ?_
 refine AL.sm rfl (sm_alloc (l := [.d (.p (.int .i64 0)), .d (.p (.slice none 0 0))]) 2 inf24 rfl (by first | rfl | simp [S.clean, S.put, S.newObj, S.forget, V.has, V.hasL, junkIf, setL, V.cs, hasL_i, hasL_b, hasL_s, hasL_n, hasL_rep, hasL_flat, hasL_append, -List.map_set]) rfl rfl) ?_
 refine AL.rp rfl rfl (rp_assign rfl rfl) ?_
 refine AL.nil ?_
 try simp only [thenS, S.put, S.newObj, setL, V.cs, List.length_cons, List.length_nil, List.take_succ_cons, List.take_zero, List.drop_succ_cons, List.drop_zero, List.drop_nil, List.nil_append, List.cons_append, List.append_nil, Nat.zero_add, Nat.reduceAdd, List.map_cons, List.map_nil, List.set_cons_zero, List.set_cons_succ, enum]
 refine AW.seq ?_
 refine AW.region ?_
 (first | (refine AL.rd rfl rfl (rd_loads_ref Try.underlying24 rfl inf24 rfl rfl rfl rfl rfl rfl) ?_) | (refine AL.rd rfl rfl (rd_loads_ad Try.underlying24 rfl inf24 rfl rfl rfl rfl) ?_))
 refine AL.call (post := ?pc17) rfl (sm_call (args := [_, _]) ?hc17 ⟨Try.func32, rfl, rfl, rfl, rfl⟩ rfl rfl rfl rfl) ?_
 case hc17 => exact hw
 rintro _ rfl -
 try dsimp only
 refine AL.rp rfl rfl (rp_extract rfl rfl rfl) ?_
 refine AL.rp rfl rfl (rp_extract rfl rfl rfl) ?_
 refine AL.st rfl (st_store_any inf24 rfl rfl rfl rfl rfl rfl rfl rfl (by first | decide | (simp; done) | (simp; omega)) rfl) ?_
 refine AL.rp rfl rfl (rp_assign rfl rfl) ?_
 refine AL.nil ?_
 try simp only [thenS, S.put, S.newObj, setL, V.cs, List.length_cons, List.length_nil, List.take_succ_cons, List.take_zero, List.drop_succ_cons, List.drop_zero, List.drop_nil, List.nil_append, List.cons_append, List.append_nil, Nat.zero_add, Nat.reduceAdd, List.map_cons, List.map_nil, List.set_cons_zero, List.set_cons_succ]
 refine AW.ret ?_
 exact ⟨[_, _], ⟨⟨2, 0, _, _, rfl, rfl, rfl, Try.underlying24, .inr ⟨rfl, _, _, _, _, inf24, rfl, rfl, rfl⟩⟩, rfl, trivial⟩, rfl, by simp [tupOf, V.pure, V.has, V.hasL]⟩
end Go.Proofs.Ytjbldphpkkmdpaa
