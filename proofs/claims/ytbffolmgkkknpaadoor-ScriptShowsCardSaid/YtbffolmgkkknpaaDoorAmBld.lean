-- %hmode
-- %heap %heapc %uns %strn
/- strings.Builder, at the head of an object of the caller's: WriteString, WriteByte. -/
import Derived.Test.YtbffolmgkkknpaaDoorAmHp
import Derived.Test.YtbffolmgkkknpaaDoorAmFr
import Derived.Test.YtbffolmgkkknpaaDoorAmUns
import Derived.Test.YtbffolmgkkknpaaDoorAmUstr
import Derived.Test.YtbffolmgkkknpaaDoorAmStrA
import Derived.Test.YtbffolmgkkknpaaDoorAmJoin
import Derived.Test.YtbffolmgkkknpaaDoorAmT
namespace Go.Proofs.YtbffolmgkkknpaaDoor
open Go.RowKit
set_option linter.unusedSimpArgs false
set_option linter.unusedVariables false
set_option maxRecDepth 100000

/-- What is asked of a type that holds a Builder, and nothing else. -/
structure BOk (ty : TypeId) : Prop where
 c0 : 0 < Tryd.prog.cellsOf ty
 c2 : Tryd.prog.cellsOf ty ≤ 2
 row : rowAt Tryd.prog (fun x => sameLayout Tryd.prog Tryd.prog.depth x 43) Tryd.prog.depth ty 1 0 1 = true
/-- A Builder that has written s: a tells whether it knows itself, z whether its buffer is nil. -/
abbrev bT (ty : TypeId) (z : Bool) (s : ByteArray) (H0 : List (Nat × Row)) : List (Nat × Row) := (900, ⟨ty, [.ref 900 0, .own 901 1 s.size z], false, 0⟩) :: (901, ⟨5, strV s, z, 1⟩) :: H0
abbrev bF (ty : TypeId) (z : Bool) (s : ByteArray) (H0 : List (Nat × Row)) : List (Nat × Row) := (900, ⟨ty, [.d (.p (.pointer none)), .own 901 1 s.size z], false, 0⟩) :: (901, ⟨5, strV s, z, 1⟩) :: H0
def bH (ty : TypeId) (a z : Bool) (s : ByteArray) (H0 : List (Nat × Row)) : List (Nat × Row) := match a with
 | true => bT ty z s H0
 | false => bF ty z s H0
section
variable {ty : TypeId} {H0 : List (Nat × Row)} {K : List V}
theorem pc_copyF (hk : BOk ty) (z : Bool) (s : ByteArray) (hl : Lw H0 K) : PC Tryd.prog 34 [.ref 900 0] (bF ty z s H0) K (fun v H' K' => v = .tup [] ∧ H' = bT ty z s H0 ∧ K' = K) := by
 obtain ⟨k0, k1, k2⟩ := hk
 refine PC.intro (n := 20) ⟨Tryd.func34, rfl, rfl, rfl, rfl⟩ (by simp) fun w0 out kx => AW.weaken ?_
 simp only [enum]
 refine AW.seq ?_
 refine AW.region ?_
 refine AL.rp rfl rfl (rp_move rfl rfl) ?_
 (first | (refine AL.rp rfl rfl (rp_nilCheck rfl rfl) ?_) | (refine AL.rp rfl rfl (rp_nilCheck_ad rfl rfl) ?_))
 (first | (refine AL.rp rfl rfl (rp_field_ref Tryd.underlying43 rfl rfl rfl inf40 (by decide) rfl) ?_) | (refine AL.rp rfl rfl (rp_field_ad Tryd.underlying43 rfl rfl rfl inf40 (by decide) rfl) ?_))
 (first | (refine AL.rd rfl rfl (rd_load_ref Tryd.underlying40 rfl rfl rfl rfl rfl rfl) ?_) | (refine AL.rd rfl rfl (rd_load_ad Tryd.underlying40 rfl rfl rfl rfl) ?_) | (refine AL.rd rfl rfl (rd_load_map Tryd.underlying40 rfl rfl rfl rfl rfl rfl (by assumption)) ?_) | (refine AL.rd rfl rfl (rd_load_flat Tryd.underlying40 rfl rfl rfl rfl rfl rfl (fun _ => rfl) (by assumption) rfl) ?_))
 (first | (refine AL.rp rfl rfl (rp_eqlp_ad Tryd.underlying40 rfl rfl rfl) ?_) | (refine AL.rp rfl rfl (rp_eqlp_nil Tryd.underlying40 rfl rfl rfl) ?_) | (refine AL.rp rfl rfl (rp_eqlp_own Tryd.underlying40 rfl rfl rfl) ?_))
 refine AL.nil ?_
 try simp only [thenS, S.put, enum, List.nil_append, List.cons_append, List.append_nil, Nat.zero_add, Nat.reduceAdd]
 refine AW.condT rfl ?_
 refine AW.region ?_
 refine AL.rp rfl rfl (rp_move rfl rfl) ?_
 refine AL.rp rfl rfl (rp_move rfl rfl) ?_
 refine AL.rd rfl rfl (rd_to_unsafe Tryd.underlying40 Tryd.underlying95 inf43 (by decide) rfl rfl rfl rfl (by first | decide | exact Nat.succ_pos _)) ?_
 refine AL.rp rfl rfl (rp_noescape Tryd.func57 (by kernel_rfl) (by kernel_rfl) (by kernel_rfl) (by kernel_rfl) rfl rfl rfl) ?_
 refine AL.rd rfl rfl (rd_from_unsafe Tryd.underlying95 Tryd.underlying40 inf43 rfl rfl rfl rfl (by first | assumption | exact Nat.le_of_ble_eq_true (by kernel_rfl)) (by first | assumption | exact Nat.le_of_ble_eq_true (by kernel_rfl)) (by first | assumption | kernel_rfl)) ?_
 (first | (refine AL.rp rfl rfl (rp_nilCheck rfl rfl) ?_) | (refine AL.rp rfl rfl (rp_nilCheck_ad rfl rfl) ?_))
 (first | (refine AL.rp rfl rfl (rp_field_ref Tryd.underlying43 rfl rfl rfl inf40 (by decide) rfl) ?_) | (refine AL.rp rfl rfl (rp_field_ad Tryd.underlying43 rfl rfl rfl inf40 (by decide) rfl) ?_))
 (first | (refine AL.st rfl (st_store_map2 inf40 rfl rfl rfl rfl rfl rfl rfl rfl (by first | assumption | omega)) ?_) | (refine AL.st rfl (st_store inf40 rfl rfl rfl rfl rfl rfl rfl (by first | decide | (simp; done)) rfl) ?_))
 refine AL.nil ?_
 try simp only [thenS, S.put, S.newObj, setL, V.cs, List.length_cons, List.length_nil, List.take_succ_cons, List.take_zero, List.drop_succ_cons, List.drop_zero, List.drop_nil, List.nil_append, List.cons_append, List.append_nil, Nat.zero_add, Nat.reduceAdd, List.map_cons, List.map_nil, List.set_cons_zero, List.set_cons_succ]
 exact ⟨_, Less.hp (T := []) trivial rfl rfl (fun k row h => hl.low (T := [_, _, _]) (by rfl) k row h), [], trivial, rfl, rfl, rfl⟩
theorem pc_copyT (hk : BOk ty) (z : Bool) (s : ByteArray) (hl : Lw H0 K) : PC Tryd.prog 34 [.ref 900 0] (bT ty z s H0) K (fun v H' K' => v = .tup [] ∧ H' = bT ty z s H0 ∧ K' = K) := by
 obtain ⟨k0, k1, k2⟩ := hk
 refine PC.intro (n := 20) ⟨Tryd.func34, rfl, rfl, rfl, rfl⟩ (by simp) fun w0 out kx => AW.weaken ?_
 simp only [enum]
 refine AW.seq ?_
 refine AW.region ?_
 refine AL.rp rfl rfl (rp_move rfl rfl) ?_
 (first | (refine AL.rp rfl rfl (rp_nilCheck rfl rfl) ?_) | (refine AL.rp rfl rfl (rp_nilCheck_ad rfl rfl) ?_))
 (first | (refine AL.rp rfl rfl (rp_field_ref Tryd.underlying43 rfl rfl rfl inf40 (by decide) rfl) ?_) | (refine AL.rp rfl rfl (rp_field_ad Tryd.underlying43 rfl rfl rfl inf40 (by decide) rfl) ?_))
 (first | (refine AL.rd rfl rfl (rd_load_ref Tryd.underlying40 rfl rfl rfl rfl rfl rfl) ?_) | (refine AL.rd rfl rfl (rd_load_ad Tryd.underlying40 rfl rfl rfl rfl) ?_) | (refine AL.rd rfl rfl (rd_load_map Tryd.underlying40 rfl rfl rfl rfl rfl rfl (by assumption)) ?_) | (refine AL.rd rfl rfl (rd_load_flat Tryd.underlying40 rfl rfl rfl rfl rfl rfl (fun _ => rfl) (by assumption) rfl) ?_))
 (first | (refine AL.rp rfl rfl (rp_eqlp_ad Tryd.underlying40 rfl rfl rfl) ?_) | (refine AL.rp rfl rfl (rp_eqlp_nil Tryd.underlying40 rfl rfl rfl) ?_) | (refine AL.rp rfl rfl (rp_eqlp_own Tryd.underlying40 rfl rfl rfl) ?_))
 refine AL.nil ?_
 try simp only [thenS, S.put, enum, List.nil_append, List.cons_append, List.append_nil, Nat.zero_add, Nat.reduceAdd]
 refine AW.condF rfl ?_
 refine AW.seq ?_
 refine AW.region ?_
 refine AL.rp rfl rfl (rp_move rfl rfl) ?_
 (first | (refine AL.rp rfl rfl (rp_nilCheck rfl rfl) ?_) | (refine AL.rp rfl rfl (rp_nilCheck_ad rfl rfl) ?_))
 (first | (refine AL.rp rfl rfl (rp_field_ref Tryd.underlying43 rfl rfl rfl inf40 (by decide) rfl) ?_) | (refine AL.rp rfl rfl (rp_field_ad Tryd.underlying43 rfl rfl rfl inf40 (by decide) rfl) ?_))
 (first | (refine AL.rd rfl rfl (rd_load_ref Tryd.underlying40 rfl rfl rfl rfl rfl rfl) ?_) | (refine AL.rd rfl rfl (rd_load_ad Tryd.underlying40 rfl rfl rfl rfl) ?_) | (refine AL.rd rfl rfl (rd_load_map Tryd.underlying40 rfl rfl rfl rfl rfl rfl (by assumption)) ?_) | (refine AL.rd rfl rfl (rd_load_flat Tryd.underlying40 rfl rfl rfl rfl rfl rfl (fun _ => rfl) (by assumption) rfl) ?_))
 refine AL.rp rfl rfl (rp_move rfl rfl) ?_
 (first | (refine AL.rp rfl rfl (rp_neqp_ad Tryd.underlying40 rfl rfl rfl) ?_) | (refine AL.rp rfl rfl (rp_neqp_nil Tryd.underlying40 rfl rfl rfl) ?_) | (refine AL.rp rfl rfl (rp_neqp_same Tryd.underlying40 inf43 rfl rfl rfl) ?_))
 refine AL.nil ?_
 try simp only [thenS, S.put]
 refine AW.condF rfl ?_
 refine AW.skip ?_
 try simp only [thenS]
 exact ⟨_, Less.hp (T := []) trivial rfl rfl (fun k row h => hl.low (T := [_, _]) (by rfl) k row h), [], trivial, rfl, rfl, rfl⟩
theorem pc_copy (hk : BOk ty) (a z : Bool) (s : ByteArray) (hl : Lw H0 K) : PC Tryd.prog 34 [.ref 900 0] (bH ty a z s H0) K (fun v H' K' => v = .tup [] ∧ H' = bT ty z s H0 ∧ K' = K) := by
 cases a
 ·exact pc_copyF hk z s hl
 ·exact pc_copyT hk z s hl
theorem pc_WriteString (hk : BOk ty) (a z : Bool) (s t : ByteArray) (hl : Lw H0 K) (ht : 0 < t.size) (hst : s.size + t.size ≤ 140737488355328) : PC Tryd.prog 17 [.ref 900 0, .s t] (bH ty a z s H0) K (fun v H' K' => v = .tup [.i (t.size : Int), .d (.p .nilIface)] ∧ H' = bT ty false (s ++ t) H0 ∧ K' = K) := by
 have hcp := fun K (hl : Lw H0 K) => pc_copy hk a z s hl
 have hsl := strV_len s
 refine PC.intro (n := 19) ⟨Tryd.func17, rfl, rfl, rfl, rfl⟩ (by simp) fun w0 out kx => AW.weaken ?_
 simp only [enum]
 refine AW.seq ?_
 refine AW.region ?_
 refine AL.rp rfl rfl (rp_assign rfl rfl) ?_
 refine AL.rp rfl rfl (rp_assign rfl rfl) ?_
 refine AL.nil ?_
 try simp only [thenS, S.put, enum, List.nil_append, List.cons_append, List.append_nil, Nat.zero_add, Nat.reduceAdd]
 refine AW.seq ?_
 refine AW.region ?_
 refine AL.rp rfl rfl (rp_move rfl rfl) ?_
 try simp only [S.put, S.newObj, setL, V.cs, List.length_cons, List.length_nil, List.take_succ_cons, List.take_zero, List.drop_succ_cons, List.drop_zero, List.drop_nil, List.nil_append, List.cons_append, List.append_nil, Nat.zero_add, Nat.reduceAdd]
 refine AL.pc [0, 1] (ts := [_, _]) (args := [_]) (post := ?pc0) ?hc0 rfl rfl rfl rfl rfl rfl rfl rfl rfl ?_
 case hc0 => (refine hcp _ (hl.keepL _ ?_) <;> first | rfl | (simp [V.lowL, V.low]; done))
 rintro _ _ _ ⟨rfl, rfl, rfl⟩
 simp only [back, S.put, List.cons_append, List.nil_append, List.zip_cons_cons, List.zip_nil_left, List.drop_succ_cons, List.drop_zero, List.length_cons, List.length_nil, Nat.zero_add, Nat.reduceAdd]
 refine AL.nil ?_
 try simp only [thenS, S.put]
 refine AW.seq ?_
 refine AW.region ?_
 refine AL.rp rfl rfl (rp_move rfl rfl) ?_
 refine AL.rp rfl rfl (rp_move rfl rfl) ?_
 (first | (refine AL.rp rfl rfl (rp_nilCheck rfl rfl) ?_) | (refine AL.rp rfl rfl (rp_nilCheck_ad rfl rfl) ?_))
 (first | (refine AL.rp rfl rfl (rp_field_ref Tryd.underlying43 rfl rfl rfl inf41 (by decide) rfl) ?_) | (refine AL.rp rfl rfl (rp_field_ad Tryd.underlying43 rfl rfl rfl inf41 (by decide) rfl) ?_))
 (first | (refine AL.rd rfl rfl (rd_load_ref Tryd.underlying41 rfl rfl rfl rfl rfl rfl) ?_) | (refine AL.rd rfl rfl (rd_load_ad Tryd.underlying41 rfl rfl rfl rfl) ?_) | (refine AL.rd rfl rfl (rd_load_map Tryd.underlying41 rfl rfl rfl rfl rfl rfl (by assumption)) ?_) | (refine AL.rd rfl rfl (rd_load_flat Tryd.underlying41 rfl rfl rfl rfl rfl rfl (fun _ => rfl) (by assumption) rfl) ?_))
 refine AL.rp rfl rfl (rp_move rfl rfl) ?_
 refine AL.st rfl (st_append_strF Tryd.underlying41 Tryd.underlying9 inf5 rfl rfl rfl rfl rfl rfl rfl (by first | assumption | rfl | (simp; done)) (by first | rfl | exact strV_has _ _ | (refine S.clean_hp (L := []) hl (by decide) ?_ ?_ <;> simp [S.put, S.newObj, S.forget, enum, V.has, V.hasL, junkIf, setL, V.cs, hasL_i, hasL_b, hasL_s, hasL_n, hasL_rep, hasL_flat, hasL_append, strV_has, -List.map_set]) | (refine S.clean_hp (L := [_]) hl (by decide) ?_ ?_ <;> simp [S.put, S.newObj, S.forget, enum, V.has, V.hasL, junkIf, setL, V.cs, hasL_i, hasL_b, hasL_s, hasL_n, hasL_rep, hasL_flat, hasL_append, strV_has, -List.map_set]) | (refine S.clean_hp (L := [_, _]) hl (by decide) ?_ ?_ <;> simp [S.put, S.newObj, S.forget, enum, V.has, V.hasL, junkIf, setL, V.cs, hasL_i, hasL_b, hasL_s, hasL_n, hasL_rep, hasL_flat, hasL_append, strV_has, -List.map_set]) | (refine S.clean_hp (L := [_, _, _]) hl (by decide) ?_ ?_ <;> simp [S.put, S.newObj, S.forget, enum, V.has, V.hasL, junkIf, setL, V.cs, hasL_i, hasL_b, hasL_s, hasL_n, hasL_rep, hasL_flat, hasL_append, strV_has, -List.map_set]) | (refine S.clean_hp (L := [_, _, _, _]) hl (by decide) ?_ ?_ <;> simp [S.put, S.newObj, S.forget, enum, V.has, V.hasL, junkIf, setL, V.cs, hasL_i, hasL_b, hasL_s, hasL_n, hasL_rep, hasL_flat, hasL_append, strV_has, -List.map_set]) | (refine S.clean_hp (L := [_, _, _, _, _]) hl (by decide) ?_ ?_ <;> simp [S.put, S.newObj, S.forget, enum, V.has, V.hasL, junkIf, setL, V.cs, hasL_i, hasL_b, hasL_s, hasL_n, hasL_rep, hasL_flat, hasL_append, strV_has, -List.map_set]) | (refine S.clean_hp (L := [_, _, _, _, _, _]) hl (by decide) ?_ ?_ <;> simp [S.put, S.newObj, S.forget, enum, V.has, V.hasL, junkIf, setL, V.cs, hasL_i, hasL_b, hasL_s, hasL_n, hasL_rep, hasL_flat, hasL_append, strV_has, -List.map_set]) | simp [S.put, S.newObj, S.forget, enum, V.has, V.hasL, junkIf, setL, V.cs, hasL_i, hasL_b, hasL_s, hasL_n, hasL_rep, hasL_flat, hasL_append, strV_has, -List.map_set]) rfl (by first | assumption | omega) (by first | assumption | omega) rfl) ?_
 simp only [S.forget, S.put, S.newObj, List.filter_cons, Nat.reduceBNe, bne_self_eq_false, if_true, if_false, Bool.false_eq_true, ↓reduceIte, List.map_cons, hl.forgetK 901 (by decide), hl.forgetH 901 (by decide)]
 simp only [S.forget, S.put, S.newObj, junkIf, V.has, V.hasL, hasL_i, hasL_b, hasL_s, hasL_d, hasL_n, hasL_rep, hasL_flat, hasL_append, List.map_cons, List.map_nil, List.filter_cons, List.filter_nil, Nat.reduceBNe, Nat.reduceBEq, eq_self, bne_self_eq_false,  Bool.not_true, Bool.not_false, Bool.or_false, Bool.or_true, Bool.false_or, Bool.true_or, if_true, if_false, Bool.false_eq_true, ite_true, ite_false, ↓reduceIte, beq_self_eq_true, Nat.reduceEqDiff]
 (first | (refine AL.rp rfl rfl (rp_nilCheck rfl rfl) ?_) | (refine AL.rp rfl rfl (rp_nilCheck_ad rfl rfl) ?_))
 (first | (refine AL.rp rfl rfl (rp_field_ref Tryd.underlying43 rfl rfl rfl inf41 (by decide) rfl) ?_) | (refine AL.rp rfl rfl (rp_field_ad Tryd.underlying43 rfl rfl rfl inf41 (by decide) rfl) ?_))
 (first | (refine AL.st rfl (st_store_map2 inf41 rfl rfl rfl rfl rfl rfl rfl rfl (by first | assumption | omega)) ?_) | (refine AL.st rfl (st_store inf41 rfl rfl rfl rfl rfl rfl rfl (by first | decide | (simp; done)) rfl) ?_))
 refine AL.nil ?_
 try simp only [thenS, S.put, S.newObj, setL, V.cs, List.length_cons, List.length_nil, List.take_succ_cons, List.take_zero, List.drop_succ_cons, List.drop_zero, List.drop_nil, List.nil_append, List.cons_append, List.append_nil, Nat.zero_add, Nat.reduceAdd, List.map_cons, List.map_nil, List.set_cons_zero, List.set_cons_succ]
 refine AW.seq ?_
 refine AW.region ?_
 refine AL.rp rfl rfl (rp_move rfl rfl) ?_
 (first | (refine AL.rp rfl rfl (rp_len_map Tryd.underlying9 rfl rfl (by assumption)) ?_) | (refine AL.rp rfl rfl (rp_len_own Tryd.underlying9 rfl rfl) ?_) | (refine AL.rp rfl rfl (rp_len_sl Tryd.underlying9 rfl rfl) ?_) | (refine AL.rp rfl rfl (rp_len_nil Tryd.underlying9 rfl rfl) ?_) | (refine AL.rp rfl rfl (rp_len_str Tryd.underlying9 rfl rfl) ?_))
 refine AL.rp rfl rfl (rp_assign rfl rfl) ?_
 refine AL.rp rfl rfl (rp_assign rfl rfl) ?_
 refine AL.nil ?_
 try simp only [thenS, S.put]
 refine AW.ret ?_
 refine ⟨_, Less.hp (T := [(4, _), (5, _)]) ⟨⟨_, rfl, Wk.refl _⟩, ⟨_, rfl, Wk.refl _⟩, trivial⟩ rfl rfl (fun k row h => hl.low (T := [_, _, _]) (by rfl) k row h), [_, _], ⟨rfl, rfl, trivial⟩, rfl, ?_, rfl⟩
 show (900, (⟨ty, [.ref 900 0, .own 901 1 (s.size + t.size) false], false, 0⟩ : Row)) :: (901, ⟨5, strV s ++ strV t, false, 1⟩) :: H0 = _
 rw [← strV_app, ← ByteArray.size_append]
theorem pc_WriteByte (hk : BOk ty) (a z : Bool) (s : ByteArray) (c : UInt8) (hl : Lw H0 K) (hst : s.size + 1 ≤ 140737488355328) : PC Tryd.prog 45 [.ref 900 0, .d (.p (.int .u8 (c.toNat : Int)))] (bH ty a z s H0) K (fun v H' K' => H' = bT ty false (s ++ ⟨#[c]⟩) H0 ∧ K' = K) := by
 have hcp := fun K (hl : Lw H0 K) => pc_copy hk a z s hl
 have hsl : (strV s).length = s.size * 1 := by rw [strV_len]; omega
 refine PC.intro (n := 17) ⟨Tryd.func45, rfl, rfl, rfl, rfl⟩ (by simp) fun w0 out kx => AW.weaken ?_
 simp only [enum]
 refine AW.seq ?_
 refine AW.region ?_
 refine AL.rp rfl rfl (rp_assign rfl rfl) ?_
 refine AL.nil ?_
 try simp only [thenS, S.put, enum, List.nil_append, List.cons_append, List.append_nil, Nat.zero_add, Nat.reduceAdd]
 refine AW.seq ?_
 refine AW.region ?_
 refine AL.rp rfl rfl (rp_move rfl rfl) ?_
 try simp only [S.put, S.newObj, setL, V.cs, List.length_cons, List.length_nil, List.take_succ_cons, List.take_zero, List.drop_succ_cons, List.drop_zero, List.drop_nil, List.nil_append, List.cons_append, List.append_nil, Nat.zero_add, Nat.reduceAdd]
 refine AL.pc [0, 1] (ts := [_, _]) (args := [_]) (post := ?pc1) ?hc1 rfl rfl rfl rfl rfl rfl rfl rfl rfl ?_
 case hc1 => (refine hcp _ (hl.keepL _ ?_) <;> first | rfl | (simp [V.lowL, V.low]; done))
 rintro _ _ _ ⟨rfl, rfl, rfl⟩
 simp only [back, S.put, List.cons_append, List.nil_append, List.zip_cons_cons, List.zip_nil_left, List.drop_succ_cons, List.drop_zero, List.length_cons, List.length_nil, Nat.zero_add, Nat.reduceAdd]
 refine AL.nil ?_
 try simp only [thenS, S.put]
 refine AW.seq ?_
 refine AW.region ?_
 refine AL.rp rfl rfl (rp_move rfl rfl) ?_
 refine AL.rp rfl rfl (rp_move rfl rfl) ?_
 (first | (refine AL.rp rfl rfl (rp_nilCheck rfl rfl) ?_) | (refine AL.rp rfl rfl (rp_nilCheck_ad rfl rfl) ?_))
 (first | (refine AL.rp rfl rfl (rp_field_ref Tryd.underlying43 rfl rfl rfl inf41 (by decide) rfl) ?_) | (refine AL.rp rfl rfl (rp_field_ad Tryd.underlying43 rfl rfl rfl inf41 (by decide) rfl) ?_))
 (first | (refine AL.rd rfl rfl (rd_load_ref Tryd.underlying41 rfl rfl rfl rfl rfl rfl) ?_) | (refine AL.rd rfl rfl (rd_load_ad Tryd.underlying41 rfl rfl rfl rfl) ?_) | (refine AL.rd rfl rfl (rd_load_map Tryd.underlying41 rfl rfl rfl rfl rfl rfl (by assumption)) ?_) | (refine AL.rd rfl rfl (rd_load_flat Tryd.underlying41 rfl rfl rfl rfl rfl rfl (fun _ => rfl) (by assumption) rfl) ?_))
 refine AL.rp rfl rfl (rp_move rfl rfl) ?_
 refine AL.sm rfl (sm_slice (vs := [(0, _)]) (zs := [.d (.p (.int .u8 0))]) 910 Tryd.underlying41 inf5 rfl rfl (by decide) (by decide) (by decide) rfl rfl rfl rfl (by first | rfl | (refine S.clean_hp (L := []) hl (by decide) ?_ ?_ <;> simp [S.put, S.newObj, S.forget, enum, V.has, V.hasL, junkIf, setL, V.cs, hasL_i, hasL_b, hasL_s, hasL_n, hasL_rep, hasL_flat, hasL_append, strV_has, -List.map_set]) | (refine S.clean_hp (L := [_]) hl (by decide) ?_ ?_ <;> simp [S.put, S.newObj, S.forget, enum, V.has, V.hasL, junkIf, setL, V.cs, hasL_i, hasL_b, hasL_s, hasL_n, hasL_rep, hasL_flat, hasL_append, strV_has, -List.map_set]) | (refine S.clean_hp (L := [_, _]) hl (by decide) ?_ ?_ <;> simp [S.put, S.newObj, S.forget, enum, V.has, V.hasL, junkIf, setL, V.cs, hasL_i, hasL_b, hasL_s, hasL_n, hasL_rep, hasL_flat, hasL_append, strV_has, -List.map_set]) | (refine S.clean_hp (L := [_, _, _]) hl (by decide) ?_ ?_ <;> simp [S.put, S.newObj, S.forget, enum, V.has, V.hasL, junkIf, setL, V.cs, hasL_i, hasL_b, hasL_s, hasL_n, hasL_rep, hasL_flat, hasL_append, strV_has, -List.map_set]) | (refine S.clean_hp (L := [_, _, _, _]) hl (by decide) ?_ ?_ <;> simp [S.put, S.newObj, S.forget, enum, V.has, V.hasL, junkIf, setL, V.cs, hasL_i, hasL_b, hasL_s, hasL_n, hasL_rep, hasL_flat, hasL_append, strV_has, -List.map_set]) | (refine S.clean_hp (L := [_, _, _, _, _]) hl (by decide) ?_ ?_ <;> simp [S.put, S.newObj, S.forget, enum, V.has, V.hasL, junkIf, setL, V.cs, hasL_i, hasL_b, hasL_s, hasL_n, hasL_rep, hasL_flat, hasL_append, strV_has, -List.map_set]) | (refine S.clean_hp (L := [_, _, _, _, _, _]) hl (by decide) ?_ ?_ <;> simp [S.put, S.newObj, S.forget, enum, V.has, V.hasL, junkIf, setL, V.cs, hasL_i, hasL_b, hasL_s, hasL_n, hasL_rep, hasL_flat, hasL_append, strV_has, -List.map_set]) | simp [S.put, S.newObj, S.forget, enum, V.has, V.hasL, junkIf, setL, V.cs, hasL_i, hasL_b, hasL_s, hasL_n, hasL_rep, hasL_flat, hasL_append, strV_has, -List.map_set]) (by first | rfl | (refine S.clean_hp (L := []) hl (by decide) ?_ ?_ <;> simp [S.put, S.newObj, S.forget, enum, V.has, V.hasL, junkIf, setL, V.cs, hasL_i, hasL_b, hasL_s, hasL_n, hasL_rep, hasL_flat, hasL_append, strV_has, -List.map_set]) | (refine S.clean_hp (L := [_]) hl (by decide) ?_ ?_ <;> simp [S.put, S.newObj, S.forget, enum, V.has, V.hasL, junkIf, setL, V.cs, hasL_i, hasL_b, hasL_s, hasL_n, hasL_rep, hasL_flat, hasL_append, strV_has, -List.map_set]) | (refine S.clean_hp (L := [_, _]) hl (by decide) ?_ ?_ <;> simp [S.put, S.newObj, S.forget, enum, V.has, V.hasL, junkIf, setL, V.cs, hasL_i, hasL_b, hasL_s, hasL_n, hasL_rep, hasL_flat, hasL_append, strV_has, -List.map_set]) | (refine S.clean_hp (L := [_, _, _]) hl (by decide) ?_ ?_ <;> simp [S.put, S.newObj, S.forget, enum, V.has, V.hasL, junkIf, setL, V.cs, hasL_i, hasL_b, hasL_s, hasL_n, hasL_rep, hasL_flat, hasL_append, strV_has, -List.map_set]) | (refine S.clean_hp (L := [_, _, _, _]) hl (by decide) ?_ ?_ <;> simp [S.put, S.newObj, S.forget, enum, V.has, V.hasL, junkIf, setL, V.cs, hasL_i, hasL_b, hasL_s, hasL_n, hasL_rep, hasL_flat, hasL_append, strV_has, -List.map_set]) | (refine S.clean_hp (L := [_, _, _, _, _]) hl (by decide) ?_ ?_ <;> simp [S.put, S.newObj, S.forget, enum, V.has, V.hasL, junkIf, setL, V.cs, hasL_i, hasL_b, hasL_s, hasL_n, hasL_rep, hasL_flat, hasL_append, strV_has, -List.map_set]) | (refine S.clean_hp (L := [_, _, _, _, _, _]) hl (by decide) ?_ ?_ <;> simp [S.put, S.newObj, S.forget, enum, V.has, V.hasL, junkIf, setL, V.cs, hasL_i, hasL_b, hasL_s, hasL_n, hasL_rep, hasL_flat, hasL_append, strV_has, -List.map_set]) | simp [S.put, S.newObj, S.forget, enum, V.has, V.hasL, junkIf, setL, V.cs, hasL_i, hasL_b, hasL_s, hasL_n, hasL_rep, hasL_flat, hasL_append, strV_has, -List.map_set]) rfl) ?_
 refine AL.st rfl (st_appendF Tryd.underlying41 inf5 rfl (by decide) rfl rfl rfl rfl rfl rfl (by first | assumption | rfl | (simp; done)) (by first | rfl | (refine S.clean_hp (L := []) hl (by decide) ?_ ?_ <;> simp [S.put, S.newObj, S.forget, enum, V.has, V.hasL, junkIf, setL, V.cs, hasL_i, hasL_b, hasL_s, hasL_n, hasL_rep, hasL_flat, hasL_append, strV_has, -List.map_set]) | (refine S.clean_hp (L := [_]) hl (by decide) ?_ ?_ <;> simp [S.put, S.newObj, S.forget, enum, V.has, V.hasL, junkIf, setL, V.cs, hasL_i, hasL_b, hasL_s, hasL_n, hasL_rep, hasL_flat, hasL_append, strV_has, -List.map_set]) | (refine S.clean_hp (L := [_, _]) hl (by decide) ?_ ?_ <;> simp [S.put, S.newObj, S.forget, enum, V.has, V.hasL, junkIf, setL, V.cs, hasL_i, hasL_b, hasL_s, hasL_n, hasL_rep, hasL_flat, hasL_append, strV_has, -List.map_set]) | (refine S.clean_hp (L := [_, _, _]) hl (by decide) ?_ ?_ <;> simp [S.put, S.newObj, S.forget, enum, V.has, V.hasL, junkIf, setL, V.cs, hasL_i, hasL_b, hasL_s, hasL_n, hasL_rep, hasL_flat, hasL_append, strV_has, -List.map_set]) | (refine S.clean_hp (L := [_, _, _, _]) hl (by decide) ?_ ?_ <;> simp [S.put, S.newObj, S.forget, enum, V.has, V.hasL, junkIf, setL, V.cs, hasL_i, hasL_b, hasL_s, hasL_n, hasL_rep, hasL_flat, hasL_append, strV_has, -List.map_set]) | (refine S.clean_hp (L := [_, _, _, _, _]) hl (by decide) ?_ ?_ <;> simp [S.put, S.newObj, S.forget, enum, V.has, V.hasL, junkIf, setL, V.cs, hasL_i, hasL_b, hasL_s, hasL_n, hasL_rep, hasL_flat, hasL_append, strV_has, -List.map_set]) | (refine S.clean_hp (L := [_, _, _, _, _, _]) hl (by decide) ?_ ?_ <;> simp [S.put, S.newObj, S.forget, enum, V.has, V.hasL, junkIf, setL, V.cs, hasL_i, hasL_b, hasL_s, hasL_n, hasL_rep, hasL_flat, hasL_append, strV_has, -List.map_set]) | simp [S.put, S.newObj, S.forget, enum, V.has, V.hasL, junkIf, setL, V.cs, hasL_i, hasL_b, hasL_s, hasL_n, hasL_rep, hasL_flat, hasL_append, strV_has, -List.map_set]) rfl rfl rfl rfl rfl (by first | rfl | (refine S.clean_hp (L := []) hl (by decide) ?_ ?_ <;> simp [S.put, S.newObj, S.forget, enum, V.has, V.hasL, junkIf, setL, V.cs, hasL_i, hasL_b, hasL_s, hasL_n, hasL_rep, hasL_flat, hasL_append, strV_has, -List.map_set]) | (refine S.clean_hp (L := [_]) hl (by decide) ?_ ?_ <;> simp [S.put, S.newObj, S.forget, enum, V.has, V.hasL, junkIf, setL, V.cs, hasL_i, hasL_b, hasL_s, hasL_n, hasL_rep, hasL_flat, hasL_append, strV_has, -List.map_set]) | (refine S.clean_hp (L := [_, _]) hl (by decide) ?_ ?_ <;> simp [S.put, S.newObj, S.forget, enum, V.has, V.hasL, junkIf, setL, V.cs, hasL_i, hasL_b, hasL_s, hasL_n, hasL_rep, hasL_flat, hasL_append, strV_has, -List.map_set]) | (refine S.clean_hp (L := [_, _, _]) hl (by decide) ?_ ?_ <;> simp [S.put, S.newObj, S.forget, enum, V.has, V.hasL, junkIf, setL, V.cs, hasL_i, hasL_b, hasL_s, hasL_n, hasL_rep, hasL_flat, hasL_append, strV_has, -List.map_set]) | (refine S.clean_hp (L := [_, _, _, _]) hl (by decide) ?_ ?_ <;> simp [S.put, S.newObj, S.forget, enum, V.has, V.hasL, junkIf, setL, V.cs, hasL_i, hasL_b, hasL_s, hasL_n, hasL_rep, hasL_flat, hasL_append, strV_has, -List.map_set]) | (refine S.clean_hp (L := [_, _, _, _, _]) hl (by decide) ?_ ?_ <;> simp [S.put, S.newObj, S.forget, enum, V.has, V.hasL, junkIf, setL, V.cs, hasL_i, hasL_b, hasL_s, hasL_n, hasL_rep, hasL_flat, hasL_append, strV_has, -List.map_set]) | (refine S.clean_hp (L := [_, _, _, _, _, _]) hl (by decide) ?_ ?_ <;> simp [S.put, S.newObj, S.forget, enum, V.has, V.hasL, junkIf, setL, V.cs, hasL_i, hasL_b, hasL_s, hasL_n, hasL_rep, hasL_flat, hasL_append, strV_has, -List.map_set]) | simp [S.put, S.newObj, S.forget, enum, V.has, V.hasL, junkIf, setL, V.cs, hasL_i, hasL_b, hasL_s, hasL_n, hasL_rep, hasL_flat, hasL_append, strV_has, -List.map_set]) rfl (by decide) (by omega) (by omega) rfl) ?_
 simp only [S.forget, S.put, S.newObj, List.filter_cons, Nat.reduceBNe, bne_self_eq_false, if_true, if_false, Bool.false_eq_true, ↓reduceIte, List.map_cons, hl.forgetK 901 (by decide), hl.forgetH 901 (by decide)]
 simp only [S.forget, S.put, S.newObj, junkIf, V.has, V.hasL, hasL_i, hasL_b, hasL_s, hasL_d, hasL_n, hasL_rep, hasL_flat, hasL_append, List.map_cons, List.map_nil, List.filter_cons, List.filter_nil, Nat.reduceBNe, Nat.reduceBEq, eq_self, bne_self_eq_false,  Bool.not_true, Bool.not_false, Bool.or_false, Bool.or_true, Bool.false_or, Bool.true_or, if_true, if_false, Bool.false_eq_true, ite_true, ite_false, ↓reduceIte, beq_self_eq_true, Nat.reduceEqDiff]
 (first | (refine AL.rp rfl rfl (rp_nilCheck rfl rfl) ?_) | (refine AL.rp rfl rfl (rp_nilCheck_ad rfl rfl) ?_))
 (first | (refine AL.rp rfl rfl (rp_field_ref Tryd.underlying43 rfl rfl rfl inf41 (by decide) rfl) ?_) | (refine AL.rp rfl rfl (rp_field_ad Tryd.underlying43 rfl rfl rfl inf41 (by decide) rfl) ?_))
 (first | (refine AL.st rfl (st_store_map2 inf41 rfl rfl rfl rfl rfl rfl rfl rfl (by first | assumption | omega)) ?_) | (refine AL.st rfl (st_store inf41 rfl rfl rfl rfl rfl rfl rfl (by first | decide | (simp; done)) rfl) ?_))
 refine AL.nil ?_
 try simp only [thenS, S.put, S.newObj, setL, V.cs, List.length_cons, List.length_nil, List.take_succ_cons, List.take_zero, List.drop_succ_cons, List.drop_zero, List.drop_nil, List.nil_append, List.cons_append, List.append_nil, Nat.zero_add, Nat.reduceAdd, List.map_cons, List.map_nil, List.set_cons_zero, List.set_cons_succ]
 refine AW.seq ?_
 refine AW.region ?_
 refine AL.rp rfl rfl (rp_assign rfl rfl) ?_
 refine AL.nil ?_
 try simp only [thenS, S.put]
 refine AW.ret ?_
 refine ⟨_, Less.hp (T := [(4, _)]) ⟨⟨_, rfl, Wk.refl _⟩, trivial⟩ rfl rfl (fun k row h => hl.low (T := [_, _, _, _]) (by rfl) k row h), [_], ⟨rfl, trivial⟩, ?_, rfl⟩
 show (900, (⟨ty, [.ref 900 0, .own 901 1 (s.size + (⟨#[c]⟩ : ByteArray).size) false], false, 0⟩ : Row)) :: (901, ⟨5, strV s ++ strV ⟨#[c]⟩, false, 1⟩) :: H0 = _
 rw [← strV_app, ← ByteArray.size_append]
theorem Lw.filt {H : List (Nat × Row)} {K : List V} (h : Lw H K) (r : Nat) (hr : 900 ≤ r) : H.filter (fun x => x.1 != r) = H := by
 rw [List.filter_eq_self]
 intro x hx
 have := (h.obj x hx).1
 simp; omega
theorem Less.same (s : S) : Less s s := ⟨rfl, fun i v h => ⟨v, h, .refl _⟩, fun k row h => ⟨row, h, rfl, rfl, rfl, fun j v hv => ⟨v, hv, .refl _⟩⟩, fun j v h => ⟨v, h, .refl _⟩⟩
theorem Less.h0 {s : S} {T : List (Nat × V)} {H1 : List (Nat × Row)} (hT : LT s T) (h3 : ∀ k row, fnd H1 k = some row → fnd s.H k = some row) : Less ⟨s.n, T, H1, s.K⟩ s :=
 ⟨rfl, fun i v h => hT.get i v h, fun k row h => ⟨row, h3 k row h, rfl, rfl, rfl, fun j v hv => ⟨v, hv, .refl _⟩⟩, fun j v h => ⟨v, h, .refl _⟩⟩
theorem pc_String (z : Bool) (s : ByteArray) (a : Bool) (hl : Lw H0 K) (hz : z = true ↔ s.size = 0) (hst : s.size ≤ 140737488355328) : PC Tryd.prog 18 [.ref 900 0] (bH ty a z s H0) K (fun v H' K' => v = .s s ∧ H' = H0 ∧ K' = K) := by
 cases z with
 | true =>
  have h0 : s.size = 0 := hz.1 rfl
  have hs : s = ⟨#[]⟩ := by
   cases s with | mk x =>
   congr 1
   exact Array.eq_empty_of_size_eq_zero h0
  cases a
  all_goals
   refine PC.intro (n := 14) ⟨Tryd.func18, rfl, rfl, rfl, rfl⟩ (by simp) fun w0 out kx => AW.weaken ?_
   simp only [enum, bH]
   refine AW.seq ?_
   refine AW.region ?_
   refine AL.rp rfl rfl (rp_assign rfl rfl) ?_
   refine AL.nil ?_
   try simp only [thenS, S.put, enum, List.nil_append, List.cons_append, List.append_nil, Nat.zero_add, Nat.reduceAdd]
   refine AW.seq ?_
   refine AW.draw [(0, true), (1, true), (2, true), (3, true), (4, true), (5, true), (6, true), (7, true), (8, true), (9, true), (10, false), (11, false)] (fun i => !([10, 11] : List Nat).contains i) 12 (by kernel_rfl) (by kernel_rfl) rfl (by kernel_rfl) ?_
   refine AD1.rp rfl rfl rfl (fun _ _ h => h) (rp_move rfl rfl) ?_
   (first | (refine AD1.rp rfl rfl rfl (fun _ _ h => h) (rp_nilCheck rfl rfl) ?_) | (refine AD1.rp rfl rfl rfl (fun _ _ h => h) (rp_nilCheck_ad rfl rfl) ?_))
   (first | (refine AD1.rp rfl rfl rfl (fun _ _ h => h) (rp_field_ref Tryd.underlying43 rfl rfl rfl inf41 (by decide) rfl) ?_) | (refine AD1.rp rfl rfl rfl (fun _ _ h => h) (rp_field_ad Tryd.underlying43 rfl rfl rfl inf41 (by decide) rfl) ?_))
   (first | (refine AD1.rd rfl rfl rfl (fun _ _ h => h) (rd_load_ref Tryd.underlying41 rfl rfl rfl rfl rfl rfl) ?_) | (refine AD1.rd rfl rfl rfl (fun _ _ h => h) (rd_load_ad Tryd.underlying41 rfl rfl rfl rfl) ?_) | (refine AD1.rd rfl rfl rfl (fun _ _ h => h) (rd_load_map Tryd.underlying41 rfl rfl rfl rfl rfl rfl (by assumption)) ?_) | (refine AD1.rd rfl rfl rfl (fun _ _ h => h) (rd_load_flat Tryd.underlying41 rfl rfl rfl rfl rfl rfl (fun _ => rfl) (by assumption) rfl) ?_))
   (first | (refine AD1.rp rfl rfl rfl (fun _ _ h => h) (rp_sliceData rfl rfl (by first | assumption | omega)) ?_) | (refine AD1.rp rfl rfl rfl (fun _ _ h => h) (rp_sliceData0 rfl rfl) ?_))
   refine AD1.rp rfl rfl rfl (fun _ _ h => h) (rp_move rfl rfl) ?_
   (first | (refine AD1.rp rfl rfl rfl (fun _ _ h => h) (rp_nilCheck rfl rfl) ?_) | (refine AD1.rp rfl rfl rfl (fun _ _ h => h) (rp_nilCheck_ad rfl rfl) ?_))
   (first | (refine AD1.rp rfl rfl rfl (fun _ _ h => h) (rp_field_ref Tryd.underlying43 rfl rfl rfl inf41 (by decide) rfl) ?_) | (refine AD1.rp rfl rfl rfl (fun _ _ h => h) (rp_field_ad Tryd.underlying43 rfl rfl rfl inf41 (by decide) rfl) ?_))
   (first | (refine AD1.rd rfl rfl rfl (fun _ _ h => h) (rd_load_ref Tryd.underlying41 rfl rfl rfl rfl rfl rfl) ?_) | (refine AD1.rd rfl rfl rfl (fun _ _ h => h) (rd_load_ad Tryd.underlying41 rfl rfl rfl rfl) ?_) | (refine AD1.rd rfl rfl rfl (fun _ _ h => h) (rd_load_map Tryd.underlying41 rfl rfl rfl rfl rfl rfl (by assumption)) ?_) | (refine AD1.rd rfl rfl rfl (fun _ _ h => h) (rd_load_flat Tryd.underlying41 rfl rfl rfl rfl rfl rfl (fun _ => rfl) (by assumption) rfl) ?_))
   (first | (refine AD1.rp rfl rfl rfl (fun _ _ h => h) (rp_len_map Tryd.underlying41 rfl rfl (by assumption)) ?_) | (refine AD1.rp rfl rfl rfl (fun _ _ h => h) (rp_len_own Tryd.underlying41 rfl rfl) ?_) | (refine AD1.rp rfl rfl rfl (fun _ _ h => h) (rp_len_sl Tryd.underlying41 rfl rfl) ?_) | (refine AD1.rp rfl rfl rfl (fun _ _ h => h) (rp_len_nil Tryd.underlying41 rfl rfl) ?_) | (refine AD1.rp rfl rfl rfl (fun _ _ h => h) (rp_len_str Tryd.underlying41 rfl rfl) ?_))
   refine AD1.go ?_
   refine AD2.go ?_
   (first | (refine AD3.rp1 rfl rfl rfl rfl (rp_ustr0 rfl rfl rfl (by first | rfl | assumption | omega)) ?_) | (refine AD3.st rfl rfl rfl (st_ustr Tryd.underlying76 (by kernel_rfl) rfl rfl rfl (by first | rfl | omega) (by first | assumption | omega) (by first | assumption | omega) rfl rfl rfl (by first | rfl | assumption) rfl) ?_))
   refine AD3.rp1 rfl rfl rfl rfl (rp_assign rfl rfl) ?_
   refine AD3.nil ?_
   try simp only [thenS, S.put, S.newObj, setL, V.cs, List.length_cons, List.length_nil, List.take_succ_cons, List.take_zero, List.drop_succ_cons, List.drop_zero, List.drop_nil, List.nil_append, List.cons_append, List.append_nil, Nat.zero_add, Nat.reduceAdd, List.map_cons, List.map_nil, List.set_cons_zero, List.set_cons_succ]
   refine AW.ret ?_
   exact ⟨_, Less.h0 (T := [(2, _)]) ⟨⟨_, rfl, Wk.refl _⟩, trivial⟩ (fun k row h => hl.low (T := [_, _]) (by rfl) k row h), [_], ⟨rfl, trivial⟩, by rw [hs]; rfl, rfl, rfl⟩
 | false =>
  have h0 : 0 < s.size := by
   rcases Nat.eq_zero_or_pos s.size with h | h
   ·have := hz.2 h
    cases this
   ·exact h
  cases a
  all_goals
   refine PC.intro (n := 14) ⟨Tryd.func18, rfl, rfl, rfl, rfl⟩ (by simp) fun w0 out kx => AW.weaken ?_
   simp only [enum, bH]
   refine AW.seq ?_
   refine AW.region ?_
   refine AL.rp rfl rfl (rp_assign rfl rfl) ?_
   refine AL.nil ?_
   try simp only [thenS, S.put, enum, List.nil_append, List.cons_append, List.append_nil, Nat.zero_add, Nat.reduceAdd]
   refine AW.seq ?_
   refine AW.draw [(0, true), (1, true), (2, true), (3, true), (4, true), (5, true), (6, true), (7, true), (8, true), (9, true), (10, false), (11, false)] (fun i => !([10, 11] : List Nat).contains i) 12 (by kernel_rfl) (by kernel_rfl) rfl (by kernel_rfl) ?_
   refine AD1.rp rfl rfl rfl (fun _ _ h => h) (rp_move rfl rfl) ?_
   (first | (refine AD1.rp rfl rfl rfl (fun _ _ h => h) (rp_nilCheck rfl rfl) ?_) | (refine AD1.rp rfl rfl rfl (fun _ _ h => h) (rp_nilCheck_ad rfl rfl) ?_))
   (first | (refine AD1.rp rfl rfl rfl (fun _ _ h => h) (rp_field_ref Tryd.underlying43 rfl rfl rfl inf41 (by decide) rfl) ?_) | (refine AD1.rp rfl rfl rfl (fun _ _ h => h) (rp_field_ad Tryd.underlying43 rfl rfl rfl inf41 (by decide) rfl) ?_))
   (first | (refine AD1.rd rfl rfl rfl (fun _ _ h => h) (rd_load_ref Tryd.underlying41 rfl rfl rfl rfl rfl rfl) ?_) | (refine AD1.rd rfl rfl rfl (fun _ _ h => h) (rd_load_ad Tryd.underlying41 rfl rfl rfl rfl) ?_) | (refine AD1.rd rfl rfl rfl (fun _ _ h => h) (rd_load_map Tryd.underlying41 rfl rfl rfl rfl rfl rfl (by assumption)) ?_) | (refine AD1.rd rfl rfl rfl (fun _ _ h => h) (rd_load_flat Tryd.underlying41 rfl rfl rfl rfl rfl rfl (fun _ => rfl) (by assumption) rfl) ?_))
   (first | (refine AD1.rp rfl rfl rfl (fun _ _ h => h) (rp_sliceData rfl rfl (by first | assumption | omega)) ?_) | (refine AD1.rp rfl rfl rfl (fun _ _ h => h) (rp_sliceData0 rfl rfl) ?_))
   refine AD1.rp rfl rfl rfl (fun _ _ h => h) (rp_move rfl rfl) ?_
   (first | (refine AD1.rp rfl rfl rfl (fun _ _ h => h) (rp_nilCheck rfl rfl) ?_) | (refine AD1.rp rfl rfl rfl (fun _ _ h => h) (rp_nilCheck_ad rfl rfl) ?_))
   (first | (refine AD1.rp rfl rfl rfl (fun _ _ h => h) (rp_field_ref Tryd.underlying43 rfl rfl rfl inf41 (by decide) rfl) ?_) | (refine AD1.rp rfl rfl rfl (fun _ _ h => h) (rp_field_ad Tryd.underlying43 rfl rfl rfl inf41 (by decide) rfl) ?_))
   (first | (refine AD1.rd rfl rfl rfl (fun _ _ h => h) (rd_load_ref Tryd.underlying41 rfl rfl rfl rfl rfl rfl) ?_) | (refine AD1.rd rfl rfl rfl (fun _ _ h => h) (rd_load_ad Tryd.underlying41 rfl rfl rfl rfl) ?_) | (refine AD1.rd rfl rfl rfl (fun _ _ h => h) (rd_load_map Tryd.underlying41 rfl rfl rfl rfl rfl rfl (by assumption)) ?_) | (refine AD1.rd rfl rfl rfl (fun _ _ h => h) (rd_load_flat Tryd.underlying41 rfl rfl rfl rfl rfl rfl (fun _ => rfl) (by assumption) rfl) ?_))
   (first | (refine AD1.rp rfl rfl rfl (fun _ _ h => h) (rp_len_map Tryd.underlying41 rfl rfl (by assumption)) ?_) | (refine AD1.rp rfl rfl rfl (fun _ _ h => h) (rp_len_own Tryd.underlying41 rfl rfl) ?_) | (refine AD1.rp rfl rfl rfl (fun _ _ h => h) (rp_len_sl Tryd.underlying41 rfl rfl) ?_) | (refine AD1.rp rfl rfl rfl (fun _ _ h => h) (rp_len_nil Tryd.underlying41 rfl rfl) ?_) | (refine AD1.rp rfl rfl rfl (fun _ _ h => h) (rp_len_str Tryd.underlying41 rfl rfl) ?_))
   refine AD1.go ?_
   refine AD2.go ?_
   (first | (refine AD3.rp1 rfl rfl rfl rfl (rp_ustr0 rfl rfl rfl (by first | rfl | assumption | omega)) ?_) | (refine AD3.st rfl rfl rfl (st_ustr Tryd.underlying76 (by kernel_rfl) rfl rfl rfl (by first | rfl | omega) (by first | assumption | omega) (by first | assumption | omega) rfl rfl rfl (by first | rfl | assumption) rfl) ?_))
   refine AD3.rp1 rfl rfl rfl rfl (rp_assign rfl rfl) ?_
   refine AD3.nil ?_
   try simp only [thenS, S.put, S.newObj, setL, V.cs, List.length_cons, List.length_nil, List.take_succ_cons, List.take_zero, List.drop_succ_cons, List.drop_zero, List.drop_nil, List.nil_append, List.cons_append, List.append_nil, Nat.zero_add, Nat.reduceAdd, List.map_cons, List.map_nil, List.set_cons_zero, List.set_cons_succ]
   refine AW.ret ?_
   exact ⟨_, Less.h0 (T := [(2, _)]) ⟨⟨_, rfl, Wk.refl _⟩, trivial⟩ (fun k row h => by
    have hk : k ≠ 901 := by
     rintro rfl
     rw [hl.fnd 901 (by decide)] at h
     cases h
    refine (fnd_filter 901 _ _ hk).trans ?_
    exact hl.low (T := [_, _]) (by rfl) k row h), [_], ⟨rfl, trivial⟩, rfl, rfl, rfl⟩
end
end Go.Proofs.YtbffolmgkkknpaaDoor
