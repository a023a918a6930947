-- %hmode
-- %heap %heapc %dsl
/- (*taker).take of package packed: numbers of bytes; where the bytes are too few. -/
import Derived.Test.YthlcginebeapdaaAmDm
import Derived.Test.YthlcginebeapdaaAmByt
namespace Go.Proofs.Ythlcginebeapdaa
open Go.RowKit
set_option linter.unusedSimpArgs false
set_option linter.unusedVariables false
set_option maxRecDepth 100000

section
variable {c : Cx} {s : S} {o : Oper}
/-- A shift to the left, of an int. -/
theorem rp_shlI {t t' : TypeId} {x y : Operand} {kd : IntKind} {m n' r : Int} (n : Nat) (ho : o.op = .binOp .shl t x y t') (hx : s.ev x = some (.i m)) (hy : s.ev y = some (.k kd n')) (hn : n' = (n : Int)) (h : n ≤ 64) (hr : m * 2 ^ n = r) (hb : -9223372036854775808 ≤ r ∧ r ≤ 9223372036854775807) : RP c o s (.i r) :=
 rp_bin ho hx hy fun w => by
  subst hn hr
  have h1 : ¬ ((n : Int) < 0) := by omega
  have h2 : min n 64 = n := by omega
  simp [eqGuard, binOp, Op.shift, h1, h2, IntKind.bits, wrap_in hb.1 hb.2]
theorem ofInt64 {m : Nat} (h : m < 18446744073709551616) : (BitVec.ofInt 64 (m : Int)).toNat = m := by
 rw [BitVec.toNat_ofInt]
 omega
theorem or_add (m n : Nat) (h : n < 256) : m * 256 ||| n = m * 256 + n := by
 have := Nat.two_pow_add_eq_or_of_lt (i := 8) (b := n) (by omega) m
 rw [show (2 : Nat) ^ 8 = 256 by decide] at this
 rw [Nat.mul_comm, ← this]
theorem rp_orI {t t' : TypeId} {x y : Operand} {m' n' : Int} (m n : Nat) (ho : o.op = .binOp .or t x y t') (hx : s.ev x = some (.i m')) (hy : s.ev y = some (.i n')) (hm' : m' = ((m * 256 : Nat) : Int)) (hn' : n' = (n : Int)) (hm : m < 1099511627776) (hn : n < 256) : RP c o s (.i ((m * 256 + n : Nat) : Int)) :=
 rp_bin ho hx hy fun w => by
  subst hm' hn'
  have h2 : (BitVec.ofInt 64 ((m * 256 : Nat) : Int) ||| BitVec.ofInt 64 (n : Int)).toNat = m * 256 + n := by rw [BitVec.toNat_or, ofInt64 (by omega), ofInt64 (by omega), or_add m n hn]
  have h4 : (Op.intBits .or .i64 ((m * 256 : Nat) : Int) (n : Int)).run c.P w = .ok (.int .i64 ((m * 256 + n : Nat) : Int)) w := by
   show Result.ok (Value.int .i64 (IntKind.i64.wrap ((BitVec.ofInt 64 ((m * 256 : Nat) : Int) ||| BitVec.ofInt 64 (n : Int)).toNat : Int))) w = _
   rw [h2, wrap_in (by omega) (by omega)]
  simp only [Sem.run_bind, eqGuard, binOp]
  simpa using h4
/-- The first elements of plain data. -/
theorem rd_slice_to {t e : TypeId} {x y : Operand} {sz bt bt' k : Nat} {z : Value} {rows rows' : List (List D)} {n' : Int} {kd : IntKind} (hu : c.P.underlying t = some (.slice e)) (hi : Inf c.P e sz bt z) (ho : o.op = .slice t x none (some y) none) (hx : s.ev x = some (.d (.sl sz bt' rows))) (hy : s.ev y = some (.d (.p (.int kd n')))) (hk : n' = (k : Int)) (hle : k ≤ rows.length) (hr : rows.take k = rows') :
  RD c o s (.d (.sl sz bt' rows')) := fun g a w hs => by
 subst hk hr
 have h := hs.ev hx
 have hyv := VRep.p_eq (hs.ev hy)
 generalize hxx : a.eval x = u at h
 cases h with
 | d _ _ h =>
  cases h with
  | sl _ _ _ ad cap b o' f hcp ha hl hc hr =>
   have hlen : (rows.take k).length = k := by rw [List.length_take]; omega
   have h0 : (0 : Int) ≤ (k : Int) ∧ (k : Int) ≤ (cap : Int) := by omega
   have hb : k * bt' ≤ 140737488355328 := Nat.le_trans (Nat.mul_le_mul_right _ hle) hl
   have hrun : ∀ w', (execOp a.eval o).run c.P w' = .ok (.value (.slice ad k cap)) w' := fun w' => by
    simp only [execOp, ho, hxx, hyv, Option.map_some, Option.map_none]
    simp only [Instr.sliceAt, Instr.slice, Sem.run_bind, run_underlying hu, Result.andThen_ok, Instr.sliceBounds, run_sliceBound _ kd _ _ _ h0.1 h0.2, Sem.run_pure, run_sizeOf hi, Int.toNat_natCast, Nat.sub_zero, Nat.zero_mul]
    cases ad with
    | none => simp
    | some ad => simp [Addr.add]
   refine ⟨.slice ad k cap, .d _ _ ?_, fun w' _ => hrun w'⟩
   have key := DRep.sl (w := w) (q := qt c s.H g) sz bt' (rows.take k) ad cap b o' f (by omega) (fun hne => ha (by rintro rfl; simp at hne)) (by rw [hlen]; exact hb)
    (fun i j row u h1 h2 => hc i j row u (by rw [List.getElem?_take] at h1; split at h1 <;> first | exact h1 | cases h1) h2) (fun i j row u h1 h2 => hr i j row u (by rw [List.getElem?_take] at h1; split at h1 <;> first | exact h1 | cases h1) h2)
   rw [hlen] at key
   exact key
/-- Without its first elements. -/
theorem rd_slice_fromD {t e : TypeId} {x y : Operand} {sz bt bt' j : Nat} {z : Value} {rows rows' : List (List D)} {n' : Int} {kd : IntKind} (hu : c.P.underlying t = some (.slice e)) (hi : Inf c.P e sz bt z) (ho : o.op = .slice t x (some y) none none) (hx : s.ev x = some (.d (.sl sz bt' rows))) (hy : s.ev y = some (.d (.p (.int kd n')))) (hk : n' = (j : Int)) (hle : j ≤ rows.length) (hr : rows.drop j = rows') :
  RD c o s (.d (.sl sz bt' rows')) := fun g a w hs => by
 subst hk hr
 have h := hs.ev hx
 have hyv := VRep.p_eq (hs.ev hy)
 generalize hxx : a.eval x = u at h
 cases h with
 | d _ _ h =>
  cases h with
  | sl _ _ _ ad cap b o' f hcp ha hl hc hr =>
   have hlen : (rows.drop j).length = rows.length - j := by rw [List.length_drop]
   have h0 : (0 : Int) ≤ (j : Int) ∧ (j : Int) ≤ (rows.length : Int) := by omega
   have hrun : ∀ w', (execOp a.eval o).run c.P w' = .ok (.value (.slice (if cap = j then ad else ad.map (·.add (j * sz))) (rows.length - j) (cap - j))) w' := fun w' => by
    simp only [execOp, ho, hxx, hyv, Option.map_some, Option.map_none]
    simp only [Instr.sliceAt, Instr.slice, Sem.run_bind, run_underlying hu, Result.andThen_ok, Instr.sliceBounds, run_sliceBound _ kd _ _ _ h0.1 h0.2, Sem.run_pure, run_sizeOf hi, Int.toNat_natCast]
   refine ⟨_, .d _ _ ?_, fun w' _ => hrun w'⟩
   have key := DRep.sl (w := w) (q := qt c s.H g) sz bt' (rows.drop j) (if cap = j then ad else ad.map (·.add (j * sz))) (cap - j) b (o' + j * sz) (fun i k => f (j + i) k) (by omega) (fun hne => by
     have hne' : j < rows.length := by
      rcases Nat.lt_or_ge j rows.length with h | h
      ·exact h
      ·exact absurd (List.drop_eq_nil_of_le h) hne
     obtain ⟨h1, h2⟩ := ha (by rintro rfl; simp at hne)
     rw [if_neg (by omega), h1]
     exact ⟨by simp [Addr.add], h2⟩) (by rw [hlen]; exact Nat.le_trans (Nat.mul_le_mul_right _ (by omega)) hl)
    (fun i k row u h1 h2 => by
     rw [List.getElem?_drop] at h1
     have := hc (j + i) k row u h1 h2
     rw [Nat.add_mul, ← Nat.add_assoc] at this
     exact this) (fun i k row u h1 h2 => hr (j + i) k row u (by rw [List.getElem?_drop] at h1; exact h1) h2)
   rw [hlen] at key
   exact key
end

/-- The number that bytes tell, the highest first. -/
def numB (l : List Nat) : Nat := l.foldl (fun n c => n * 256 + c) 0
theorem numB_snoc (l : List Nat) (c : Nat) : numB (l ++ [c]) = numB l * 256 + c := by simp [numB, List.foldl_append]
theorem numB_ltA : ∀ (l : List Nat) (n : Nat), (∀ c ∈ l, c < 256) → l.foldl (fun n c => n * 256 + c) n < (n + 1) * 256 ^ l.length
 | [], n, _ => by simp
 | c :: l, n, h => by
  have h1 := numB_ltA l (n * 256 + c) fun x hx => h x (by simp [hx])
  have h2 := h c (by simp)
  rw [List.foldl_cons, List.length_cons, Nat.pow_succ]
  have h3 : (n * 256 + c + 1) * 256 ^ l.length ≤ ((n + 1) * 256) * 256 ^ l.length := Nat.mul_le_mul_right _ (by omega)
  have h4 : (n + 1) * 256 * 256 ^ l.length = (n + 1) * (256 ^ l.length * 256) := by rw [Nat.mul_assoc, Nat.mul_comm 256]
  omega
theorem numB_lt (l : List Nat) (h : ∀ c ∈ l, c < 256) : numB l < 256 ^ l.length := by
 have := numB_ltA l 0 h
 simpa [numB] using this
theorem numB_lt4 (l : List Nat) (h : ∀ c ∈ l, c < 256) (hl : l.length ≤ 4) : numB l < 4294967296 := by
 have h1 := numB_lt l h
 have h2 : 256 ^ l.length ≤ 256 ^ 4 := Nat.pow_le_pow_right (by decide) hl
 have h3 : 256 ^ 4 = 4294967296 := by decide
 omega
/-- Bytes that are left. -/
abbrev tkR (l : List Nat) : Row := ⟨91, [.d (bytesD l)], false, 0⟩
theorem fnd_twice {k0 : Nat} {x y : Row} {H : List (Nat × Row)} : ∀ k row, fnd ((k0, x) :: H) k = some row → fnd ((k0, x) :: (k0, y) :: H) k = some row := by
 intro k row h
 simp only [fnd, beq_iff_eq] at h ⊢
 by_cases e : k0 = k
 ·rw [if_pos e] at h ⊢; exact h
 ·rw [if_neg e] at h ⊢; rw [if_neg e]; exact h
theorem pc_take0 (l : List Nat) (n : Nat) (hb : ∀ c ∈ l, c < 256) (hn : n ≤ l.length) (hn4 : n ≤ 4) (H0 : List (Nat × Row)) (K : List V) : PC Try.prog 47 [.ref 900 0, .i n] ((900, tkR l) :: H0) K (fun v H' K' => v = .i (numB (l.take n)) ∧ H' = (900, tkR (l.drop n)) :: H0 ∧ K' = K) := by
 obtain ⟨T, hT⟩ : ∃ T, l.take n = T := ⟨_, rfl⟩
 have hTl : T.length = n := by rw [← hT, List.length_take]; omega
 have hTb : ∀ c ∈ T, c < 256 := fun c hc => hb c (List.mem_of_mem_take (hT ▸ hc))
 have hTm : (l.map encB).take n = T.map encB := by rw [← List.map_take, hT]
 have hDm : (l.map encB).drop n = (l.drop n).map encB := by rw [List.map_drop]
 have hlm : n ≤ (l.map encB).length := by rw [List.length_map]; exact hn
 have hlm2 : n ≤ l.length := hn
 rw [hT]
 refine PC.intro (n := 44) ⟨Try.func47, rfl, rfl, rfl, rfl⟩ (by simp) fun w0 out kx => AW.weaken ?_
 simp only [enum]
 refine AW.seq ?_
 refine AW.region ?_
 refine AL.rp rfl rfl (rp_assign rfl rfl) ?_
 refine AL.nil ?_
 try simp only [thenS, S.put, enum, List.nil_append, List.cons_append, List.append_nil, Nat.zero_add, Nat.reduceAdd]
 refine AW.seq ?_
 refine AW.seq ?_
 refine AW.region ?_
 refine AL.rp rfl rfl (rp_move rfl rfl) ?_
 refine AL.rp rfl rfl (rp_move rfl rfl) ?_
 (first | (refine AL.rp rfl rfl (rp_nilCheck rfl rfl) ?_) | (refine AL.rp rfl rfl (rp_nilCheck_ad rfl rfl) ?_))
 (first | (refine AL.rp rfl rfl (rp_field_ref Try.underlying91 rfl rfl rfl inf43 (by decide) rfl) ?_) | (refine AL.rp rfl rfl (rp_field_ad Try.underlying91 rfl rfl rfl inf43 (by decide) rfl) ?_))
 (first | (refine AL.rd rfl rfl (rd_load_ref Try.underlying43 rfl rfl rfl rfl rfl rfl) ?_) | (refine AL.rd rfl rfl (rd_load_ad Try.underlying43 rfl rfl rfl rfl) ?_) | (refine AL.rd rfl rfl (rd_load_map Try.underlying43 rfl rfl rfl rfl rfl rfl (by assumption)) ?_) | (refine AL.rd rfl rfl (rd_load_flat Try.underlying43 rfl rfl rfl rfl rfl rfl (fun _ => rfl) (by assumption) rfl) ?_))
 (first | (refine AL.rp rfl rfl (rp_len_map Try.underlying43 rfl rfl (by assumption)) ?_) | (refine AL.rp rfl rfl (rp_len_own Try.underlying43 rfl rfl) ?_) | (refine AL.rp rfl rfl (rp_len_sl Try.underlying43 rfl rfl) ?_) | (refine AL.rp rfl rfl (rp_len_nil Try.underlying43 rfl rfl) ?_) | (refine AL.rp rfl rfl (rp_len_str Try.underlying43 rfl rfl) ?_))
 (first | (refine AL.rp rfl rfl (rp_gtrT rfl rfl rfl (by first | assumption | omega | (dsimp only; omega))) ?_) | (refine AL.rp rfl rfl (rp_gtrF rfl rfl rfl (by first | assumption | omega | (dsimp only; omega))) ?_) | (refine AL.rp rfl rfl (rp_gtr rfl rfl rfl) ?_))
 refine AL.nil ?_
 try simp only [thenS, S.put]
 refine AW.condF rfl ?_
 refine AW.skip ?_
 try simp only [thenS]
 refine AW.seq ?_
 refine AW.region ?_
 refine AL.rp rfl rfl (rp_assign rfl rfl) ?_
 refine AL.nil ?_
 try simp only [thenS, S.put]
 refine AW.seq ?_
 refine AW.seq ?_
 refine AW.region ?_
 refine AL.rp rfl rfl (rp_move rfl rfl) ?_
 (first | (refine AL.rp rfl rfl (rp_nilCheck rfl rfl) ?_) | (refine AL.rp rfl rfl (rp_nilCheck_ad rfl rfl) ?_))
 (first | (refine AL.rp rfl rfl (rp_field_ref Try.underlying91 rfl rfl rfl inf43 (by decide) rfl) ?_) | (refine AL.rp rfl rfl (rp_field_ad Try.underlying91 rfl rfl rfl inf43 (by decide) rfl) ?_))
 (first | (refine AL.rd rfl rfl (rd_load_ref Try.underlying43 rfl rfl rfl rfl rfl rfl) ?_) | (refine AL.rd rfl rfl (rd_load_ad Try.underlying43 rfl rfl rfl rfl) ?_) | (refine AL.rd rfl rfl (rd_load_map Try.underlying43 rfl rfl rfl rfl rfl rfl (by assumption)) ?_) | (refine AL.rd rfl rfl (rd_load_flat Try.underlying43 rfl rfl rfl rfl rfl rfl (fun _ => rfl) (by assumption) rfl) ?_))
 refine AL.rp rfl rfl (rp_move rfl rfl) ?_
 (first | (refine AL.rd rfl rfl (rp_slice_own Try.underlying43 inf5 rfl rfl rfl (by first | rfl | omega) (by omega)) ?_) | (refine AL.rd rfl rfl (rd_slice_to Try.underlying43 inf5 rfl rfl rfl (by first | rfl | omega) (by first | assumption | omega) (by assumption)) ?_))
 (first | (refine AL.rp rfl rfl (rp_len_map Try.underlying43 rfl rfl (by assumption)) ?_) | (refine AL.rp rfl rfl (rp_len_own Try.underlying43 rfl rfl) ?_) | (refine AL.rp rfl rfl (rp_len_sl Try.underlying43 rfl rfl) ?_) | (refine AL.rp rfl rfl (rp_len_nil Try.underlying43 rfl rfl) ?_) | (refine AL.rp rfl rfl (rp_len_str Try.underlying43 rfl rfl) ?_))
 refine AL.rp rfl rfl (rp_move rfl rfl) ?_
 refine AL.nil ?_
 try simp only [thenS, S.put]
 refine AW.block ?_
 refine AW.loop (fun s' => ∃ i : Nat, i ≤ n ∧ s' = ⟨44, [(0, .ref 900 0), (1, .i n), (5, .i (numB (T.take i))), (22, .d (bytesD T)), (23, .i n), (24, .i i)], (900, tkR l) :: H0, K⟩) (fun s => n - s.nat 24) ?_ ?_
 ·refine ⟨_, ?_, 0, Nat.zero_le _, rfl⟩
  exact Less.ofT (T' := [(0, _), (1, _), (5, _), (22, _), (23, _), (24, _)]) ⟨⟨_, rfl, Wk.refl _⟩, ⟨_, rfl, Wk.refl _⟩, ⟨_, rfl, Wk.refl _⟩, ⟨_, rfl, Wk.refl _⟩, ⟨_, rfl, Wk.refl _⟩, ⟨_, rfl, Wk.refl _⟩, trivial⟩
 rintro s' ⟨i, hi, rfl⟩
 by_cases hlt : i < n
 ·obtain ⟨c, hc⟩ := get_lt hTl hlt
  have hc2 := hTb c (List.mem_of_getElem? hc)
  have hsn : numB (T.take (i + 1)) = numB (T.take i) * 256 + c := by rw [take_snoc hc, numB_snoc]
  have hX := numB_lt4 (T.take i) (fun x hx => hTb x (List.mem_of_mem_take hx)) (by rw [List.length_take]; omega)
  obtain ⟨X, hXd⟩ : ∃ X, numB (T.take i) = X := ⟨_, rfl⟩
  rw [hXd] at hX hsn ⊢
  refine AW.seq ?_
  refine AW.region ?_
  (first | (refine AL.rp rfl rfl (rp_lssT rfl rfl rfl (by first | assumption | omega | (dsimp only; omega))) ?_) | (refine AL.rp rfl rfl (rp_lssF rfl rfl rfl (by first | assumption | omega | (dsimp only; omega))) ?_) | (refine AL.rp rfl rfl (rp_lss rfl rfl rfl) ?_))
  refine AL.nil ?_
  try simp only [thenS, S.put]
  refine AW.seq ?_
  refine AW.condT rfl ?_
  refine AW.skip ?_
  try simp only [thenS]
  refine AW.seq ?_
  refine AW.block ?_
  refine AW.seq ?_
  refine AW.region ?_
  (first | (refine AL.rp rfl rfl (rp_index_map Try.underlying43 inf5 rfl rfl rfl rfl (by assumption)) ?_) | (refine AL.rp rfl rfl (rp_index_own Try.underlying43 inf5 rfl rfl rfl rfl (by first | assumption | omega)) ?_) | (refine AL.rp rfl rfl (rd_index_sl Try.underlying43 inf5 rfl rfl rfl rfl (by assumption)) ?_) | (refine AL.rp rfl rfl (rp_index_own Try.underlying43 inf5 rfl rfl rfl (by omega) (by omega)) ?_))
  (first | (refine AL.rd rfl rfl (rd_load_ref Try.underlying5 rfl rfl rfl rfl rfl rfl) ?_) | (refine AL.rd rfl rfl (rd_load_ad Try.underlying5 rfl rfl rfl rfl) ?_) | (refine AL.rd rfl rfl (rd_load_map Try.underlying5 rfl rfl rfl rfl rfl rfl (by assumption)) ?_) | (refine AL.rd rfl rfl (rd_load_flat Try.underlying5 rfl rfl rfl rfl rfl rfl (fun _ => rfl) (by assumption) rfl) ?_))
  refine AL.rp rfl rfl (rp_assign rfl rfl) ?_
  refine AL.nil ?_
  try simp only [thenS, S.put]
  refine AW.region ?_
  refine AL.rp rfl rfl (rp_move rfl rfl) ?_
  refine AL.rp rfl rfl (rp_shlI (8) rfl rfl rfl (by first | rfl | omega) (by omega) (r := ((X * 256 : Nat) : Int)) (by omega) (by omega)) ?_
  refine AL.rp rfl rfl (rp_move rfl rfl) ?_
  refine AL.rp rfl rfl (rp_conv Try.underlying5 (by intro e h; cases h) (by intro h; cases h) Try.underlying3 rfl rfl (r := (c : Int)) (by first | (rw [wrap8]; omega) | (rw [wrap8]; dsimp only; omega) | (rw [wrap16]; omega) | (rw [wrap64 (by omega)] <;> omega) | (rw [wrapU64 (by omega)] <;> omega))) ?_
  refine AL.rp rfl rfl (rp_orI (X) (c) rfl rfl rfl (by omega) (by omega) (by omega) (by omega)) ?_
  refine AL.rp rfl rfl (rp_assign rfl rfl) ?_
  refine AL.nil ?_
  try simp only [thenS, S.put]
  refine AW.region ?_
  refine AL.rp rfl rfl (rp_add rfl rfl rfl (by first | omega | (dsimp only; omega))) ?_
  refine AL.rp rfl rfl (rp_move rfl rfl) ?_
  refine AL.nil ?_
  try simp only [thenS, S.put]
  refine ⟨_, ?_, ⟨i + 1, by omega, rfl⟩, ?_⟩
  ·rw [hsn]
   exact Less.ofT (T' := [(0, _), (1, _), (5, _), (22, _), (23, _), (24, _)]) ⟨⟨_, rfl, Wk.refl _⟩, ⟨_, rfl, Wk.refl _⟩, ⟨_, rfl, Wk.refl _⟩, ⟨_, rfl, Wk.refl _⟩, ⟨_, rfl, Wk.refl _⟩, ⟨_, rfl, Wk.refl _⟩, trivial⟩
  ·simp [S.nat, fnd]; omega
 ·rw [List.take_of_length_le (by omega)]
  refine AW.seq ?_
  refine AW.region ?_
  (first | (refine AL.rp rfl rfl (rp_lssT rfl rfl rfl (by first | assumption | omega | (dsimp only; omega))) ?_) | (refine AL.rp rfl rfl (rp_lssF rfl rfl rfl (by first | assumption | omega | (dsimp only; omega))) ?_) | (refine AL.rp rfl rfl (rp_lss rfl rfl rfl) ?_))
  refine AL.nil ?_
  try simp only [thenS, S.put]
  refine AW.seq ?_
  refine AW.condF rfl ?_
  refine AW.exit ?_
  try simp only [thenS, inBlockS, ↓reduceIte, Nat.reduceEqDiff]
  refine AW.seq ?_
  refine AW.region ?_
  refine AL.rp rfl rfl (rp_move rfl rfl) ?_
  refine AL.rp rfl rfl (rp_move rfl rfl) ?_
  (first | (refine AL.rp rfl rfl (rp_nilCheck rfl rfl) ?_) | (refine AL.rp rfl rfl (rp_nilCheck_ad rfl rfl) ?_))
  (first | (refine AL.rp rfl rfl (rp_field_ref Try.underlying91 rfl rfl rfl inf43 (by decide) rfl) ?_) | (refine AL.rp rfl rfl (rp_field_ad Try.underlying91 rfl rfl rfl inf43 (by decide) rfl) ?_))
  (first | (refine AL.rd rfl rfl (rd_load_ref Try.underlying43 rfl rfl rfl rfl rfl rfl) ?_) | (refine AL.rd rfl rfl (rd_load_ad Try.underlying43 rfl rfl rfl rfl) ?_) | (refine AL.rd rfl rfl (rd_load_map Try.underlying43 rfl rfl rfl rfl rfl rfl (by assumption)) ?_) | (refine AL.rd rfl rfl (rd_load_flat Try.underlying43 rfl rfl rfl rfl rfl rfl (fun _ => rfl) (by assumption) rfl) ?_))
  refine AL.rp rfl rfl (rp_move rfl rfl) ?_
  (first | (refine AL.rd rfl rfl (rd_slice_que (j := n) Try.underlying43 inf5 rfl rfl rfl (by omega) (by omega)) ?_) | (refine AL.rd rfl rfl (rd_slice_fromD (j := n) Try.underlying43 inf5 rfl rfl rfl (by first | rfl | omega) (by first | assumption | omega) (by assumption)) ?_))
  (first | (refine AL.rp rfl rfl (rp_nilCheck rfl rfl) ?_) | (refine AL.rp rfl rfl (rp_nilCheck_ad rfl rfl) ?_))
  (first | (refine AL.rp rfl rfl (rp_field_ref Try.underlying91 rfl rfl rfl inf43 (by decide) rfl) ?_) | (refine AL.rp rfl rfl (rp_field_ad Try.underlying91 rfl rfl rfl inf43 (by decide) rfl) ?_))
  (first | (refine AL.st rfl (st_store_map2 inf43 rfl rfl rfl rfl rfl rfl rfl rfl (by first | assumption | omega)) ?_) | (refine AL.st rfl (st_store inf43 rfl rfl rfl rfl rfl rfl rfl (by first | decide | (simp; done)) rfl) ?_))
  refine AL.nil ?_
  try simp only [thenS, S.put, S.newObj, setL, V.cs, List.length_cons, List.length_nil, List.take_succ_cons, List.take_zero, List.drop_succ_cons, List.drop_zero, List.drop_nil, List.nil_append, List.cons_append, List.append_nil, Nat.zero_add, Nat.reduceAdd, List.map_cons, List.map_nil, List.set_cons_zero, List.set_cons_succ]
  refine AW.seq ?_
  refine AW.region ?_
  refine AL.rp rfl rfl (rp_move rfl rfl) ?_
  refine AL.rp rfl rfl (rp_assign rfl rfl) ?_
  refine AL.nil ?_
  try simp only [thenS, S.put]
  refine AW.ret ?_
  exact ⟨⟨44, [(4, .i (numB T))], (900, tkR (l.drop n)) :: H0, K⟩, ⟨rfl, fun i v h => LT.get (l := [(4, _)]) ⟨⟨_, rfl, Wk.refl _⟩, trivial⟩ i v h, fun k row h => ⟨row, fnd_twice k row h, rfl, rfl, rfl, fun j v hv => ⟨v, hv, .refl _⟩⟩, fun j v h => ⟨v, h, .refl _⟩⟩, [_], ⟨rfl, trivial⟩, rfl, rfl, rfl⟩
theorem px_take0 (l : List Nat) (n : Nat) (hn : l.length < n) (H0 : List (Nat × Row)) (K : List V) : PX Try.prog 47 [.ref 900 0, .i n] ((900, tkR l) :: H0) K shortC := by
 have hn' : ((l.map encB).length : Int) < (n : Int) := by rw [List.length_map]; omega
 have hlm : (l.map encB).length = l.length := List.length_map ..
 refine PX.intro (n := 44) ⟨Try.func47, rfl, rfl, rfl, rfl⟩ (by simp) fun w0 out kx => ?_
 simp only [enum]
 refine AW.seq ?_
 refine AW.region ?_
 refine AL.rp rfl rfl (rp_assign rfl rfl) ?_
 refine AL.nil ?_
 try simp only [thenS, S.put, enum, List.nil_append, List.cons_append, List.append_nil, Nat.zero_add, Nat.reduceAdd]
 refine AW.seq ?_
 refine AW.seq ?_
 refine AW.region ?_
 refine AL.rp rfl rfl (rp_move rfl rfl) ?_
 refine AL.rp rfl rfl (rp_move rfl rfl) ?_
 (first | (refine AL.rp rfl rfl (rp_nilCheck rfl rfl) ?_) | (refine AL.rp rfl rfl (rp_nilCheck_ad rfl rfl) ?_))
 (first | (refine AL.rp rfl rfl (rp_field_ref Try.underlying91 rfl rfl rfl inf43 (by decide) rfl) ?_) | (refine AL.rp rfl rfl (rp_field_ad Try.underlying91 rfl rfl rfl inf43 (by decide) rfl) ?_))
 (first | (refine AL.rd rfl rfl (rd_load_ref Try.underlying43 rfl rfl rfl rfl rfl rfl) ?_) | (refine AL.rd rfl rfl (rd_load_ad Try.underlying43 rfl rfl rfl rfl) ?_) | (refine AL.rd rfl rfl (rd_load_map Try.underlying43 rfl rfl rfl rfl rfl rfl (by assumption)) ?_) | (refine AL.rd rfl rfl (rd_load_flat Try.underlying43 rfl rfl rfl rfl rfl rfl (fun _ => rfl) (by assumption) rfl) ?_))
 (first | (refine AL.rp rfl rfl (rp_len_map Try.underlying43 rfl rfl (by assumption)) ?_) | (refine AL.rp rfl rfl (rp_len_own Try.underlying43 rfl rfl) ?_) | (refine AL.rp rfl rfl (rp_len_sl Try.underlying43 rfl rfl) ?_) | (refine AL.rp rfl rfl (rp_len_nil Try.underlying43 rfl rfl) ?_) | (refine AL.rp rfl rfl (rp_len_str Try.underlying43 rfl rfl) ?_))
 (first | (refine AL.rp rfl rfl (rp_gtrT rfl rfl rfl (by first | assumption | omega | (dsimp only; omega))) ?_) | (refine AL.rp rfl rfl (rp_gtrF rfl rfl rfl (by first | assumption | omega | (dsimp only; omega))) ?_) | (refine AL.rp rfl rfl (rp_gtr rfl rfl rfl) ?_))
 refine AL.nil ?_
 try simp only [thenS, S.put]
 refine AW.condT rfl ?_
 refine AW.region ?_
 refine AL.rp rfl rfl (rp_build (vs := []) (zs := []) pl110 inf110 rfl rfl rfl rfl) ?_
 (first | (refine AL.rp rfl rfl (rp_mkP rfl rfl (fun _ _ => by kernel_rfl)) ?_) | (refine AL.rp rfl rfl (rp_mkA [] rfl rfl rfl (fun _ _ => by kernel_rfl)) ?_) | (refine AL.rp rfl rfl (rp_mkIfc rfl rfl (fun _ _ => by kernel_rfl)) ?_))
 refine AL.wx rfl (wx_panic rfl rfl (fun _ => by kernel_rfl) ?_)
 exact ⟨rfl, rfl, rfl⟩
end Go.Proofs.Ythlcginebeapdaa
