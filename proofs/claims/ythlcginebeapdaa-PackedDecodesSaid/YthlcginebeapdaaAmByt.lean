/- Numbers of 8 and 16 bits, shifts, conversions; bytes as a string. -/
import Derived.Laws.BytesArg
import Derived.Laws.BitsAllLaws
import Derived.Test.YthlcginebeapdaaAmE
namespace Go.Proofs.Ythlcginebeapdaa
open Go.RowKit
set_option linter.unusedSimpArgs false
set_option linter.unusedVariables false

abbrev V.k (k : IntKind) (n : Int) : V := .d (.p (.int k n))
abbrev vB (x : Nat) : V := .k .u8 (x : Int)
abbrev encB (x : Nat) : List D := [.p (.int .u8 (x : Int))]
abbrev bytesD (l : List Nat) : D := .sl 1 1 (l.map encB)
def baN (l : List Nat) : ByteArray := strOfNums (l.map Int.ofNat)
section
variable {c : Cx} {s : S} {o : Oper}
theorem rp_k {k : IntKind} {m n : Int} (h : RP c o s (.k k m)) (e : m = n) : RP c o s (.k k n) := by subst e; exact h
/-- A shift to the right, of an int. -/
theorem rp_shr {t t' : TypeId} {x y : Operand} {kd : IntKind} {m n' r : Int} (n : Nat) (ho : o.op = .binOp .shr t x y t') (hx : s.ev x = some (.i m)) (hy : s.ev y = some (.k kd n')) (hn : n' = (n : Int)) (h : n ≤ 64) (hr : m / 2 ^ n = r) : RP c o s (.i r) :=
  rp_bin ho hx hy fun w => by
    subst hn hr
    have h1 : ¬ ((n : Int) < 0) := by omega
    have h2 : min n 64 = n := by omega
    have h3 : Int.fdiv m (2 ^ n) = m / 2 ^ n := Int.fdiv_eq_ediv_of_nonneg _ (Int.le_of_lt (Int.pow_pos (by decide)))
    simp [eqGuard, binOp, Op.shift, h1, h2, IntKind.bits, h3]
/-- A shift to the left, of 16 bits. -/
theorem rp_shl16 {t t' : TypeId} {x y : Operand} {kd : IntKind} {m n' : Int} {r : Int} (n : Nat) (ho : o.op = .binOp .shl t x y t') (hx : s.ev x = some (.k .u16 m)) (hy : s.ev y = some (.k kd n')) (hn : n' = (n : Int)) (h : n ≤ 16) (hr : m * 2 ^ n % 65536 = r) : RP c o s (.k .u16 r) :=
  rp_bin ho hx hy fun w => by
    subst hn hr
    have h1 : ¬ ((n : Int) < 0) := by omega
    have h2 : min n 16 = n := by omega
    simp [eqGuard, binOp, Op.shift, h1, h2, IntKind.bits, IntKind.wrap_u16]
theorem ofInt16 {m : Nat} (h : m < 65536) : (BitVec.ofInt 16 (m : Int)).toNat = m := by
  rw [BitVec.toNat_ofInt]
  omega
theorem rp_xor16 {t t' : TypeId} {x y : Operand} {m' n' : Int} (m n : Nat) (ho : o.op = .binOp .xor t x y t') (hx : s.ev x = some (.k .u16 m')) (hy : s.ev y = some (.k .u16 n')) (hm' : m' = (m : Int)) (hn' : n' = (n : Int)) (hm : m < 65536) (hn : n < 65536) : RP c o s (.k .u16 ((m ^^^ n : Nat) : Int)) :=
  rp_bin ho hx hy fun w => by
    subst hm' hn'
    have hl : m ^^^ n < 65536 := Nat.xor_lt_two_pow (n := 16) hm hn
    have h2 : (BitVec.ofInt 16 (m : Int) ^^^ BitVec.ofInt 16 (n : Int)).toNat = m ^^^ n := by rw [BitVec.toNat_xor, ofInt16 hm, ofInt16 hn]
    have h3 : (((m ^^^ n : Nat) : Int) % 65536) = ((m ^^^ n : Nat) : Int) := by omega
    have h4 : (Op.intBits .xor .u16 (m : Int) (n : Int)).run c.P w = .ok (.int .u16 ((m ^^^ n : Nat) : Int)) w := by
      show Result.ok (Value.int .u16 (IntKind.u16.wrap ((BitVec.ofInt 16 (m : Int) ^^^ BitVec.ofInt 16 (n : Int)).toNat : Int))) w = _
      rw [h2, IntKind.wrap_u16, h3]
    simp only [Sem.run_bind, eqGuard, binOp]
    simpa using h4
/-- The top bit of 16. -/
theorem rp_and16 {t t' : TypeId} {x y : Operand} {m' : Int} (m : Nat) (ho : o.op = .binOp .and t x y t') (hx : s.ev x = some (.k .u16 m')) (hy : s.ev y = some (.k .u16 32768)) (hm' : m' = (m : Int)) (hm : m < 65536) : RP c o s (.k .u16 (if m.testBit 15 then 32768 else 0)) :=
  rp_bin ho hx hy fun w => by
    subst hm'
    have h2 : (BitVec.ofInt 16 (m : Int) &&& BitVec.ofInt 16 (32768 : Int)).toNat = if m.testBit 15 then 32768 else 0 := by
      rw [BitVec.toNat_and, ofInt16 hm, show (BitVec.ofInt 16 (32768 : Int)).toNat = 2 ^ 15 from by decide]
      refine Nat.eq_of_testBit_eq fun i => ?_
      rw [Nat.testBit_and, Nat.testBit_two_pow]
      by_cases e : 15 = i
      · subst e
        cases m.testBit 15 <;> simp [show Nat.testBit 32768 15 = true from by decide]
      · have h3 : Nat.testBit 32768 i = false := by rw [show (32768 : Nat) = 2 ^ 15 from rfl, Nat.testBit_two_pow]; simp [e]
        cases m.testBit 15 <;> simp [e, h3]
    have h4 : (Op.intBits .and .u16 (m : Int) 32768).run c.P w = .ok (.int .u16 (if m.testBit 15 then 32768 else 0)) w := by
      show Result.ok (Value.int .u16 (IntKind.u16.wrap ((BitVec.ofInt 16 (m : Int) &&& BitVec.ofInt 16 (32768 : Int)).toNat : Int))) w = _
      rw [h2, IntKind.wrap_u16]
      cases m.testBit 15 <;> rfl
    simp only [Sem.run_bind, eqGuard, binOp]
    simpa using h4
theorem rp_and16T {t t' : TypeId} {x y : Operand} {m' : Int} (m : Nat) (ho : o.op = .binOp .and t x y t') (hx : s.ev x = some (.k .u16 m')) (hy : s.ev y = some (.k .u16 32768)) (hm' : m' = (m : Int)) (hm : m < 65536) (h : m.testBit 15 = true) : RP c o s (.k .u16 32768) := rp_k (rp_and16 m ho hx hy hm' hm) (by rw [h]; rfl)
theorem rp_and16F {t t' : TypeId} {x y : Operand} {m' : Int} (m : Nat) (ho : o.op = .binOp .and t x y t') (hx : s.ev x = some (.k .u16 m')) (hy : s.ev y = some (.k .u16 32768)) (hm' : m' = (m : Int)) (hm : m < 65536) (h : m.testBit 15 = false) : RP c o s (.k .u16 0) := rp_k (rp_and16 m ho hx hy hm' hm) (by rw [h]; rfl)
/-- A number as one of another kind. -/
theorem rp_conv {t t' : TypeId} {x : Operand} {k k' : IntKind} {d : TypeDesc} {m r : Int} (hu : c.P.underlying t = some d) (hd : ∀ e, d ≠ .slice e) (hd' : d ≠ .unsafePointer) (hu' : c.P.underlying t' = some (.int k)) (ho : o.op = .convert t t' x) (hx : s.ev x = some (.k k' m)) (hr : k.wrap m = r) : RP c o s (.k k r) := fun g a w hs =>
  ⟨.int k r, .d _ _ (.p _), fun w' => by
    subst hr
    simp only [execOp, ho, VRep.p_eq (hs.ev hx)]
    simp [convert, run_underlying hu, run_underlying hu', Conv.intToInt]⟩
theorem wrap8 {m : Int} : IntKind.u8.wrap m = m % 256 := IntKind.wrap_u8 m
theorem wrap16 {m : Int} : IntKind.u16.wrap m = m % 65536 := IntKind.wrap_u16 m
theorem wrap64 {m : Int} (h : 0 ≤ m ∧ m ≤ 9223372036854775807) : IntKind.i64.wrap m = m := wrap_in (by omega) (by omega)
theorem wrapU64 {m : Int} (h : 0 ≤ m ∧ m ≤ 9223372036854775807) : IntKind.u64.wrap m = m := by rw [IntKind.wrap_u64]; omega
/-- Bytes as a string. -/
theorem rd_b2s {t t' e : TypeId} {x : Operand} {bt : Nat} (l : List Nat) (hu : c.P.underlying t = some (.slice e)) (he : c.P.underlying e = some (.int .u8)) (hu' : c.P.underlying t' = some .string) (ho : o.op = .convert t t' x) (hx : s.ev x = some (.d (.sl 1 bt (l.map encB)))) : RD c o s (.s (baN l)) := fun g a w hs => by
  have h := hs.ev hx
  generalize hxx : a.eval x = u at h
  cases h with
  | d _ _ h =>
    cases h with
    | sl _ _ _ ad cap b o' f _ ha hl hc hr =>
      refine ⟨.string (baN l), .d _ _ (.p _), fun w' hb => ?_⟩
      by_cases h0 : l = []
      · subst h0
        simp only [execOp, ho, hxx, List.map_nil, List.length_nil, Sem.run_bind]
        rw [run_convert_bytes_string w' t t' e ad 0 cap hu he hu']
        cases ad with
        | none => simp [Conv.bytesToString]; rfl
        | some a' =>
          have := run_bytesToString (P := c.P) w' a' 0 cap [] (by simp [loadCells, loadCellsFrom])
          rw [this]
          rfl
      · obtain ⟨rfl, hq, hlt⟩ := ha (by simpa using h0)
        have hcell : ∀ i, i < (l.map encB).length → w'.cell? ⟨b, o' + i, none⟩ = some (.int .u8 ((l.map Int.ofNat).getD i 0)) := by
          intro i hi
          have hi' : i < l.length := by simpa using hi
          have h1 := hc i 0 (encB l[i]) (.p (.int .u8 (l[i] : Int))) (by simp [hi']) rfl
          have h2 := hr i 0 (encB l[i]) (.p (.int .u8 (l[i] : Int))) (by simp [hi']) rfl
          have h3 : f i 0 = .int .u8 (l[i] : Int) := by generalize f i 0 = u at h2; cases h2; rfl
          rw [Nat.mul_one, Nat.add_zero, h3] at h1
          rw [(hb.cell (p := ⟨b, o' + i, none⟩) hlt).trans h1, List.getD_eq_getElem?_getD, List.getElem?_map, List.getElem?_eq_getElem hi']
          rfl
        have := run_convert_bytes_arg (P := c.P) w' t e hu he b o' (l.map encB).length cap (l.map Int.ofNat) (by simp) hcell t' hu'
        simp only [execOp, ho, hxx, Sem.run_bind, this, Result.andThen_ok]
        rfl
theorem rd_b2s_own {t t' e : TypeId} {x : Operand} {r n : Nat} {row : Row} (l : List Nat) (hu : c.P.underlying t = some (.slice e)) (he : c.P.underlying e = some (.int .u8)) (hu' : c.P.underlying t' = some .string) (ho : o.op = .convert t t' x) (hx : s.ev x = some (.own r 1 n false)) (hr : fnd s.H r = some row) (hnl : row.nil = false)
    (hrow : row.cells.take n = l.map vB) (hln : l.length = n) : RD c o s (.s (baN l)) := fun g a w hs => by
  have h := hs.ev hx
  obtain ⟨arr, h1, _, h2⟩ := hs.obj r row hr hnl
  have hlt : (g r).1 < w.heap.size := (Array.getElem?_eq_some_iff.1 h1).1
  generalize hxx : a.eval x = u at h
  cases h with
  | own _ _ _ hn hcap =>
    refine ⟨.string (baN l), .d _ _ (.p _), fun w' hb => ?_⟩
    have hcell : ∀ i, i < n → w'.cell? ⟨(g r).1, 0 + i, none⟩ = some (.int .u8 ((l.map Int.ofNat).getD i 0)) := by
      intro i hi
      have hi' : i < l.length := by omega
      have hk : row.cells[i]? = some (V.k .u8 (l[i] : Int)) := by
        have := congrArg (fun l => l[i]?) hrow
        simp only [List.getElem?_take, if_pos hi, List.getElem?_map, List.getElem?_eq_getElem hi', Option.map_some] at this
        exact this
      obtain ⟨y, h3, h4⟩ := h2 i _ hk
      have h5 := VRep.p_eq h4
      subst h5
      rw [Nat.zero_add, (hb.cell (p := ⟨(g r).1, i, none⟩) hlt).trans ((cell_of_row w _ _ _ _ _ h1).trans h3), List.getD_eq_getElem?_getD, List.getElem?_map, List.getElem?_eq_getElem hi']
      rfl
    have := run_convert_bytes_arg (P := c.P) w' t e hu he (g r).1 0 n (g r).2 (l.map Int.ofNat) (by simp [hln]) hcell t' hu'
    simp only [execOp, ho, hxx, Sem.run_bind, this, Result.andThen_ok]
    rfl
end
theorem baN_inj {l m : List Nat} (hl : ∀ x ∈ l, x < 256) (hm : ∀ x ∈ m, x < 256) (h : baN l = baN m) : l = m := by
  have h1 : l.map (fun x => UInt8.ofNat x) = m.map (fun x => UInt8.ofNat x) := by
    have := congrArg (fun b : ByteArray => b.data.toList) h
    simpa [baN, strOfNums, Function.comp_def] using this
  clear h
  induction l generalizing m with
  | nil => cases m with | nil => rfl | cons => simp at h1
  | cons a l ih =>
    cases m with
    | nil => simp at h1
    | cons b m =>
      simp only [List.map_cons, List.cons.injEq] at h1
      have ha := hl a (by simp)
      have hb := hm b (by simp)
      have : a = b := by
        have := congrArg UInt8.toNat h1.1
        simpa [UInt8.toNat_ofNat', Nat.mod_eq_of_lt ha, Nat.mod_eq_of_lt hb] using this
      rw [this, ih (fun x hx => hl x (by simp [hx])) (fun x hx => hm x (by simp [hx])) h1.2]
end Go.Proofs.Ythlcginebeapdaa
