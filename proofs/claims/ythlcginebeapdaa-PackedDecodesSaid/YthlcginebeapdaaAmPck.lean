-- %hmode
/- packed.sum, the document's split and its remainder. -/
import Derived.Test.YthlcginebeapdaaCrc
import Derived.Test.YthlcginebeapdaaAmByt
import Derived.Test.YthlcginebeapdaaAmZ
import Derived.Test.YthlcginebeapdaaAmY
import Derived.Test.YthlcginebeapdaaAmH
import Derived.Test.YthlcginebeapdaaAmCheck
namespace Go.Proofs.Ythlcginebeapdaa
open Go.RowKit
set_option linter.unusedSimpArgs false
set_option linter.unusedVariables false
set_option maxRecDepth 100000

theorem crcStep_T {s : Nat} (h : s.testBit 15 = true) : (s * 2 % 65536) ^^^ 4129 = crcStep s := by unfold crcStep; rw [if_pos h]
theorem crcStep_F {s : Nat} (h : s.testBit 15 = false) : s * 2 % 65536 = crcStep s := by unfold crcStep; rw [if_neg (by simp [h])]
theorem am_sum (l : List Nat) (hb : ∀ c ∈ l, c < 256) : Fn Try.prog 48 [.d (bytesD l)] (fun v => v = .k .u16 (crc l : Nat)) := by
 refine Fn.sl 0 rfl fun hbd => ?_
 rw [List.length_map] at hbd
 obtain ⟨n, hn⟩ : ∃ n, l.length = n := ⟨_, rfl⟩
 refine Fn.intro (n := 31) ⟨Try.func48, rfl, rfl, rfl, rfl⟩ (by simp [V.pure, V.has, V.hasL]) (by simp) fun w0 out => ?_
 refine AW.seq ?_
 refine AW.region ?_
 refine AL.rp rfl rfl (rp_assign rfl rfl) ?_
 refine AL.nil ?_
 try simp only [thenS, S.put, enum, List.nil_append, List.cons_append, List.append_nil, Nat.zero_add, Nat.reduceAdd]
 refine AW.seq ?_
 refine AW.region ?_
 refine AL.rp rfl rfl (rp_assign rfl rfl) ?_
 refine AL.nil ?_
 try simp only [thenS, S.put]
 refine AW.seq ?_
 refine AW.seq ?_
 refine AW.region ?_
 refine AL.rp rfl rfl (rp_move rfl rfl) ?_
 (first | (refine AL.rp rfl rfl (rp_len_map Try.underlying43 rfl rfl (by assumption)) ?_) | (refine AL.rp rfl rfl (rp_len_own Try.underlying43 rfl rfl) ?_) | (refine AL.rp rfl rfl (rp_len_sl Try.underlying43 rfl rfl) ?_) | (refine AL.rp rfl rfl (rp_len_nil Try.underlying43 rfl rfl) ?_) | (refine AL.rp rfl rfl (rp_len_str Try.underlying43 rfl rfl) ?_) | (refine AL.rp rfl rfl (rp_len_que Try.underlying43 rfl rfl) ?_))
 refine AL.rp rfl rfl (rp_move rfl rfl) ?_
 refine AL.nil ?_
 try simp only [thenS, S.put]
 refine AW.block ?_
 refine AW.loop (fun s' => ∃ i : Nat, i ≤ n ∧ s' = ⟨31, [(0, .d (bytesD l)), (3, .k .u16 (((l.take i).foldl crcByte 65535 : Nat) : Int)), (7, .d (bytesD l)), (8, .i n), (9, .i i)], [], []⟩) (fun s => n - s.nat 9) ?_ ?_
 ·refine ⟨_, ?_, 0, Nat.zero_le _, rfl⟩
  rw [← hn]
  exact (Less.of rfl (by repeat (first | exact trivial | refine ⟨⟨_, rfl, Wk.refl _⟩, ?_⟩ | refine ⟨⟨_, rfl, Wk.nil _ _⟩, ?_⟩ | refine ⟨⟨_, rfl, Wk.junk _⟩, ?_⟩)) (by repeat (first | exact trivial | refine ⟨rfl, ?_⟩)) rfl)
 rintro s' ⟨i, hi, rfl⟩
 have hS := (crc_take hb i (by omega)).2
 obtain ⟨Z, hSd⟩ : ∃ Z, (l.take i).foldl crcByte 65535 = Z := ⟨_, rfl⟩
 rw [hSd] at hS ⊢
 by_cases hlt : i < n
 ·obtain ⟨c, hc⟩ := get_lt hn hlt
  have hc2 := hb c (List.mem_of_getElem? hc)
  have hsn : (l.take (i + 1)).foldl crcByte 65535 = crcIt 8 (Z ^^^ (c * 256)) := by rw [take_snoc hc, List.foldl_append, hSd]; rfl
  have hX : Z ^^^ (c * 256) < 65536 := Nat.xor_lt_two_pow (n := 16) hS (by omega)
  have h256 : c * 256 < 65536 := by omega
  obtain ⟨X, hXd⟩ : ∃ X, Z ^^^ (c * 256) = X := ⟨_, rfl⟩
  rw [hXd] at hX hsn
  refine AW.seq ?_
  refine AW.region ?_
  (first | (refine AL.rp rfl rfl (rp_lssT rfl rfl rfl (by first | assumption | omega | (dsimp only; omega))) ?_) | (refine AL.rp rfl rfl (rp_lssF rfl rfl rfl (by first | assumption | omega | (dsimp only; omega))) ?_) | (refine AL.rp rfl rfl (rp_lss rfl rfl rfl) ?_))
  refine AL.nil ?_
  try simp only [thenS, S.put]
  refine AW.seq ?_
  refine AW.condT rfl ?_
  refine AW.skip ?_
  try simp only [thenS]
  refine AW.seq ?_
  refine AW.block ?_
  refine AW.seq ?_
  refine AW.region ?_
  (first | (refine AL.rp rfl rfl (rp_index_map Try.underlying43 inf5 rfl rfl rfl rfl (by assumption)) ?_) | (refine AL.rp rfl rfl (rp_index_own Try.underlying43 inf5 rfl rfl rfl rfl (by first | assumption | omega)) ?_) | (refine AL.rp rfl rfl (rd_index_sl Try.underlying43 inf5 rfl rfl rfl rfl (by assumption)) ?_) | (refine AL.rp rfl rfl (rp_index_own Try.underlying43 inf5 rfl rfl rfl (by omega) (by omega)) ?_))
  (first | (refine AL.rd rfl rfl (rd_load_ref Try.underlying5 rfl rfl rfl rfl rfl rfl) ?_) | (refine AL.rd rfl rfl (rd_load_ad Try.underlying5 rfl rfl rfl rfl) ?_) | (refine AL.rd rfl rfl (rd_load_map Try.underlying5 rfl rfl rfl rfl rfl rfl (by assumption)) ?_) | (refine AL.rd rfl rfl (rd_load_flat Try.underlying5 rfl rfl rfl rfl rfl rfl (fun _ => rfl) (by assumption) rfl) ?_))
  refine AL.rp rfl rfl (rp_assign rfl rfl) ?_
  refine AL.nil ?_
  try simp only [thenS, S.put]
  refine AW.seq ?_
  refine AW.region ?_
  refine AL.rp rfl rfl (rp_move rfl rfl) ?_
  refine AL.rp rfl rfl (rp_move rfl rfl) ?_
  refine AL.rp rfl rfl (rp_conv Try.underlying5 (by intro e h; cases h) (by intro h; cases h) Try.underlying93 rfl rfl (r := (c : Int)) (by first | (rw [wrap8]; omega) | (rw [wrap8]; dsimp only; omega) | (rw [wrap16]; omega) | (rw [wrap64 (by omega)] <;> omega) | (rw [wrapU64 (by omega)] <;> omega))) ?_
  refine AL.rp rfl rfl (rp_shl16 (8) rfl rfl rfl (by first | rfl | omega) (by omega) (r := ((c * 256 : Nat) : Int)) (by first | assumption | rfl | omega)) ?_
  refine AL.rp rfl rfl (rp_xor16 (Z) (c * 256) rfl rfl rfl rfl rfl (by first | assumption | omega) (by first | assumption | omega)) ?_
  refine AL.rp rfl rfl (rp_assign rfl rfl) ?_
  refine AL.nil ?_
  try simp only [thenS, S.put]
  refine AW.seq ?_
  refine AW.region ?_
  refine AL.rp rfl rfl (rp_move rfl rfl) ?_
  refine AL.nil ?_
  try simp only [thenS, S.put]
  refine AW.block ?_
  rw [hXd]
  refine AW.loop (fun s' => ∃ j : Nat, j ≤ 8 ∧ s' = ⟨31, [(0, .d (bytesD l)), (3, .k .u16 ((crcIt j X : Nat) : Int)), (7, .d (bytesD l)), (8, .i n), (9, .i i), (18, .i j)], [], []⟩) (fun s => 8 - s.nat 18) ?_ ?_
  ·refine ⟨_, ?_, 0, Nat.zero_le _, rfl⟩
   exact (Less.of rfl (by repeat (first | exact trivial | refine ⟨⟨_, rfl, Wk.refl _⟩, ?_⟩ | refine ⟨⟨_, rfl, Wk.nil _ _⟩, ?_⟩ | refine ⟨⟨_, rfl, Wk.junk _⟩, ?_⟩)) (by repeat (first | exact trivial | refine ⟨rfl, ?_⟩)) rfl)
  rintro s' ⟨j, hj, rfl⟩
  by_cases hlj : j < 8
  ·have hY := crcIt_lt j X hX
   have hY2 : crcIt (j + 1) X = crcStep (crcIt j X) := rfl
   obtain ⟨Y, hYd⟩ : ∃ Y, crcIt j X = Y := ⟨_, rfl⟩
   rw [hYd] at hY hY2 ⊢
   have h2 : Y * 2 % 65536 < 65536 := Nat.mod_lt _ (by decide)
   have h41 : 4129 < 65536 := by decide
   cases ht : Y.testBit 15 with
   | true =>
    have hT := crcStep_T ht
    rw [← hY2] at hT
    refine AW.seq ?_
    refine AW.region ?_
    (first | (refine AL.rp rfl rfl (rp_lssT rfl rfl rfl (by first | assumption | omega | (dsimp only; omega))) ?_) | (refine AL.rp rfl rfl (rp_lssF rfl rfl rfl (by first | assumption | omega | (dsimp only; omega))) ?_) | (refine AL.rp rfl rfl (rp_lss rfl rfl rfl) ?_))
    refine AL.nil ?_
    try simp only [thenS, S.put]
    refine AW.seq ?_
    refine AW.condT rfl ?_
    refine AW.skip ?_
    try simp only [thenS]
    refine AW.seq ?_
    refine AW.block ?_
    refine AW.seq ?_
    refine AW.region ?_
    refine AL.rp rfl rfl (rp_move rfl rfl) ?_
    (first | (refine AL.rp rfl rfl (rp_and16T (Y) rfl rfl rfl rfl (by first | assumption | omega) (by assumption)) ?_) | (refine AL.rp rfl rfl (rp_and16F (Y) rfl rfl rfl rfl (by first | assumption | omega) (by assumption)) ?_))
    (first | (refine AL.rp rfl rfl (rp_neqT rfl rfl rfl (by first | assumption | omega | (dsimp only; omega))) ?_) | (refine AL.rp rfl rfl (rp_neqF rfl rfl rfl (by first | assumption | omega | (dsimp only; omega))) ?_) | (refine AL.rp rfl rfl (rp_neq rfl rfl rfl) ?_))
    refine AL.rp rfl rfl (rp_assign rfl rfl) ?_
    refine AL.nil ?_
    try simp only [thenS, S.put]
    refine AW.seq ?_
    refine AW.region ?_
    refine AL.rp rfl rfl (rp_move rfl rfl) ?_
    refine AL.rp rfl rfl (rp_shl16 (1) rfl rfl rfl (by first | rfl | omega) (by omega) (r := ((Y * 2 % 65536 : Nat) : Int)) (by first | assumption | rfl | omega)) ?_
    refine AL.rp rfl rfl (rp_assign rfl rfl) ?_
    refine AL.nil ?_
    try simp only [thenS, S.put]
    refine AW.seq ?_
    refine AW.region ?_
    refine AL.rp rfl rfl (rp_move rfl rfl) ?_
    refine AL.nil ?_
    try simp only [thenS, S.put]
    refine AW.condT rfl ?_
    refine AW.region ?_
    refine AL.rp rfl rfl (rp_move rfl rfl) ?_
    refine AL.rp rfl rfl (rp_xor16 (Y * 2 % 65536) (4129) rfl rfl rfl rfl rfl (by first | assumption | omega) (by first | assumption | omega)) ?_
    refine AL.rp rfl rfl (rp_assign rfl rfl) ?_
    refine AL.nil ?_
    try simp only [thenS, S.put]
    refine AW.region ?_
    refine AL.rp rfl rfl (rp_add rfl rfl rfl (by first | omega | (dsimp only; omega))) ?_
    refine AL.rp rfl rfl (rp_move rfl rfl) ?_
    refine AL.nil ?_
    try simp only [thenS, S.put]
    refine ⟨_, ?_, ⟨j + 1, by omega, rfl⟩, ?_⟩
    ·rw [← hT]; exact (Less.of rfl (by repeat (first | exact trivial | refine ⟨⟨_, rfl, Wk.refl _⟩, ?_⟩ | refine ⟨⟨_, rfl, Wk.nil _ _⟩, ?_⟩ | refine ⟨⟨_, rfl, Wk.junk _⟩, ?_⟩)) (by repeat (first | exact trivial | refine ⟨rfl, ?_⟩)) rfl)
    ·simp [S.nat, fnd]; omega
   | false =>
    have hT := crcStep_F ht
    rw [← hY2] at hT
    refine AW.seq ?_
    refine AW.region ?_
    (first | (refine AL.rp rfl rfl (rp_lssT rfl rfl rfl (by first | assumption | omega | (dsimp only; omega))) ?_) | (refine AL.rp rfl rfl (rp_lssF rfl rfl rfl (by first | assumption | omega | (dsimp only; omega))) ?_) | (refine AL.rp rfl rfl (rp_lss rfl rfl rfl) ?_))
    refine AL.nil ?_
    try simp only [thenS, S.put]
    refine AW.seq ?_
    refine AW.condT rfl ?_
    refine AW.skip ?_
    try simp only [thenS]
    refine AW.seq ?_
    refine AW.block ?_
    refine AW.seq ?_
    refine AW.region ?_
    refine AL.rp rfl rfl (rp_move rfl rfl) ?_
    (first | (refine AL.rp rfl rfl (rp_and16T (Y) rfl rfl rfl rfl (by first | assumption | omega) (by assumption)) ?_) | (refine AL.rp rfl rfl (rp_and16F (Y) rfl rfl rfl rfl (by first | assumption | omega) (by assumption)) ?_))
    (first | (refine AL.rp rfl rfl (rp_neqT rfl rfl rfl (by first | assumption | omega | (dsimp only; omega))) ?_) | (refine AL.rp rfl rfl (rp_neqF rfl rfl rfl (by first | assumption | omega | (dsimp only; omega))) ?_) | (refine AL.rp rfl rfl (rp_neq rfl rfl rfl) ?_))
    refine AL.rp rfl rfl (rp_assign rfl rfl) ?_
    refine AL.nil ?_
    try simp only [thenS, S.put]
    refine AW.seq ?_
    refine AW.region ?_
    refine AL.rp rfl rfl (rp_move rfl rfl) ?_
    refine AL.rp rfl rfl (rp_shl16 (1) rfl rfl rfl (by first | rfl | omega) (by omega) (r := ((Y * 2 % 65536 : Nat) : Int)) (by first | assumption | rfl | omega)) ?_
    refine AL.rp rfl rfl (rp_assign rfl rfl) ?_
    refine AL.nil ?_
    try simp only [thenS, S.put]
    refine AW.seq ?_
    refine AW.region ?_
    refine AL.rp rfl rfl (rp_move rfl rfl) ?_
    refine AL.nil ?_
    try simp only [thenS, S.put]
    refine AW.condF rfl ?_
    refine AW.skip ?_
    try simp only [thenS]
    refine AW.region ?_
    refine AL.rp rfl rfl (rp_add rfl rfl rfl (by first | omega | (dsimp only; omega))) ?_
    refine AL.rp rfl rfl (rp_move rfl rfl) ?_
    refine AL.nil ?_
    try simp only [thenS, S.put]
    refine ⟨_, ?_, ⟨j + 1, by omega, rfl⟩, ?_⟩
    ·rw [← hT]; exact (Less.of rfl (by repeat (first | exact trivial | refine ⟨⟨_, rfl, Wk.refl _⟩, ?_⟩ | refine ⟨⟨_, rfl, Wk.nil _ _⟩, ?_⟩ | refine ⟨⟨_, rfl, Wk.junk _⟩, ?_⟩)) (by repeat (first | exact trivial | refine ⟨rfl, ?_⟩)) rfl)
    ·simp [S.nat, fnd]; omega
  ·obtain rfl : j = 8 := by omega
   refine AW.seq ?_
   refine AW.region ?_
   (first | (refine AL.rp rfl rfl (rp_lssT rfl rfl rfl (by first | assumption | omega | (dsimp only; omega))) ?_) | (refine AL.rp rfl rfl (rp_lssF rfl rfl rfl (by first | assumption | omega | (dsimp only; omega))) ?_) | (refine AL.rp rfl rfl (rp_lss rfl rfl rfl) ?_))
   refine AL.nil ?_
   try simp only [thenS, S.put]
   refine AW.seq ?_
   refine AW.condF rfl ?_
   refine AW.exit ?_
   try simp only [thenS, inBlockS, ↓reduceIte, Nat.reduceEqDiff]
   refine AW.region ?_
   refine AL.rp rfl rfl (rp_add rfl rfl rfl (by first | omega | (dsimp only; omega))) ?_
   refine AL.rp rfl rfl (rp_move rfl rfl) ?_
   refine AL.nil ?_
   try simp only [thenS, S.put]
   refine ⟨_, ?_, ⟨i + 1, by omega, rfl⟩, ?_⟩
   ·rw [hsn]; exact (Less.of rfl (by repeat (first | exact trivial | refine ⟨⟨_, rfl, Wk.refl _⟩, ?_⟩ | refine ⟨⟨_, rfl, Wk.nil _ _⟩, ?_⟩ | refine ⟨⟨_, rfl, Wk.junk _⟩, ?_⟩)) (by repeat (first | exact trivial | refine ⟨rfl, ?_⟩)) rfl)
   ·simp [S.nat, fnd]; omega
 ·rw [List.take_of_length_le (by omega)] at hSd
  refine AW.seq ?_
  refine AW.region ?_
  (first | (refine AL.rp rfl rfl (rp_lssT rfl rfl rfl (by first | assumption | omega | (dsimp only; omega))) ?_) | (refine AL.rp rfl rfl (rp_lssF rfl rfl rfl (by first | assumption | omega | (dsimp only; omega))) ?_) | (refine AL.rp rfl rfl (rp_lss rfl rfl rfl) ?_))
  refine AL.nil ?_
  try simp only [thenS, S.put]
  refine AW.seq ?_
  refine AW.condF rfl ?_
  refine AW.exit ?_
  try simp only [thenS, inBlockS, ↓reduceIte, Nat.reduceEqDiff]
  refine AW.seq ?_
  refine AW.region ?_
  refine AL.rp rfl rfl (rp_move rfl rfl) ?_
  refine AL.rp rfl rfl (rp_assign rfl rfl) ?_
  refine AL.nil ?_
  try simp only [thenS, S.put]
  refine AW.ret ?_
  exact ⟨[_], ⟨rfl, trivial⟩, by rw [← hSd]; rfl, by simp [tupOf, V.pure, V.has]⟩

/-- A number in bytes, the highest first. -/
def splitB (x k : Nat) : List Nat := (List.range k).map fun i => x / 256 ^ (k - 1 - i) % 256
theorem splitB_len (x k : Nat) : (splitB x k).length = k := by simp [splitB]
theorem splitB_get {x k i : Nat} (h : i < k) : (splitB x k)[i]? = some (x / 256 ^ (k - 1 - i) % 256) := by simp [splitB, List.getElem?_range h]
theorem splitB_lt {x k : Nat} : ∀ c ∈ splitB x k, c < 256 := by
 intro c hc
 obtain ⟨i, _, rfl⟩ := List.mem_map.1 hc
 exact Nat.mod_lt _ (by decide)
theorem splitB_one (x : Nat) : splitB x 1 = [x % 256] := by simp [splitB, List.range_succ]

end Go.Proofs.Ythlcginebeapdaa
