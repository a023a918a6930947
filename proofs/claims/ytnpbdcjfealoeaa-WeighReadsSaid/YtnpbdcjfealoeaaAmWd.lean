-- %hmode
/- Words: what is wrong with one, and where a label leads in it. -/
import Derived.Test.YtnpbdcjfealoeaaAmFault
import Derived.Test.YtnpbdcjfealoeaaWgh
import Derived.Test.YtnpbdcjfealoeaaAmQ
import Derived.Test.YtnpbdcjfealoeaaAmW
import Derived.Test.YtnpbdcjfealoeaaAmJ
namespace Go.Proofs.Ytnpbdcjfealoeaa
open Go.RowKit
set_option linter.unusedSimpArgs false
set_option linter.unusedVariables false
set_option maxRecDepth 100000

def wordE (l : List Int) : Int := if 12 < l.length then 1 else if l.all (fun a => decide (1 ≤ a ∧ a ≤ 1000)) = true then 0 else 2
theorem wordE_zero {l : List Int} (h : wordE l = 0) : l.length ≤ 12 := by
 unfold wordE at h
 split at h
 ·exact absurd h (by decide)
 ·omega
def stepV (l : List Int) (k : Nat) (a : Int) : V := match fitN l k a with | some k' => .tup [.i (k' : Int), .b true] | none => .tup [.i ((k : Int) + 1), .b false]
theorem stepV_tup (l : List Int) (k : Nat) (a : Int) : ∃ (z : Int) (o : Bool), stepV l k a = .tup [.i z, .b o] := by
 unfold stepV
 split
 ·exact ⟨_, _, rfl⟩
 ·exact ⟨_, _, rfl⟩
def fitsI (l : List Int) (k : Nat) (a : Int) : Int := match fitN l k a with | some k' => (k' : Int) | none => -1
theorem am_word (l : List Int) : Fn Try.prog 75 [.d (intsD l)] (fun v => v = .i (wordE l)) := by
 obtain ⟨n, hn⟩ : ∃ n, l.length = n := ⟨_, rfl⟩
 refine Fn.intro (n := 21) ⟨Try.func75, rfl, rfl, rfl, rfl⟩ (by simp [V.pure, V.has, V.hasL]) (by simp) fun w0 out => ?_
 by_cases h12 : 12 < n
 ·have hE : wordE l = 1 := by unfold wordE; rw [if_pos (by omega)]
  rw [hE]
  refine AW.seq ?_
  refine AW.region ?_
  refine AL.rp rfl rfl (rp_assign rfl rfl) ?_
  refine AL.nil ?_
  try simp only [thenS, S.put, enum, List.nil_append, List.cons_append, List.append_nil, Nat.zero_add, Nat.reduceAdd]
  refine AW.seq ?_
  refine AW.seq ?_
  refine AW.region ?_
  refine AL.rp rfl rfl (rp_move rfl rfl) ?_
  (first | (refine AL.rp rfl rfl (rp_len_map Try.underlying29 rfl rfl (by assumption)) ?_) | (refine AL.rp rfl rfl (rp_len_own Try.underlying29 rfl rfl) ?_) | (refine AL.rp rfl rfl (rp_len_sl Try.underlying29 rfl rfl) ?_) | (refine AL.rp rfl rfl (rp_len_nil Try.underlying29 rfl rfl) ?_) | (refine AL.rp rfl rfl (rp_len_str Try.underlying29 rfl rfl) ?_))
  (first | (refine AL.rp rfl rfl (rp_gtrT rfl rfl rfl (by first | assumption | omega | (dsimp only; omega))) ?_) | (refine AL.rp rfl rfl (rp_gtrF rfl rfl rfl (by first | assumption | omega | (dsimp only; omega))) ?_) | (refine AL.rp rfl rfl (rp_gtr rfl rfl rfl) ?_))
  refine AL.nil ?_
  try simp only [thenS, S.put]
  refine AW.condT rfl ?_
  refine AW.seq ?_
  refine AW.region ?_
  refine AL.rp rfl rfl (rp_assign rfl rfl) ?_
  refine AL.nil ?_
  try simp only [thenS, S.put]
  refine AW.ret ?_
  exact ⟨[_], ⟨rfl, trivial⟩, rfl, by simp [tupOf, V.pure, V.has]⟩
 ·skip
  refine AW.seq ?_
  refine AW.region ?_
  refine AL.rp rfl rfl (rp_assign rfl rfl) ?_
  refine AL.nil ?_
  try simp only [thenS, S.put, enum, List.nil_append, List.cons_append, List.append_nil, Nat.zero_add, Nat.reduceAdd]
  refine AW.seq ?_
  refine AW.seq ?_
  refine AW.region ?_
  refine AL.rp rfl rfl (rp_move rfl rfl) ?_
  (first | (refine AL.rp rfl rfl (rp_len_map Try.underlying29 rfl rfl (by assumption)) ?_) | (refine AL.rp rfl rfl (rp_len_own Try.underlying29 rfl rfl) ?_) | (refine AL.rp rfl rfl (rp_len_sl Try.underlying29 rfl rfl) ?_) | (refine AL.rp rfl rfl (rp_len_nil Try.underlying29 rfl rfl) ?_) | (refine AL.rp rfl rfl (rp_len_str Try.underlying29 rfl rfl) ?_))
  (first | (refine AL.rp rfl rfl (rp_gtrT rfl rfl rfl (by first | assumption | omega | (dsimp only; omega))) ?_) | (refine AL.rp rfl rfl (rp_gtrF rfl rfl rfl (by first | assumption | omega | (dsimp only; omega))) ?_) | (refine AL.rp rfl rfl (rp_gtr rfl rfl rfl) ?_))
  refine AL.nil ?_
  try simp only [thenS, S.put]
  refine AW.condF rfl ?_
  refine AW.skip ?_
  try simp only [thenS]
  refine AW.seq ?_
  refine AW.seq ?_
  refine AW.region ?_
  refine AL.rp rfl rfl (rp_move rfl rfl) ?_
  (first | (refine AL.rp rfl rfl (rp_len_map Try.underlying29 rfl rfl (by assumption)) ?_) | (refine AL.rp rfl rfl (rp_len_own Try.underlying29 rfl rfl) ?_) | (refine AL.rp rfl rfl (rp_len_sl Try.underlying29 rfl rfl) ?_) | (refine AL.rp rfl rfl (rp_len_nil Try.underlying29 rfl rfl) ?_) | (refine AL.rp rfl rfl (rp_len_str Try.underlying29 rfl rfl) ?_))
  refine AL.rp rfl rfl (rp_move rfl rfl) ?_
  refine AL.nil ?_
  try simp only [thenS, S.put]
  refine AW.block ?_
  refine AW.loop (fun s' => ∃ k : Nat, k ≤ n ∧ (l.take k).all (fun a => decide (1 ≤ a ∧ a ≤ 1000)) = true ∧ s' = ⟨21, [(8, .d (intsD l)), (9, .i n), (10, .i k)], [], []⟩) (fun s' => n - s'.nat 10) ⟨_, ?_, 0, by omega, rfl, rfl⟩ ?_
  ·exact (Less.of rfl (by repeat (first | exact trivial | refine ⟨⟨_, rfl, Wk.refl _⟩, ?_⟩ | refine ⟨⟨_, rfl, Wk.nil _ _⟩, ?_⟩ | refine ⟨⟨_, rfl, Wk.junk _⟩, ?_⟩)) (by repeat (first | exact trivial | refine ⟨rfl, ?_⟩)) rfl)
  rintro s' ⟨k, hk, hall, rfl⟩
  by_cases hlt : k < n
  ·obtain ⟨x, hx⟩ := get_lt hn hlt
   by_cases h1 : x < 1
   ·have hE : wordE l = 2 := by
     unfold wordE
     rw [if_neg (by omega), if_neg]
     rw [all_not hx (by simp; omega)]; decide
    rw [hE]
    refine AW.seq ?_
    refine AW.region ?_
    (first | (refine AL.rp rfl rfl (rp_lssT rfl rfl rfl (by first | assumption | omega | (dsimp only; omega))) ?_) | (refine AL.rp rfl rfl (rp_lssF rfl rfl rfl (by first | assumption | omega | (dsimp only; omega))) ?_) | (refine AL.rp rfl rfl (rp_lss rfl rfl rfl) ?_))
    refine AL.nil ?_
    try simp only [thenS, S.put]
    refine AW.seq ?_
    refine AW.condT rfl ?_
    refine AW.skip ?_
    try simp only [thenS]
    refine AW.seq ?_
    refine AW.block ?_
    refine AW.seq ?_
    refine AW.region ?_
    (first | (refine AL.rp rfl rfl (rp_index_map Try.underlying29 inf3 rfl rfl rfl rfl (by assumption)) ?_) | (refine AL.rp rfl rfl (rp_index_own Try.underlying29 inf3 rfl rfl rfl rfl (by first | assumption | omega)) ?_) | (refine AL.rp rfl rfl (rd_index_sl Try.underlying29 inf3 rfl rfl rfl rfl (by assumption)) ?_) | (refine AL.rp rfl rfl (rp_index_own Try.underlying29 inf3 rfl rfl rfl (by omega) (by omega)) ?_))
    (first | (refine AL.rd rfl rfl (rd_load_ref Try.underlying3 rfl rfl rfl rfl rfl rfl) ?_) | (refine AL.rd rfl rfl (rd_load_ad Try.underlying3 rfl rfl rfl rfl) ?_) | (refine AL.rd rfl rfl (rd_load_map Try.underlying3 rfl rfl rfl rfl rfl rfl (by assumption)) ?_) | (refine AL.rd rfl rfl (rd_load_flat Try.underlying3 rfl rfl rfl rfl rfl rfl (fun _ => rfl) (by assumption) rfl) ?_))
    refine AL.rp rfl rfl (rp_assign rfl rfl) ?_
    refine AL.nil ?_
    try simp only [thenS, S.put]
    refine AW.seq ?_
    refine AW.region ?_
    refine AL.rp rfl rfl (rp_move rfl rfl) ?_
    (first | (refine AL.rp rfl rfl (rp_lssT rfl rfl rfl (by first | assumption | omega | (dsimp only; omega))) ?_) | (refine AL.rp rfl rfl (rp_lssF rfl rfl rfl (by first | assumption | omega | (dsimp only; omega))) ?_) | (refine AL.rp rfl rfl (rp_lss rfl rfl rfl) ?_))
    refine AL.rp rfl rfl (rp_move rfl rfl) ?_
    (first | (refine AL.noV rfl rfl rfl rfl ?_) | (refine AL.noU rfl ⟨_, rfl, rfl⟩ rfl ?_) | (refine AL.rpy rfl rfl rfl (rp_move rfl rfl) ?_))
    (first | (refine AL.noV rfl rfl rfl rfl ?_) | (refine AL.noU rfl ⟨_, rfl, rfl⟩ rfl ?_) | (refine AL.rpy rfl rfl rfl (rp_gtrT rfl rfl rfl (by first | assumption | omega | (dsimp only; omega))) ?_) | (refine AL.rpy rfl rfl rfl (rp_gtrF rfl rfl rfl (by first | assumption | omega | (dsimp only; omega))) ?_) | (refine AL.rpy rfl rfl rfl (rp_gtr rfl rfl rfl) ?_))
    refine AL.rp rfl rfl (rp_pick rfl rfl rfl) ?_
    refine AL.nil ?_
    try simp only [thenS, S.put]
    refine AW.condT rfl ?_
    refine AW.seq ?_
    refine AW.region ?_
    refine AL.rp rfl rfl (rp_assign rfl rfl) ?_
    refine AL.nil ?_
    try simp only [thenS, S.put]
    refine AW.ret ?_
    exact ⟨[_], ⟨rfl, trivial⟩, rfl, by simp [tupOf, V.pure, V.has]⟩
   ·by_cases h2 : x > 1000
    ·have hE : wordE l = 2 := by
      unfold wordE
      rw [if_neg (by omega), if_neg]
      rw [all_not hx (by simp; omega)]; decide
     rw [hE]
     refine AW.seq ?_
     refine AW.region ?_
     (first | (refine AL.rp rfl rfl (rp_lssT rfl rfl rfl (by first | assumption | omega | (dsimp only; omega))) ?_) | (refine AL.rp rfl rfl (rp_lssF rfl rfl rfl (by first | assumption | omega | (dsimp only; omega))) ?_) | (refine AL.rp rfl rfl (rp_lss rfl rfl rfl) ?_))
     refine AL.nil ?_
     try simp only [thenS, S.put]
     refine AW.seq ?_
     refine AW.condT rfl ?_
     refine AW.skip ?_
     try simp only [thenS]
     refine AW.seq ?_
     refine AW.block ?_
     refine AW.seq ?_
     refine AW.region ?_
     (first | (refine AL.rp rfl rfl (rp_index_map Try.underlying29 inf3 rfl rfl rfl rfl (by assumption)) ?_) | (refine AL.rp rfl rfl (rp_index_own Try.underlying29 inf3 rfl rfl rfl rfl (by first | assumption | omega)) ?_) | (refine AL.rp rfl rfl (rd_index_sl Try.underlying29 inf3 rfl rfl rfl rfl (by assumption)) ?_) | (refine AL.rp rfl rfl (rp_index_own Try.underlying29 inf3 rfl rfl rfl (by omega) (by omega)) ?_))
     (first | (refine AL.rd rfl rfl (rd_load_ref Try.underlying3 rfl rfl rfl rfl rfl rfl) ?_) | (refine AL.rd rfl rfl (rd_load_ad Try.underlying3 rfl rfl rfl rfl) ?_) | (refine AL.rd rfl rfl (rd_load_map Try.underlying3 rfl rfl rfl rfl rfl rfl (by assumption)) ?_) | (refine AL.rd rfl rfl (rd_load_flat Try.underlying3 rfl rfl rfl rfl rfl rfl (fun _ => rfl) (by assumption) rfl) ?_))
     refine AL.rp rfl rfl (rp_assign rfl rfl) ?_
     refine AL.nil ?_
     try simp only [thenS, S.put]
     refine AW.seq ?_
     refine AW.region ?_
     refine AL.rp rfl rfl (rp_move rfl rfl) ?_
     (first | (refine AL.rp rfl rfl (rp_lssT rfl rfl rfl (by first | assumption | omega | (dsimp only; omega))) ?_) | (refine AL.rp rfl rfl (rp_lssF rfl rfl rfl (by first | assumption | omega | (dsimp only; omega))) ?_) | (refine AL.rp rfl rfl (rp_lss rfl rfl rfl) ?_))
     refine AL.rp rfl rfl (rp_move rfl rfl) ?_
     (first | (refine AL.noV rfl rfl rfl rfl ?_) | (refine AL.noU rfl ⟨_, rfl, rfl⟩ rfl ?_) | (refine AL.rpy rfl rfl rfl (rp_move rfl rfl) ?_))
     (first | (refine AL.noV rfl rfl rfl rfl ?_) | (refine AL.noU rfl ⟨_, rfl, rfl⟩ rfl ?_) | (refine AL.rpy rfl rfl rfl (rp_gtrT rfl rfl rfl (by first | assumption | omega | (dsimp only; omega))) ?_) | (refine AL.rpy rfl rfl rfl (rp_gtrF rfl rfl rfl (by first | assumption | omega | (dsimp only; omega))) ?_) | (refine AL.rpy rfl rfl rfl (rp_gtr rfl rfl rfl) ?_))
     refine AL.rp rfl rfl (rp_pick rfl rfl rfl) ?_
     refine AL.nil ?_
     try simp only [thenS, S.put]
     refine AW.condT rfl ?_
     refine AW.seq ?_
     refine AW.region ?_
     refine AL.rp rfl rfl (rp_assign rfl rfl) ?_
     refine AL.nil ?_
     try simp only [thenS, S.put]
     refine AW.ret ?_
     exact ⟨[_], ⟨rfl, trivial⟩, rfl, by simp [tupOf, V.pure, V.has]⟩
    ·skip
     refine AW.seq ?_
     refine AW.region ?_
     (first | (refine AL.rp rfl rfl (rp_lssT rfl rfl rfl (by first | assumption | omega | (dsimp only; omega))) ?_) | (refine AL.rp rfl rfl (rp_lssF rfl rfl rfl (by first | assumption | omega | (dsimp only; omega))) ?_) | (refine AL.rp rfl rfl (rp_lss rfl rfl rfl) ?_))
     refine AL.nil ?_
     try simp only [thenS, S.put]
     refine AW.seq ?_
     refine AW.condT rfl ?_
     refine AW.skip ?_
     try simp only [thenS]
     refine AW.seq ?_
     refine AW.block ?_
     refine AW.seq ?_
     refine AW.region ?_
     (first | (refine AL.rp rfl rfl (rp_index_map Try.underlying29 inf3 rfl rfl rfl rfl (by assumption)) ?_) | (refine AL.rp rfl rfl (rp_index_own Try.underlying29 inf3 rfl rfl rfl rfl (by first | assumption | omega)) ?_) | (refine AL.rp rfl rfl (rd_index_sl Try.underlying29 inf3 rfl rfl rfl rfl (by assumption)) ?_) | (refine AL.rp rfl rfl (rp_index_own Try.underlying29 inf3 rfl rfl rfl (by omega) (by omega)) ?_))
     (first | (refine AL.rd rfl rfl (rd_load_ref Try.underlying3 rfl rfl rfl rfl rfl rfl) ?_) | (refine AL.rd rfl rfl (rd_load_ad Try.underlying3 rfl rfl rfl rfl) ?_) | (refine AL.rd rfl rfl (rd_load_map Try.underlying3 rfl rfl rfl rfl rfl rfl (by assumption)) ?_) | (refine AL.rd rfl rfl (rd_load_flat Try.underlying3 rfl rfl rfl rfl rfl rfl (fun _ => rfl) (by assumption) rfl) ?_))
     refine AL.rp rfl rfl (rp_assign rfl rfl) ?_
     refine AL.nil ?_
     try simp only [thenS, S.put]
     refine AW.seq ?_
     refine AW.region ?_
     refine AL.rp rfl rfl (rp_move rfl rfl) ?_
     (first | (refine AL.rp rfl rfl (rp_lssT rfl rfl rfl (by first | assumption | omega | (dsimp only; omega))) ?_) | (refine AL.rp rfl rfl (rp_lssF rfl rfl rfl (by first | assumption | omega | (dsimp only; omega))) ?_) | (refine AL.rp rfl rfl (rp_lss rfl rfl rfl) ?_))
     refine AL.rp rfl rfl (rp_move rfl rfl) ?_
     (first | (refine AL.noV rfl rfl rfl rfl ?_) | (refine AL.noU rfl ⟨_, rfl, rfl⟩ rfl ?_) | (refine AL.rpy rfl rfl rfl (rp_move rfl rfl) ?_))
     (first | (refine AL.noV rfl rfl rfl rfl ?_) | (refine AL.noU rfl ⟨_, rfl, rfl⟩ rfl ?_) | (refine AL.rpy rfl rfl rfl (rp_gtrT rfl rfl rfl (by first | assumption | omega | (dsimp only; omega))) ?_) | (refine AL.rpy rfl rfl rfl (rp_gtrF rfl rfl rfl (by first | assumption | omega | (dsimp only; omega))) ?_) | (refine AL.rpy rfl rfl rfl (rp_gtr rfl rfl rfl) ?_))
     refine AL.rp rfl rfl (rp_pick rfl rfl rfl) ?_
     refine AL.nil ?_
     try simp only [thenS, S.put]
     refine AW.condF rfl ?_
     refine AW.skip ?_
     try simp only [thenS]
     refine AW.region ?_
     refine AL.rp rfl rfl (rp_add rfl rfl rfl (by first | omega | (dsimp only; omega))) ?_
     refine AL.rp rfl rfl (rp_move rfl rfl) ?_
     refine AL.nil ?_
     try simp only [thenS, S.put]
     refine ⟨_, ?_, ⟨k + 1, by omega, all_snoc' hx hall (by simp; omega), rfl⟩, ?_⟩
     ·exact (Less.of rfl (by repeat (first | exact trivial | refine ⟨⟨_, rfl, Wk.refl _⟩, ?_⟩ | refine ⟨⟨_, rfl, Wk.nil _ _⟩, ?_⟩ | refine ⟨⟨_, rfl, Wk.junk _⟩, ?_⟩)) (by repeat (first | exact trivial | refine ⟨rfl, ?_⟩)) rfl)
     ·simp [S.nat, fnd]; omega
  ·have hE : wordE l = 0 := by
    unfold wordE
    rw [List.take_of_length_le (by omega)] at hall
    rw [if_neg (by omega), if_pos hall]
   rw [hE]
   refine AW.seq ?_
   refine AW.region ?_
   (first | (refine AL.rp rfl rfl (rp_lssT rfl rfl rfl (by first | assumption | omega | (dsimp only; omega))) ?_) | (refine AL.rp rfl rfl (rp_lssF rfl rfl rfl (by first | assumption | omega | (dsimp only; omega))) ?_) | (refine AL.rp rfl rfl (rp_lss rfl rfl rfl) ?_))
   refine AL.nil ?_
   try simp only [thenS, S.put]
   refine AW.seq ?_
   refine AW.condF rfl ?_
   refine AW.exit ?_
   try simp only [thenS, inBlockS, ↓reduceIte, Nat.reduceEqDiff]
   refine AW.seq ?_
   refine AW.region ?_
   refine AL.rp rfl rfl (rp_assign rfl rfl) ?_
   refine AL.nil ?_
   try simp only [thenS, S.put]
   refine AW.ret ?_
   exact ⟨[_], ⟨rfl, trivial⟩, rfl, by simp [tupOf, V.pure, V.has]⟩
theorem am_WordFault (l : List Int) : Fn Try.prog 77 [.d (intsD l)] (fun v => v = .i (wordE l)) := by
 obtain ⟨n, hn⟩ : ∃ n, l.length = n := ⟨_, rfl⟩
 refine Fn.intro (n := 19) ⟨Try.func77, rfl, rfl, rfl, rfl⟩ (by simp [V.pure, V.has, V.hasL]) (by simp) fun w0 out => ?_
 by_cases h12 : 12 < n
 ·have hE : wordE l = 1 := by unfold wordE; rw [if_pos (by omega)]
  rw [hE]
  refine AW.seq ?_
  refine AW.region ?_
  refine AL.rp rfl rfl (rp_assign rfl rfl) ?_
  refine AL.nil ?_
  try simp only [thenS, S.put, enum, List.nil_append, List.cons_append, List.append_nil, Nat.zero_add, Nat.reduceAdd]
  refine AW.seq ?_
  refine AW.seq ?_
  refine AW.region ?_
  refine AL.rp rfl rfl (rp_move rfl rfl) ?_
  (first | (refine AL.rp rfl rfl (rp_len_map Try.underlying29 rfl rfl (by assumption)) ?_) | (refine AL.rp rfl rfl (rp_len_own Try.underlying29 rfl rfl) ?_) | (refine AL.rp rfl rfl (rp_len_sl Try.underlying29 rfl rfl) ?_) | (refine AL.rp rfl rfl (rp_len_nil Try.underlying29 rfl rfl) ?_) | (refine AL.rp rfl rfl (rp_len_str Try.underlying29 rfl rfl) ?_))
  (first | (refine AL.rp rfl rfl (rp_gtrT rfl rfl rfl (by first | assumption | omega | (dsimp only; omega))) ?_) | (refine AL.rp rfl rfl (rp_gtrF rfl rfl rfl (by first | assumption | omega | (dsimp only; omega))) ?_) | (refine AL.rp rfl rfl (rp_gtr rfl rfl rfl) ?_))
  refine AL.nil ?_
  try simp only [thenS, S.put]
  refine AW.condT rfl ?_
  refine AW.seq ?_
  refine AW.region ?_
  refine AL.rp rfl rfl (rp_assign rfl rfl) ?_
  refine AL.nil ?_
  try simp only [thenS, S.put]
  refine AW.ret ?_
  exact ⟨[_], ⟨rfl, trivial⟩, rfl, by simp [tupOf, V.pure, V.has]⟩
 ·skip
  refine AW.seq ?_
  refine AW.region ?_
  refine AL.rp rfl rfl (rp_assign rfl rfl) ?_
  refine AL.nil ?_
  try simp only [thenS, S.put, enum, List.nil_append, List.cons_append, List.append_nil, Nat.zero_add, Nat.reduceAdd]
  refine AW.seq ?_
  refine AW.seq ?_
  refine AW.region ?_
  refine AL.rp rfl rfl (rp_move rfl rfl) ?_
  (first | (refine AL.rp rfl rfl (rp_len_map Try.underlying29 rfl rfl (by assumption)) ?_) | (refine AL.rp rfl rfl (rp_len_own Try.underlying29 rfl rfl) ?_) | (refine AL.rp rfl rfl (rp_len_sl Try.underlying29 rfl rfl) ?_) | (refine AL.rp rfl rfl (rp_len_nil Try.underlying29 rfl rfl) ?_) | (refine AL.rp rfl rfl (rp_len_str Try.underlying29 rfl rfl) ?_))
  (first | (refine AL.rp rfl rfl (rp_gtrT rfl rfl rfl (by first | assumption | omega | (dsimp only; omega))) ?_) | (refine AL.rp rfl rfl (rp_gtrF rfl rfl rfl (by first | assumption | omega | (dsimp only; omega))) ?_) | (refine AL.rp rfl rfl (rp_gtr rfl rfl rfl) ?_))
  refine AL.nil ?_
  try simp only [thenS, S.put]
  refine AW.condF rfl ?_
  refine AW.skip ?_
  try simp only [thenS]
  refine AW.seq ?_
  refine AW.seq ?_
  refine AW.region ?_
  refine AL.rp rfl rfl (rp_assign rfl rfl) ?_
  refine AL.nil ?_
  try simp only [thenS, S.put]
  refine AW.block ?_
  refine AW.loop (fun s' => ∃ k : Nat, k ≤ n ∧ (l.take k).all (fun a => decide (1 ≤ a ∧ a ≤ 1000)) = true ∧ s' = ⟨19, [(0, .d (intsD l)), (3, .i k)], [], []⟩) (fun s' => n - s'.nat 3) ⟨_, ?_, 0, by omega, rfl, rfl⟩ ?_
  ·exact (Less.of rfl (by repeat (first | exact trivial | refine ⟨⟨_, rfl, Wk.refl _⟩, ?_⟩ | refine ⟨⟨_, rfl, Wk.nil _ _⟩, ?_⟩ | refine ⟨⟨_, rfl, Wk.junk _⟩, ?_⟩)) (by repeat (first | exact trivial | refine ⟨rfl, ?_⟩)) rfl)
  rintro s' ⟨k, hk, hall, rfl⟩
  by_cases hlt : k < n
  ·obtain ⟨x, hx⟩ := get_lt hn hlt
   by_cases h1 : 1 ≤ x ∧ x ≤ 1000
   ·skip
    refine AW.seq ?_
    refine AW.seq ?_
    refine AW.region ?_
    refine AL.rp rfl rfl (rp_move rfl rfl) ?_
    refine AL.rp rfl rfl (rp_move rfl rfl) ?_
    (first | (refine AL.rp rfl rfl (rp_len_map Try.underlying29 rfl rfl (by assumption)) ?_) | (refine AL.rp rfl rfl (rp_len_own Try.underlying29 rfl rfl) ?_) | (refine AL.rp rfl rfl (rp_len_sl Try.underlying29 rfl rfl) ?_) | (refine AL.rp rfl rfl (rp_len_nil Try.underlying29 rfl rfl) ?_) | (refine AL.rp rfl rfl (rp_len_str Try.underlying29 rfl rfl) ?_))
    (first | (refine AL.rp rfl rfl (rp_lssT rfl rfl rfl (by first | assumption | omega | (dsimp only; omega))) ?_) | (refine AL.rp rfl rfl (rp_lssF rfl rfl rfl (by first | assumption | omega | (dsimp only; omega))) ?_) | (refine AL.rp rfl rfl (rp_lss rfl rfl rfl) ?_))
    refine AL.nil ?_
    try simp only [thenS, S.put]
    refine AW.condT rfl ?_
    refine AW.skip ?_
    try simp only [thenS]
    refine AW.seq ?_
    refine AW.block ?_
    refine AW.seq ?_
    refine AW.region ?_
    refine AL.rp rfl rfl (rp_move rfl rfl) ?_
    refine AL.rp rfl rfl (rp_move rfl rfl) ?_
    (first | (refine AL.rp rfl rfl (rp_index_map Try.underlying29 inf3 rfl rfl rfl rfl (by assumption)) ?_) | (refine AL.rp rfl rfl (rp_index_own Try.underlying29 inf3 rfl rfl rfl rfl (by first | assumption | omega)) ?_) | (refine AL.rp rfl rfl (rd_index_sl Try.underlying29 inf3 rfl rfl rfl rfl (by assumption)) ?_) | (refine AL.rp rfl rfl (rp_index_own Try.underlying29 inf3 rfl rfl rfl (by omega) (by omega)) ?_))
    (first | (refine AL.rd rfl rfl (rd_load_ref Try.underlying3 rfl rfl rfl rfl rfl rfl) ?_) | (refine AL.rd rfl rfl (rd_load_ad Try.underlying3 rfl rfl rfl rfl) ?_) | (refine AL.rd rfl rfl (rd_load_map Try.underlying3 rfl rfl rfl rfl rfl rfl (by assumption)) ?_) | (refine AL.rd rfl rfl (rd_load_flat Try.underlying3 rfl rfl rfl rfl rfl rfl (fun _ => rfl) (by assumption) rfl) ?_))
    refine AL.call (post := ?pc24) rfl (sm_call (args := [_, _, _]) ?hc24 ⟨Try.func58, rfl, rfl, rfl, rfl⟩ rfl rfl rfl rfl) ?_
    case hc24 => (refine Fn.decT (am_In _ _ _) ?_; omega)
    rintro _ rfl -
    try dsimp only
    refine AL.rp rfl rfl (rp_not rfl rfl) ?_
    refine AL.nil ?_
    try simp only [thenS, S.put, S.newObj, setL, V.cs, List.length_cons, List.length_nil, List.take_succ_cons, List.take_zero, List.drop_succ_cons, List.drop_zero, List.drop_nil, List.nil_append, List.cons_append, List.append_nil, Nat.zero_add, Nat.reduceAdd, List.map_cons, List.map_nil, List.set_cons_zero, List.set_cons_succ]
    refine AW.condF rfl ?_
    refine AW.skip ?_
    try simp only [thenS]
    refine AW.region ?_
    refine AL.rp rfl rfl (rp_move rfl rfl) ?_
    refine AL.rp rfl rfl (rp_add rfl rfl rfl (by first | omega | (dsimp only; omega))) ?_
    refine AL.rp rfl rfl (rp_assign rfl rfl) ?_
    refine AL.nil ?_
    try simp only [thenS, S.put]
    refine ⟨_, ?_, ⟨k + 1, by omega, all_snoc' hx hall (by simp; omega), rfl⟩, ?_⟩
    ·exact (Less.of rfl (by repeat (first | exact trivial | refine ⟨⟨_, rfl, Wk.refl _⟩, ?_⟩ | refine ⟨⟨_, rfl, Wk.nil _ _⟩, ?_⟩ | refine ⟨⟨_, rfl, Wk.junk _⟩, ?_⟩)) (by repeat (first | exact trivial | refine ⟨rfl, ?_⟩)) rfl)
    ·simp [S.nat, fnd]; omega
   ·have hE : wordE l = 2 := by
     unfold wordE
     rw [if_neg (by omega), if_neg]
     rw [all_not hx (by simp; omega)]; decide
    rw [hE]
    refine AW.seq ?_
    refine AW.seq ?_
    refine AW.region ?_
    refine AL.rp rfl rfl (rp_move rfl rfl) ?_
    refine AL.rp rfl rfl (rp_move rfl rfl) ?_
    (first | (refine AL.rp rfl rfl (rp_len_map Try.underlying29 rfl rfl (by assumption)) ?_) | (refine AL.rp rfl rfl (rp_len_own Try.underlying29 rfl rfl) ?_) | (refine AL.rp rfl rfl (rp_len_sl Try.underlying29 rfl rfl) ?_) | (refine AL.rp rfl rfl (rp_len_nil Try.underlying29 rfl rfl) ?_) | (refine AL.rp rfl rfl (rp_len_str Try.underlying29 rfl rfl) ?_))
    (first | (refine AL.rp rfl rfl (rp_lssT rfl rfl rfl (by first | assumption | omega | (dsimp only; omega))) ?_) | (refine AL.rp rfl rfl (rp_lssF rfl rfl rfl (by first | assumption | omega | (dsimp only; omega))) ?_) | (refine AL.rp rfl rfl (rp_lss rfl rfl rfl) ?_))
    refine AL.nil ?_
    try simp only [thenS, S.put]
    refine AW.condT rfl ?_
    refine AW.skip ?_
    try simp only [thenS]
    refine AW.seq ?_
    refine AW.block ?_
    refine AW.seq ?_
    refine AW.region ?_
    refine AL.rp rfl rfl (rp_move rfl rfl) ?_
    refine AL.rp rfl rfl (rp_move rfl rfl) ?_
    (first | (refine AL.rp rfl rfl (rp_index_map Try.underlying29 inf3 rfl rfl rfl rfl (by assumption)) ?_) | (refine AL.rp rfl rfl (rp_index_own Try.underlying29 inf3 rfl rfl rfl rfl (by first | assumption | omega)) ?_) | (refine AL.rp rfl rfl (rd_index_sl Try.underlying29 inf3 rfl rfl rfl rfl (by assumption)) ?_) | (refine AL.rp rfl rfl (rp_index_own Try.underlying29 inf3 rfl rfl rfl (by omega) (by omega)) ?_))
    (first | (refine AL.rd rfl rfl (rd_load_ref Try.underlying3 rfl rfl rfl rfl rfl rfl) ?_) | (refine AL.rd rfl rfl (rd_load_ad Try.underlying3 rfl rfl rfl rfl) ?_) | (refine AL.rd rfl rfl (rd_load_map Try.underlying3 rfl rfl rfl rfl rfl rfl (by assumption)) ?_) | (refine AL.rd rfl rfl (rd_load_flat Try.underlying3 rfl rfl rfl rfl rfl rfl (fun _ => rfl) (by assumption) rfl) ?_))
    refine AL.call (post := ?pc25) rfl (sm_call (args := [_, _, _]) ?hc25 ⟨Try.func58, rfl, rfl, rfl, rfl⟩ rfl rfl rfl rfl) ?_
    case hc25 => (refine Fn.decF (am_In _ _ _) ?_; omega)
    rintro _ rfl -
    try dsimp only
    refine AL.rp rfl rfl (rp_not rfl rfl) ?_
    refine AL.nil ?_
    try simp only [thenS, S.put, S.newObj, setL, V.cs, List.length_cons, List.length_nil, List.take_succ_cons, List.take_zero, List.drop_succ_cons, List.drop_zero, List.drop_nil, List.nil_append, List.cons_append, List.append_nil, Nat.zero_add, Nat.reduceAdd, List.map_cons, List.map_nil, List.set_cons_zero, List.set_cons_succ]
    refine AW.condT rfl ?_
    refine AW.seq ?_
    refine AW.region ?_
    refine AL.rp rfl rfl (rp_assign rfl rfl) ?_
    refine AL.nil ?_
    try simp only [thenS, S.put]
    refine AW.ret ?_
    exact ⟨[_], ⟨rfl, trivial⟩, rfl, by simp [tupOf, V.pure, V.has]⟩
  ·have hE : wordE l = 0 := by
    unfold wordE
    rw [List.take_of_length_le (by omega)] at hall
    rw [if_neg (by omega), if_pos hall]
   rw [hE]
   refine AW.seq ?_
   refine AW.seq ?_
   refine AW.region ?_
   refine AL.rp rfl rfl (rp_move rfl rfl) ?_
   refine AL.rp rfl rfl (rp_move rfl rfl) ?_
   (first | (refine AL.rp rfl rfl (rp_len_map Try.underlying29 rfl rfl (by assumption)) ?_) | (refine AL.rp rfl rfl (rp_len_own Try.underlying29 rfl rfl) ?_) | (refine AL.rp rfl rfl (rp_len_sl Try.underlying29 rfl rfl) ?_) | (refine AL.rp rfl rfl (rp_len_nil Try.underlying29 rfl rfl) ?_) | (refine AL.rp rfl rfl (rp_len_str Try.underlying29 rfl rfl) ?_))
   (first | (refine AL.rp rfl rfl (rp_lssT rfl rfl rfl (by first | assumption | omega | (dsimp only; omega))) ?_) | (refine AL.rp rfl rfl (rp_lssF rfl rfl rfl (by first | assumption | omega | (dsimp only; omega))) ?_) | (refine AL.rp rfl rfl (rp_lss rfl rfl rfl) ?_))
   refine AL.nil ?_
   try simp only [thenS, S.put]
   refine AW.condF rfl ?_
   refine AW.exit ?_
   try simp only [thenS, inBlockS, ↓reduceIte, Nat.reduceEqDiff]
   refine AW.seq ?_
   refine AW.region ?_
   refine AL.rp rfl rfl (rp_assign rfl rfl) ?_
   refine AL.nil ?_
   try simp only [thenS, S.put]
   refine AW.ret ?_
   exact ⟨[_], ⟨rfl, trivial⟩, rfl, by simp [tupOf, V.pure, V.has]⟩
theorem am_step (l : List Int) (k : Nat) (a : Int) (hk : k ≤ l.length) (hl : l.length ≤ 12) : Fn Try.prog 110 [.d (intsD l), .i k, .i a] (fun v => v = stepV l k a) := by
 obtain ⟨n, hn⟩ : ∃ n, l.length = n := ⟨_, rfl⟩
 rw [hn] at hk hl
 refine Fn.intro (n := 25) ⟨Try.func110, rfl, rfl, rfl, rfl⟩ (by simp [V.pure, V.has, V.hasL]) (by simp) fun w0 out => ?_
 by_cases h0 : a = 0
 ·have hE : stepV l k a = .tup [.i (k : Int), .b true] := by unfold stepV fitN; rw [if_pos h0]
  rw [hE]
  refine AW.seq ?_
  refine AW.region ?_
  refine AL.rp rfl rfl (rp_assign rfl rfl) ?_
  refine AL.rp rfl rfl (rp_assign rfl rfl) ?_
  refine AL.nil ?_
  try simp only [thenS, S.put, enum, List.nil_append, List.cons_append, List.append_nil, Nat.zero_add, Nat.reduceAdd]
  refine AW.seq ?_
  refine AW.seq ?_
  refine AW.region ?_
  refine AL.rp rfl rfl (rp_move rfl rfl) ?_
  (first | (refine AL.rp rfl rfl (rp_eqlT rfl rfl rfl (by first | assumption | omega | (dsimp only; omega))) ?_) | (refine AL.rp rfl rfl (rp_eqlF rfl rfl rfl (by first | assumption | omega | (dsimp only; omega))) ?_) | (refine AL.rp rfl rfl (rp_eql rfl rfl rfl) ?_))
  refine AL.nil ?_
  try simp only [thenS, S.put]
  refine AW.condT rfl ?_
  refine AW.seq ?_
  refine AW.region ?_
  refine AL.rp rfl rfl (rp_move rfl rfl) ?_
  refine AL.rp rfl rfl (rp_assign rfl rfl) ?_
  refine AL.rp rfl rfl (rp_assign rfl rfl) ?_
  refine AL.nil ?_
  try simp only [thenS, S.put]
  refine AW.ret ?_
  exact ⟨[_, _], ⟨rfl, rfl, trivial⟩, rfl, by simp [tupOf, V.pure, V.has, V.hasL]⟩
 ·by_cases hlt : k < n
  ·obtain ⟨x, hx⟩ := get_lt hn hlt
   by_cases hxa : x = a
   ·have hE : stepV l k a = .tup [.i (((k + 1 : Nat) : Nat) : Int), .b true] := by unfold stepV fitN; rw [if_neg h0, if_pos (by rw [hx, hxa])]
    rw [hE]
    refine AW.seq ?_
    refine AW.region ?_
    refine AL.rp rfl rfl (rp_assign rfl rfl) ?_
    refine AL.rp rfl rfl (rp_assign rfl rfl) ?_
    refine AL.nil ?_
    try simp only [thenS, S.put, enum, List.nil_append, List.cons_append, List.append_nil, Nat.zero_add, Nat.reduceAdd]
    refine AW.seq ?_
    refine AW.seq ?_
    refine AW.region ?_
    refine AL.rp rfl rfl (rp_move rfl rfl) ?_
    (first | (refine AL.rp rfl rfl (rp_eqlT rfl rfl rfl (by first | assumption | omega | (dsimp only; omega))) ?_) | (refine AL.rp rfl rfl (rp_eqlF rfl rfl rfl (by first | assumption | omega | (dsimp only; omega))) ?_) | (refine AL.rp rfl rfl (rp_eql rfl rfl rfl) ?_))
    refine AL.nil ?_
    try simp only [thenS, S.put]
    refine AW.condF rfl ?_
    refine AW.skip ?_
    try simp only [thenS]
    refine AW.seq ?_
    refine AW.draw [(0, true), (1, true), (2, true), (3, true), (4, true), (5, true), (6, true), (7, true), (8, true), (9, true), (10, true), (11, true), (12, true), (13, true), (14, true), (15, true)] (fun i => !([] : List Nat).contains i) 16 (by kernel_rfl) (by kernel_rfl) rfl (by kernel_rfl) ?_
    refine AD1.rp rfl rfl rfl (fun _ _ h => h) (rp_move rfl rfl) ?_
    refine AD1.rp rfl rfl rfl (fun _ _ h => h) (rp_add rfl rfl rfl (by first | omega | (dsimp only; omega))) ?_
    refine AD1.rp rfl rfl rfl (fun _ _ h => h) (rp_move rfl rfl) ?_
    refine AD1.rp rfl rfl rfl (fun _ _ h => h) (rp_move rfl rfl) ?_
    (first | (refine AD1.rp rfl rfl rfl (fun _ _ h => h) (rp_len_map Try.underlying29 rfl rfl (by assumption)) ?_) | (refine AD1.rp rfl rfl rfl (fun _ _ h => h) (rp_len_own Try.underlying29 rfl rfl) ?_) | (refine AD1.rp rfl rfl rfl (fun _ _ h => h) (rp_len_sl Try.underlying29 rfl rfl) ?_) | (refine AD1.rp rfl rfl rfl (fun _ _ h => h) (rp_len_nil Try.underlying29 rfl rfl) ?_) | (refine AD1.rp rfl rfl rfl (fun _ _ h => h) (rp_len_str Try.underlying29 rfl rfl) ?_))
    (first | (refine AD1.rp rfl rfl rfl (fun _ _ h => h) (rp_lssT rfl rfl rfl (by first | assumption | omega | (dsimp only; omega))) ?_) | (refine AD1.rp rfl rfl rfl (fun _ _ h => h) (rp_lssF rfl rfl rfl (by first | assumption | omega | (dsimp only; omega))) ?_) | (refine AD1.rp rfl rfl rfl (fun _ _ h => h) (rp_lss rfl rfl rfl) ?_))
    refine AD1.rp rfl rfl rfl (fun _ _ h => h) (rp_move rfl rfl) ?_
    (first | (refine AD1.noV rfl rfl rfl rfl rfl (fun _ _ h => h) ?_) | (refine AD1.noU rfl rfl ⟨_, rfl, rfl⟩ rfl (fun _ _ h => h) ?_) | (refine AD1.rpy rfl rfl rfl rfl (fun _ _ h => h) (rp_move rfl rfl) ?_))
    (first | (refine AD1.noV rfl rfl rfl rfl rfl (fun _ _ h => h) ?_) | (refine AD1.noU rfl rfl ⟨_, rfl, rfl⟩ rfl (fun _ _ h => h) ?_) | (refine AD1.rpy rfl rfl rfl rfl (fun _ _ h => h) (rp_move rfl rfl) ?_))
    (first | (refine AD1.noV rfl rfl rfl rfl rfl (fun _ _ h => h) ?_) | (refine AD1.noU rfl rfl ⟨_, rfl, rfl⟩ rfl (fun _ _ h => h) ?_) | (refine AD1.rpy rfl rfl rfl rfl (fun _ _ h => h) (rp_index_map Try.underlying29 inf3 rfl rfl rfl rfl (by assumption)) ?_) | (refine AD1.rpy rfl rfl rfl rfl (fun _ _ h => h) (rp_index_own Try.underlying29 inf3 rfl rfl rfl rfl (by first | assumption | omega)) ?_) | (refine AD1.rpy rfl rfl rfl rfl (fun _ _ h => h) (rd_index_sl Try.underlying29 inf3 rfl rfl rfl rfl (by assumption)) ?_) | (refine AD1.rpy rfl rfl rfl rfl (fun _ _ h => h) (rp_index_own Try.underlying29 inf3 rfl rfl rfl (by omega) (by omega)) ?_))
    (first | (refine AD1.noV rfl rfl rfl rfl rfl (fun _ _ h => h) ?_) | (refine AD1.noU rfl rfl ⟨_, rfl, rfl⟩ rfl (fun _ _ h => h) ?_) | (refine AD1.rdy rfl rfl rfl rfl (fun _ _ h => h) (rd_load_ref Try.underlying3 rfl rfl rfl rfl rfl rfl) ?_) | (refine AD1.rdy rfl rfl rfl rfl (fun _ _ h => h) (rd_load_ad Try.underlying3 rfl rfl rfl rfl) ?_) | (refine AD1.rdy rfl rfl rfl rfl (fun _ _ h => h) (rd_load_map Try.underlying3 rfl rfl rfl rfl rfl rfl (by assumption)) ?_) | (refine AD1.rdy rfl rfl rfl rfl (fun _ _ h => h) (rd_load_flat Try.underlying3 rfl rfl rfl rfl rfl rfl (fun _ => rfl) (by assumption) rfl) ?_))
    (first | (refine AD1.noV rfl rfl rfl rfl rfl (fun _ _ h => h) ?_) | (refine AD1.noU rfl rfl ⟨_, rfl, rfl⟩ rfl (fun _ _ h => h) ?_) | (refine AD1.rpy rfl rfl rfl rfl (fun _ _ h => h) (rp_move rfl rfl) ?_))
    (first | (refine AD1.noV rfl rfl rfl rfl rfl (fun _ _ h => h) ?_) | (refine AD1.noU rfl rfl ⟨_, rfl, rfl⟩ rfl (fun _ _ h => h) ?_) | (refine AD1.rpy rfl rfl rfl rfl (fun _ _ h => h) (rp_eqlT rfl rfl rfl (by first | assumption | omega | (dsimp only; omega))) ?_) | (refine AD1.rpy rfl rfl rfl rfl (fun _ _ h => h) (rp_eqlF rfl rfl rfl (by first | assumption | omega | (dsimp only; omega))) ?_) | (refine AD1.rpy rfl rfl rfl rfl (fun _ _ h => h) (rp_eql rfl rfl rfl) ?_))
    refine AD1.rp rfl rfl rfl (fun _ _ h => h) (rp_pick rfl rfl rfl) ?_
    refine AD1.rp rfl rfl rfl (fun _ _ h => h) (rp_assign rfl rfl) ?_
    refine AD1.rp rfl rfl rfl (fun _ _ h => h) (rp_assign rfl rfl) ?_
    refine AD1.nil ?_
    try simp only [thenS, S.put]
    refine AW.ret ?_
    exact ⟨[_, _], ⟨rfl, rfl, trivial⟩, rfl, by simp [tupOf, V.pure, V.has, V.hasL]⟩
   ·have hE : stepV l k a = .tup [.i ((k : Int) + 1), .b false] := by unfold stepV fitN; rw [if_neg h0, if_neg (by rw [hx]; simpa using hxa)]
    rw [hE]
    refine AW.seq ?_
    refine AW.region ?_
    refine AL.rp rfl rfl (rp_assign rfl rfl) ?_
    refine AL.rp rfl rfl (rp_assign rfl rfl) ?_
    refine AL.nil ?_
    try simp only [thenS, S.put, enum, List.nil_append, List.cons_append, List.append_nil, Nat.zero_add, Nat.reduceAdd]
    refine AW.seq ?_
    refine AW.seq ?_
    refine AW.region ?_
    refine AL.rp rfl rfl (rp_move rfl rfl) ?_
    (first | (refine AL.rp rfl rfl (rp_eqlT rfl rfl rfl (by first | assumption | omega | (dsimp only; omega))) ?_) | (refine AL.rp rfl rfl (rp_eqlF rfl rfl rfl (by first | assumption | omega | (dsimp only; omega))) ?_) | (refine AL.rp rfl rfl (rp_eql rfl rfl rfl) ?_))
    refine AL.nil ?_
    try simp only [thenS, S.put]
    refine AW.condF rfl ?_
    refine AW.skip ?_
    try simp only [thenS]
    refine AW.seq ?_
    refine AW.draw [(0, true), (1, true), (2, true), (3, true), (4, true), (5, true), (6, true), (7, true), (8, true), (9, true), (10, true), (11, true), (12, true), (13, true), (14, true), (15, true)] (fun i => !([] : List Nat).contains i) 16 (by kernel_rfl) (by kernel_rfl) rfl (by kernel_rfl) ?_
    refine AD1.rp rfl rfl rfl (fun _ _ h => h) (rp_move rfl rfl) ?_
    refine AD1.rp rfl rfl rfl (fun _ _ h => h) (rp_add rfl rfl rfl (by first | omega | (dsimp only; omega))) ?_
    refine AD1.rp rfl rfl rfl (fun _ _ h => h) (rp_move rfl rfl) ?_
    refine AD1.rp rfl rfl rfl (fun _ _ h => h) (rp_move rfl rfl) ?_
    (first | (refine AD1.rp rfl rfl rfl (fun _ _ h => h) (rp_len_map Try.underlying29 rfl rfl (by assumption)) ?_) | (refine AD1.rp rfl rfl rfl (fun _ _ h => h) (rp_len_own Try.underlying29 rfl rfl) ?_) | (refine AD1.rp rfl rfl rfl (fun _ _ h => h) (rp_len_sl Try.underlying29 rfl rfl) ?_) | (refine AD1.rp rfl rfl rfl (fun _ _ h => h) (rp_len_nil Try.underlying29 rfl rfl) ?_) | (refine AD1.rp rfl rfl rfl (fun _ _ h => h) (rp_len_str Try.underlying29 rfl rfl) ?_))
    (first | (refine AD1.rp rfl rfl rfl (fun _ _ h => h) (rp_lssT rfl rfl rfl (by first | assumption | omega | (dsimp only; omega))) ?_) | (refine AD1.rp rfl rfl rfl (fun _ _ h => h) (rp_lssF rfl rfl rfl (by first | assumption | omega | (dsimp only; omega))) ?_) | (refine AD1.rp rfl rfl rfl (fun _ _ h => h) (rp_lss rfl rfl rfl) ?_))
    refine AD1.rp rfl rfl rfl (fun _ _ h => h) (rp_move rfl rfl) ?_
    (first | (refine AD1.noV rfl rfl rfl rfl rfl (fun _ _ h => h) ?_) | (refine AD1.noU rfl rfl ⟨_, rfl, rfl⟩ rfl (fun _ _ h => h) ?_) | (refine AD1.rpy rfl rfl rfl rfl (fun _ _ h => h) (rp_move rfl rfl) ?_))
    (first | (refine AD1.noV rfl rfl rfl rfl rfl (fun _ _ h => h) ?_) | (refine AD1.noU rfl rfl ⟨_, rfl, rfl⟩ rfl (fun _ _ h => h) ?_) | (refine AD1.rpy rfl rfl rfl rfl (fun _ _ h => h) (rp_move rfl rfl) ?_))
    (first | (refine AD1.noV rfl rfl rfl rfl rfl (fun _ _ h => h) ?_) | (refine AD1.noU rfl rfl ⟨_, rfl, rfl⟩ rfl (fun _ _ h => h) ?_) | (refine AD1.rpy rfl rfl rfl rfl (fun _ _ h => h) (rp_index_map Try.underlying29 inf3 rfl rfl rfl rfl (by assumption)) ?_) | (refine AD1.rpy rfl rfl rfl rfl (fun _ _ h => h) (rp_index_own Try.underlying29 inf3 rfl rfl rfl rfl (by first | assumption | omega)) ?_) | (refine AD1.rpy rfl rfl rfl rfl (fun _ _ h => h) (rd_index_sl Try.underlying29 inf3 rfl rfl rfl rfl (by assumption)) ?_) | (refine AD1.rpy rfl rfl rfl rfl (fun _ _ h => h) (rp_index_own Try.underlying29 inf3 rfl rfl rfl (by omega) (by omega)) ?_))
    (first | (refine AD1.noV rfl rfl rfl rfl rfl (fun _ _ h => h) ?_) | (refine AD1.noU rfl rfl ⟨_, rfl, rfl⟩ rfl (fun _ _ h => h) ?_) | (refine AD1.rdy rfl rfl rfl rfl (fun _ _ h => h) (rd_load_ref Try.underlying3 rfl rfl rfl rfl rfl rfl) ?_) | (refine AD1.rdy rfl rfl rfl rfl (fun _ _ h => h) (rd_load_ad Try.underlying3 rfl rfl rfl rfl) ?_) | (refine AD1.rdy rfl rfl rfl rfl (fun _ _ h => h) (rd_load_map Try.underlying3 rfl rfl rfl rfl rfl rfl (by assumption)) ?_) | (refine AD1.rdy rfl rfl rfl rfl (fun _ _ h => h) (rd_load_flat Try.underlying3 rfl rfl rfl rfl rfl rfl (fun _ => rfl) (by assumption) rfl) ?_))
    (first | (refine AD1.noV rfl rfl rfl rfl rfl (fun _ _ h => h) ?_) | (refine AD1.noU rfl rfl ⟨_, rfl, rfl⟩ rfl (fun _ _ h => h) ?_) | (refine AD1.rpy rfl rfl rfl rfl (fun _ _ h => h) (rp_move rfl rfl) ?_))
    (first | (refine AD1.noV rfl rfl rfl rfl rfl (fun _ _ h => h) ?_) | (refine AD1.noU rfl rfl ⟨_, rfl, rfl⟩ rfl (fun _ _ h => h) ?_) | (refine AD1.rpy rfl rfl rfl rfl (fun _ _ h => h) (rp_eqlT rfl rfl rfl (by first | assumption | omega | (dsimp only; omega))) ?_) | (refine AD1.rpy rfl rfl rfl rfl (fun _ _ h => h) (rp_eqlF rfl rfl rfl (by first | assumption | omega | (dsimp only; omega))) ?_) | (refine AD1.rpy rfl rfl rfl rfl (fun _ _ h => h) (rp_eql rfl rfl rfl) ?_))
    refine AD1.rp rfl rfl rfl (fun _ _ h => h) (rp_pick rfl rfl rfl) ?_
    refine AD1.rp rfl rfl rfl (fun _ _ h => h) (rp_assign rfl rfl) ?_
    refine AD1.rp rfl rfl rfl (fun _ _ h => h) (rp_assign rfl rfl) ?_
    refine AD1.nil ?_
    try simp only [thenS, S.put]
    refine AW.ret ?_
    exact ⟨[_, _], ⟨rfl, rfl, trivial⟩, rfl, by simp [tupOf, V.pure, V.has, V.hasL]⟩
  ·have hE : stepV l k a = .tup [.i ((k : Int) + 1), .b false] := by unfold stepV fitN; rw [if_neg h0, if_neg (by rw [List.getElem?_eq_none (by omega)]; simp)]
   rw [hE]
   refine AW.seq ?_
   refine AW.region ?_
   refine AL.rp rfl rfl (rp_assign rfl rfl) ?_
   refine AL.rp rfl rfl (rp_assign rfl rfl) ?_
   refine AL.nil ?_
   try simp only [thenS, S.put, enum, List.nil_append, List.cons_append, List.append_nil, Nat.zero_add, Nat.reduceAdd]
   refine AW.seq ?_
   refine AW.seq ?_
   refine AW.region ?_
   refine AL.rp rfl rfl (rp_move rfl rfl) ?_
   (first | (refine AL.rp rfl rfl (rp_eqlT rfl rfl rfl (by first | assumption | omega | (dsimp only; omega))) ?_) | (refine AL.rp rfl rfl (rp_eqlF rfl rfl rfl (by first | assumption | omega | (dsimp only; omega))) ?_) | (refine AL.rp rfl rfl (rp_eql rfl rfl rfl) ?_))
   refine AL.nil ?_
   try simp only [thenS, S.put]
   refine AW.condF rfl ?_
   refine AW.skip ?_
   try simp only [thenS]
   refine AW.seq ?_
   refine AW.draw [(0, true), (1, true), (2, true), (3, true), (4, true), (5, true), (6, true), (7, true), (8, true), (9, true), (10, true), (11, true), (12, true), (13, true), (14, true), (15, true)] (fun i => !([] : List Nat).contains i) 16 (by kernel_rfl) (by kernel_rfl) rfl (by kernel_rfl) ?_
   refine AD1.rp rfl rfl rfl (fun _ _ h => h) (rp_move rfl rfl) ?_
   refine AD1.rp rfl rfl rfl (fun _ _ h => h) (rp_add rfl rfl rfl (by first | omega | (dsimp only; omega))) ?_
   refine AD1.rp rfl rfl rfl (fun _ _ h => h) (rp_move rfl rfl) ?_
   refine AD1.rp rfl rfl rfl (fun _ _ h => h) (rp_move rfl rfl) ?_
   (first | (refine AD1.rp rfl rfl rfl (fun _ _ h => h) (rp_len_map Try.underlying29 rfl rfl (by assumption)) ?_) | (refine AD1.rp rfl rfl rfl (fun _ _ h => h) (rp_len_own Try.underlying29 rfl rfl) ?_) | (refine AD1.rp rfl rfl rfl (fun _ _ h => h) (rp_len_sl Try.underlying29 rfl rfl) ?_) | (refine AD1.rp rfl rfl rfl (fun _ _ h => h) (rp_len_nil Try.underlying29 rfl rfl) ?_) | (refine AD1.rp rfl rfl rfl (fun _ _ h => h) (rp_len_str Try.underlying29 rfl rfl) ?_))
   (first | (refine AD1.rp rfl rfl rfl (fun _ _ h => h) (rp_lssT rfl rfl rfl (by first | assumption | omega | (dsimp only; omega))) ?_) | (refine AD1.rp rfl rfl rfl (fun _ _ h => h) (rp_lssF rfl rfl rfl (by first | assumption | omega | (dsimp only; omega))) ?_) | (refine AD1.rp rfl rfl rfl (fun _ _ h => h) (rp_lss rfl rfl rfl) ?_))
   refine AD1.rp rfl rfl rfl (fun _ _ h => h) (rp_move rfl rfl) ?_
   (first | (refine AD1.noV rfl rfl rfl rfl rfl (fun _ _ h => h) ?_) | (refine AD1.noU rfl rfl ⟨_, rfl, rfl⟩ rfl (fun _ _ h => h) ?_) | (refine AD1.rpy rfl rfl rfl rfl (fun _ _ h => h) (rp_move rfl rfl) ?_))
   (first | (refine AD1.noV rfl rfl rfl rfl rfl (fun _ _ h => h) ?_) | (refine AD1.noU rfl rfl ⟨_, rfl, rfl⟩ rfl (fun _ _ h => h) ?_) | (refine AD1.rpy rfl rfl rfl rfl (fun _ _ h => h) (rp_move rfl rfl) ?_))
   (first | (refine AD1.noV rfl rfl rfl rfl rfl (fun _ _ h => h) ?_) | (refine AD1.noU rfl rfl ⟨_, rfl, rfl⟩ rfl (fun _ _ h => h) ?_) | (refine AD1.rpy rfl rfl rfl rfl (fun _ _ h => h) (rp_index_map Try.underlying29 inf3 rfl rfl rfl rfl (by assumption)) ?_) | (refine AD1.rpy rfl rfl rfl rfl (fun _ _ h => h) (rp_index_own Try.underlying29 inf3 rfl rfl rfl rfl (by first | assumption | omega)) ?_) | (refine AD1.rpy rfl rfl rfl rfl (fun _ _ h => h) (rd_index_sl Try.underlying29 inf3 rfl rfl rfl rfl (by assumption)) ?_) | (refine AD1.rpy rfl rfl rfl rfl (fun _ _ h => h) (rp_index_own Try.underlying29 inf3 rfl rfl rfl (by omega) (by omega)) ?_))
   (first | (refine AD1.noV rfl rfl rfl rfl rfl (fun _ _ h => h) ?_) | (refine AD1.noU rfl rfl ⟨_, rfl, rfl⟩ rfl (fun _ _ h => h) ?_) | (refine AD1.rdy rfl rfl rfl rfl (fun _ _ h => h) (rd_load_ref Try.underlying3 rfl rfl rfl rfl rfl rfl) ?_) | (refine AD1.rdy rfl rfl rfl rfl (fun _ _ h => h) (rd_load_ad Try.underlying3 rfl rfl rfl rfl) ?_) | (refine AD1.rdy rfl rfl rfl rfl (fun _ _ h => h) (rd_load_map Try.underlying3 rfl rfl rfl rfl rfl rfl (by assumption)) ?_) | (refine AD1.rdy rfl rfl rfl rfl (fun _ _ h => h) (rd_load_flat Try.underlying3 rfl rfl rfl rfl rfl rfl (fun _ => rfl) (by assumption) rfl) ?_))
   (first | (refine AD1.noV rfl rfl rfl rfl rfl (fun _ _ h => h) ?_) | (refine AD1.noU rfl rfl ⟨_, rfl, rfl⟩ rfl (fun _ _ h => h) ?_) | (refine AD1.rpy rfl rfl rfl rfl (fun _ _ h => h) (rp_move rfl rfl) ?_))
   (first | (refine AD1.noV rfl rfl rfl rfl rfl (fun _ _ h => h) ?_) | (refine AD1.noU rfl rfl ⟨_, rfl, rfl⟩ rfl (fun _ _ h => h) ?_) | (refine AD1.rpy rfl rfl rfl rfl (fun _ _ h => h) (rp_eqlT rfl rfl rfl (by first | assumption | omega | (dsimp only; omega))) ?_) | (refine AD1.rpy rfl rfl rfl rfl (fun _ _ h => h) (rp_eqlF rfl rfl rfl (by first | assumption | omega | (dsimp only; omega))) ?_) | (refine AD1.rpy rfl rfl rfl rfl (fun _ _ h => h) (rp_eql rfl rfl rfl) ?_))
   refine AD1.rp rfl rfl rfl (fun _ _ h => h) (rp_pick rfl rfl rfl) ?_
   refine AD1.rp rfl rfl rfl (fun _ _ h => h) (rp_assign rfl rfl) ?_
   refine AD1.rp rfl rfl rfl (fun _ _ h => h) (rp_assign rfl rfl) ?_
   refine AD1.nil ?_
   try simp only [thenS, S.put]
   refine AW.ret ?_
   exact ⟨[_, _], ⟨rfl, rfl, trivial⟩, rfl, by simp [tupOf, V.pure, V.has, V.hasL]⟩
theorem am_fits (l : List Int) (k : Nat) (a : Int) (hk : k ≤ l.length) (hl : l.length ≤ 12) : Fn Try.prog 111 [.d (intsD l), .i k, .i a] (fun v => v = .i (fitsI l k a)) := by
 obtain ⟨n, hn⟩ : ∃ n, l.length = n := ⟨_, rfl⟩
 rw [hn] at hk hl
 refine Fn.intro (n := 24) ⟨Try.func111, rfl, rfl, rfl, rfl⟩ (by simp [V.pure, V.has, V.hasL]) (by simp) fun w0 out => ?_
 by_cases h0 : a = 0
 ·have hE : fitsI l k a = (k : Int) := by unfold fitsI fitN; rw [if_pos h0]
  rw [hE]
  refine AW.seq ?_
  refine AW.region ?_
  refine AL.rp rfl rfl (rp_assign rfl rfl) ?_
  refine AL.nil ?_
  try simp only [thenS, S.put, enum, List.nil_append, List.cons_append, List.append_nil, Nat.zero_add, Nat.reduceAdd]
  refine AW.seq ?_
  refine AW.seq ?_
  refine AW.region ?_
  refine AL.rp rfl rfl (rp_move rfl rfl) ?_
  (first | (refine AL.rp rfl rfl (rp_eqlT rfl rfl rfl (by first | assumption | omega | (dsimp only; omega))) ?_) | (refine AL.rp rfl rfl (rp_eqlF rfl rfl rfl (by first | assumption | omega | (dsimp only; omega))) ?_) | (refine AL.rp rfl rfl (rp_eql rfl rfl rfl) ?_))
  refine AL.nil ?_
  try simp only [thenS, S.put]
  refine AW.condT rfl ?_
  refine AW.seq ?_
  refine AW.region ?_
  refine AL.rp rfl rfl (rp_move rfl rfl) ?_
  refine AL.rp rfl rfl (rp_assign rfl rfl) ?_
  refine AL.nil ?_
  try simp only [thenS, S.put]
  refine AW.ret ?_
  exact ⟨[_], ⟨rfl, trivial⟩, rfl, by simp [tupOf, V.pure, V.has]⟩
 ·by_cases hlt : k < n
  ·obtain ⟨x, hx⟩ := get_lt hn hlt
   by_cases hxa : x = a
   ·have hE : fitsI l k a = ((k + 1 : Nat) : Int) := by unfold fitsI fitN; rw [if_neg h0, if_pos (by rw [hx, hxa])]
    rw [hE]
    refine AW.seq ?_
    refine AW.region ?_
    refine AL.rp rfl rfl (rp_assign rfl rfl) ?_
    refine AL.nil ?_
    try simp only [thenS, S.put, enum, List.nil_append, List.cons_append, List.append_nil, Nat.zero_add, Nat.reduceAdd]
    refine AW.seq ?_
    refine AW.seq ?_
    refine AW.region ?_
    refine AL.rp rfl rfl (rp_move rfl rfl) ?_
    (first | (refine AL.rp rfl rfl (rp_eqlT rfl rfl rfl (by first | assumption | omega | (dsimp only; omega))) ?_) | (refine AL.rp rfl rfl (rp_eqlF rfl rfl rfl (by first | assumption | omega | (dsimp only; omega))) ?_) | (refine AL.rp rfl rfl (rp_eql rfl rfl rfl) ?_))
    refine AL.nil ?_
    try simp only [thenS, S.put]
    refine AW.condF rfl ?_
    refine AW.skip ?_
    try simp only [thenS]
    refine AW.seq ?_
    refine AW.seq ?_
    refine AW.region ?_
    refine AL.rp rfl rfl (rp_move rfl rfl) ?_
    refine AL.rp rfl rfl (rp_move rfl rfl) ?_
    (first | (refine AL.rp rfl rfl (rp_len_map Try.underlying29 rfl rfl (by assumption)) ?_) | (refine AL.rp rfl rfl (rp_len_own Try.underlying29 rfl rfl) ?_) | (refine AL.rp rfl rfl (rp_len_sl Try.underlying29 rfl rfl) ?_) | (refine AL.rp rfl rfl (rp_len_nil Try.underlying29 rfl rfl) ?_) | (refine AL.rp rfl rfl (rp_len_str Try.underlying29 rfl rfl) ?_))
    (first | (refine AL.rp rfl rfl (rp_lssT rfl rfl rfl (by first | assumption | omega | (dsimp only; omega))) ?_) | (refine AL.rp rfl rfl (rp_lssF rfl rfl rfl (by first | assumption | omega | (dsimp only; omega))) ?_) | (refine AL.rp rfl rfl (rp_lss rfl rfl rfl) ?_))
    refine AL.rp rfl rfl (rp_move rfl rfl) ?_
    (first | (refine AL.noV rfl rfl rfl rfl ?_) | (refine AL.noU rfl ⟨_, rfl, rfl⟩ rfl ?_) | (refine AL.rpy rfl rfl rfl (rp_move rfl rfl) ?_))
    (first | (refine AL.noV rfl rfl rfl rfl ?_) | (refine AL.noU rfl ⟨_, rfl, rfl⟩ rfl ?_) | (refine AL.rpy rfl rfl rfl (rp_move rfl rfl) ?_))
    (first | (refine AL.noV rfl rfl rfl rfl ?_) | (refine AL.noU rfl ⟨_, rfl, rfl⟩ rfl ?_) | (refine AL.rpy rfl rfl rfl (rp_index_map Try.underlying29 inf3 rfl rfl rfl rfl (by assumption)) ?_) | (refine AL.rpy rfl rfl rfl (rp_index_own Try.underlying29 inf3 rfl rfl rfl rfl (by first | assumption | omega)) ?_) | (refine AL.rpy rfl rfl rfl (rd_index_sl Try.underlying29 inf3 rfl rfl rfl rfl (by assumption)) ?_) | (refine AL.rpy rfl rfl rfl (rp_index_own Try.underlying29 inf3 rfl rfl rfl (by omega) (by omega)) ?_))
    (first | (refine AL.noV rfl rfl rfl rfl ?_) | (refine AL.noU rfl ⟨_, rfl, rfl⟩ rfl ?_) | (refine AL.rdy rfl rfl rfl (rd_load_ref Try.underlying3 rfl rfl rfl rfl rfl rfl) ?_) | (refine AL.rdy rfl rfl rfl (rd_load_ad Try.underlying3 rfl rfl rfl rfl) ?_) | (refine AL.rdy rfl rfl rfl (rd_load_map Try.underlying3 rfl rfl rfl rfl rfl rfl (by assumption)) ?_) | (refine AL.rdy rfl rfl rfl (rd_load_flat Try.underlying3 rfl rfl rfl rfl rfl rfl (fun _ => rfl) (by assumption) rfl) ?_))
    (first | (refine AL.noV rfl rfl rfl rfl ?_) | (refine AL.noU rfl ⟨_, rfl, rfl⟩ rfl ?_) | (refine AL.rpy rfl rfl rfl (rp_move rfl rfl) ?_))
    (first | (refine AL.noV rfl rfl rfl rfl ?_) | (refine AL.noU rfl ⟨_, rfl, rfl⟩ rfl ?_) | (refine AL.rpy rfl rfl rfl (rp_eqlT rfl rfl rfl (by first | assumption | omega | (dsimp only; omega))) ?_) | (refine AL.rpy rfl rfl rfl (rp_eqlF rfl rfl rfl (by first | assumption | omega | (dsimp only; omega))) ?_) | (refine AL.rpy rfl rfl rfl (rp_eql rfl rfl rfl) ?_))
    refine AL.rp rfl rfl (rp_pick rfl rfl rfl) ?_
    refine AL.nil ?_
    try simp only [thenS, S.put]
    refine AW.condT rfl ?_
    refine AW.seq ?_
    refine AW.region ?_
    refine AL.rp rfl rfl (rp_move rfl rfl) ?_
    refine AL.rp rfl rfl (rp_add rfl rfl rfl (by first | omega | (dsimp only; omega))) ?_
    refine AL.rp rfl rfl (rp_assign rfl rfl) ?_
    refine AL.nil ?_
    try simp only [thenS, S.put]
    refine AW.ret ?_
    exact ⟨[_], ⟨rfl, trivial⟩, rfl, by simp [tupOf, V.pure, V.has]⟩
   ·have hE : fitsI l k a = -1 := by unfold fitsI fitN; rw [if_neg h0, if_neg (by rw [hx]; simpa using hxa)]
    rw [hE]
    refine AW.seq ?_
    refine AW.region ?_
    refine AL.rp rfl rfl (rp_assign rfl rfl) ?_
    refine AL.nil ?_
    try simp only [thenS, S.put, enum, List.nil_append, List.cons_append, List.append_nil, Nat.zero_add, Nat.reduceAdd]
    refine AW.seq ?_
    refine AW.seq ?_
    refine AW.region ?_
    refine AL.rp rfl rfl (rp_move rfl rfl) ?_
    (first | (refine AL.rp rfl rfl (rp_eqlT rfl rfl rfl (by first | assumption | omega | (dsimp only; omega))) ?_) | (refine AL.rp rfl rfl (rp_eqlF rfl rfl rfl (by first | assumption | omega | (dsimp only; omega))) ?_) | (refine AL.rp rfl rfl (rp_eql rfl rfl rfl) ?_))
    refine AL.nil ?_
    try simp only [thenS, S.put]
    refine AW.condF rfl ?_
    refine AW.skip ?_
    try simp only [thenS]
    refine AW.seq ?_
    refine AW.seq ?_
    refine AW.region ?_
    refine AL.rp rfl rfl (rp_move rfl rfl) ?_
    refine AL.rp rfl rfl (rp_move rfl rfl) ?_
    (first | (refine AL.rp rfl rfl (rp_len_map Try.underlying29 rfl rfl (by assumption)) ?_) | (refine AL.rp rfl rfl (rp_len_own Try.underlying29 rfl rfl) ?_) | (refine AL.rp rfl rfl (rp_len_sl Try.underlying29 rfl rfl) ?_) | (refine AL.rp rfl rfl (rp_len_nil Try.underlying29 rfl rfl) ?_) | (refine AL.rp rfl rfl (rp_len_str Try.underlying29 rfl rfl) ?_))
    (first | (refine AL.rp rfl rfl (rp_lssT rfl rfl rfl (by first | assumption | omega | (dsimp only; omega))) ?_) | (refine AL.rp rfl rfl (rp_lssF rfl rfl rfl (by first | assumption | omega | (dsimp only; omega))) ?_) | (refine AL.rp rfl rfl (rp_lss rfl rfl rfl) ?_))
    refine AL.rp rfl rfl (rp_move rfl rfl) ?_
    (first | (refine AL.noV rfl rfl rfl rfl ?_) | (refine AL.noU rfl ⟨_, rfl, rfl⟩ rfl ?_) | (refine AL.rpy rfl rfl rfl (rp_move rfl rfl) ?_))
    (first | (refine AL.noV rfl rfl rfl rfl ?_) | (refine AL.noU rfl ⟨_, rfl, rfl⟩ rfl ?_) | (refine AL.rpy rfl rfl rfl (rp_move rfl rfl) ?_))
    (first | (refine AL.noV rfl rfl rfl rfl ?_) | (refine AL.noU rfl ⟨_, rfl, rfl⟩ rfl ?_) | (refine AL.rpy rfl rfl rfl (rp_index_map Try.underlying29 inf3 rfl rfl rfl rfl (by assumption)) ?_) | (refine AL.rpy rfl rfl rfl (rp_index_own Try.underlying29 inf3 rfl rfl rfl rfl (by first | assumption | omega)) ?_) | (refine AL.rpy rfl rfl rfl (rd_index_sl Try.underlying29 inf3 rfl rfl rfl rfl (by assumption)) ?_) | (refine AL.rpy rfl rfl rfl (rp_index_own Try.underlying29 inf3 rfl rfl rfl (by omega) (by omega)) ?_))
    (first | (refine AL.noV rfl rfl rfl rfl ?_) | (refine AL.noU rfl ⟨_, rfl, rfl⟩ rfl ?_) | (refine AL.rdy rfl rfl rfl (rd_load_ref Try.underlying3 rfl rfl rfl rfl rfl rfl) ?_) | (refine AL.rdy rfl rfl rfl (rd_load_ad Try.underlying3 rfl rfl rfl rfl) ?_) | (refine AL.rdy rfl rfl rfl (rd_load_map Try.underlying3 rfl rfl rfl rfl rfl rfl (by assumption)) ?_) | (refine AL.rdy rfl rfl rfl (rd_load_flat Try.underlying3 rfl rfl rfl rfl rfl rfl (fun _ => rfl) (by assumption) rfl) ?_))
    (first | (refine AL.noV rfl rfl rfl rfl ?_) | (refine AL.noU rfl ⟨_, rfl, rfl⟩ rfl ?_) | (refine AL.rpy rfl rfl rfl (rp_move rfl rfl) ?_))
    (first | (refine AL.noV rfl rfl rfl rfl ?_) | (refine AL.noU rfl ⟨_, rfl, rfl⟩ rfl ?_) | (refine AL.rpy rfl rfl rfl (rp_eqlT rfl rfl rfl (by first | assumption | omega | (dsimp only; omega))) ?_) | (refine AL.rpy rfl rfl rfl (rp_eqlF rfl rfl rfl (by first | assumption | omega | (dsimp only; omega))) ?_) | (refine AL.rpy rfl rfl rfl (rp_eql rfl rfl rfl) ?_))
    refine AL.rp rfl rfl (rp_pick rfl rfl rfl) ?_
    refine AL.nil ?_
    try simp only [thenS, S.put]
    refine AW.condF rfl ?_
    refine AW.skip ?_
    try simp only [thenS]
    refine AW.seq ?_
    refine AW.region ?_
    refine AL.rp rfl rfl (rp_assign rfl rfl) ?_
    refine AL.nil ?_
    try simp only [thenS, S.put]
    refine AW.ret ?_
    exact ⟨[_], ⟨rfl, trivial⟩, rfl, by simp [tupOf, V.pure, V.has]⟩
  ·have hE : fitsI l k a = -1 := by unfold fitsI fitN; rw [if_neg h0, if_neg (by rw [List.getElem?_eq_none (by omega)]; simp)]
   rw [hE]
   refine AW.seq ?_
   refine AW.region ?_
   refine AL.rp rfl rfl (rp_assign rfl rfl) ?_
   refine AL.nil ?_
   try simp only [thenS, S.put, enum, List.nil_append, List.cons_append, List.append_nil, Nat.zero_add, Nat.reduceAdd]
   refine AW.seq ?_
   refine AW.seq ?_
   refine AW.region ?_
   refine AL.rp rfl rfl (rp_move rfl rfl) ?_
   (first | (refine AL.rp rfl rfl (rp_eqlT rfl rfl rfl (by first | assumption | omega | (dsimp only; omega))) ?_) | (refine AL.rp rfl rfl (rp_eqlF rfl rfl rfl (by first | assumption | omega | (dsimp only; omega))) ?_) | (refine AL.rp rfl rfl (rp_eql rfl rfl rfl) ?_))
   refine AL.nil ?_
   try simp only [thenS, S.put]
   refine AW.condF rfl ?_
   refine AW.skip ?_
   try simp only [thenS]
   refine AW.seq ?_
   refine AW.seq ?_
   refine AW.region ?_
   refine AL.rp rfl rfl (rp_move rfl rfl) ?_
   refine AL.rp rfl rfl (rp_move rfl rfl) ?_
   (first | (refine AL.rp rfl rfl (rp_len_map Try.underlying29 rfl rfl (by assumption)) ?_) | (refine AL.rp rfl rfl (rp_len_own Try.underlying29 rfl rfl) ?_) | (refine AL.rp rfl rfl (rp_len_sl Try.underlying29 rfl rfl) ?_) | (refine AL.rp rfl rfl (rp_len_nil Try.underlying29 rfl rfl) ?_) | (refine AL.rp rfl rfl (rp_len_str Try.underlying29 rfl rfl) ?_))
   (first | (refine AL.rp rfl rfl (rp_lssT rfl rfl rfl (by first | assumption | omega | (dsimp only; omega))) ?_) | (refine AL.rp rfl rfl (rp_lssF rfl rfl rfl (by first | assumption | omega | (dsimp only; omega))) ?_) | (refine AL.rp rfl rfl (rp_lss rfl rfl rfl) ?_))
   refine AL.rp rfl rfl (rp_move rfl rfl) ?_
   (first | (refine AL.noV rfl rfl rfl rfl ?_) | (refine AL.noU rfl ⟨_, rfl, rfl⟩ rfl ?_) | (refine AL.rpy rfl rfl rfl (rp_move rfl rfl) ?_))
   (first | (refine AL.noV rfl rfl rfl rfl ?_) | (refine AL.noU rfl ⟨_, rfl, rfl⟩ rfl ?_) | (refine AL.rpy rfl rfl rfl (rp_move rfl rfl) ?_))
   (first | (refine AL.noV rfl rfl rfl rfl ?_) | (refine AL.noU rfl ⟨_, rfl, rfl⟩ rfl ?_) | (refine AL.rpy rfl rfl rfl (rp_index_map Try.underlying29 inf3 rfl rfl rfl rfl (by assumption)) ?_) | (refine AL.rpy rfl rfl rfl (rp_index_own Try.underlying29 inf3 rfl rfl rfl rfl (by first | assumption | omega)) ?_) | (refine AL.rpy rfl rfl rfl (rd_index_sl Try.underlying29 inf3 rfl rfl rfl rfl (by assumption)) ?_) | (refine AL.rpy rfl rfl rfl (rp_index_own Try.underlying29 inf3 rfl rfl rfl (by omega) (by omega)) ?_))
   (first | (refine AL.noV rfl rfl rfl rfl ?_) | (refine AL.noU rfl ⟨_, rfl, rfl⟩ rfl ?_) | (refine AL.rdy rfl rfl rfl (rd_load_ref Try.underlying3 rfl rfl rfl rfl rfl rfl) ?_) | (refine AL.rdy rfl rfl rfl (rd_load_ad Try.underlying3 rfl rfl rfl rfl) ?_) | (refine AL.rdy rfl rfl rfl (rd_load_map Try.underlying3 rfl rfl rfl rfl rfl rfl (by assumption)) ?_) | (refine AL.rdy rfl rfl rfl (rd_load_flat Try.underlying3 rfl rfl rfl rfl rfl rfl (fun _ => rfl) (by assumption) rfl) ?_))
   (first | (refine AL.noV rfl rfl rfl rfl ?_) | (refine AL.noU rfl ⟨_, rfl, rfl⟩ rfl ?_) | (refine AL.rpy rfl rfl rfl (rp_move rfl rfl) ?_))
   (first | (refine AL.noV rfl rfl rfl rfl ?_) | (refine AL.noU rfl ⟨_, rfl, rfl⟩ rfl ?_) | (refine AL.rpy rfl rfl rfl (rp_eqlT rfl rfl rfl (by first | assumption | omega | (dsimp only; omega))) ?_) | (refine AL.rpy rfl rfl rfl (rp_eqlF rfl rfl rfl (by first | assumption | omega | (dsimp only; omega))) ?_) | (refine AL.rpy rfl rfl rfl (rp_eql rfl rfl rfl) ?_))
   refine AL.rp rfl rfl (rp_pick rfl rfl rfl) ?_
   refine AL.nil ?_
   try simp only [thenS, S.put]
   refine AW.condF rfl ?_
   refine AW.skip ?_
   try simp only [thenS]
   refine AW.seq ?_
   refine AW.region ?_
   refine AL.rp rfl rfl (rp_assign rfl rfl) ?_
   refine AL.nil ?_
   try simp only [thenS, S.put]
   refine AW.ret ?_
   exact ⟨[_], ⟨rfl, trivial⟩, rfl, by simp [tupOf, V.pure, V.has]⟩
end Go.Proofs.Ytnpbdcjfealoeaa
