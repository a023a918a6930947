/- Part 7 of what the law CertainMakes rests on. -/
import Derived.Shelf.SlSortCmp.InsertionK
import Derived.Test.YthiknkcigcglkaaDoorPkCe1
import Derived.Test.YthiknkcigcglkaaDoorPkCe2
import Derived.Test.YthiknkcigcglkaaDoorPkCe3
import Derived.Test.YthiknkcigcglkaaDoorPkCe4
import Derived.Test.YthiknkcigcglkaaDoorPkCe5
import Derived.Test.YthiknkcigcglkaaDoorPkCe6
namespace Go.Proofs.YthiknkcigcglkaaDoor
open Go.RowKit
set_option linter.unusedSimpArgs false
set_option linter.unusedVariables false
set_option maxRecDepth 100000
set_option maxHeartbeats 8000000
open Go.Sort (HoldsK grow)
theorem am_weight (x : Int) : Fn Tryd.prog 39 [.i x] (fun v => v = .b (decide (0 ≤ x ∧ x ≤ 1000000000))) := by
 refine Fn.intro (n := 9) ⟨Tryd.func39, rfl, rfl, rfl, rfl⟩ zT8 zT14 fun w0 out => ?_
 by_cases h1 : 0 ≤ x
 ·by_cases h2 : x ≤ 1000000000
  ·skip
   apply AW.sr
   refine AL.z ?_
   apply AL.nil
   try simp only [thenS, S.put, enum, List.nil_append, List.cons_append, List.append_nil, Nat.zero_add, Nat.reduceAdd]
   apply AW.sr
   iterate 3 refine AL.z ?_
   iterate 2 refine AL.zy ?_
   iterate 2 refine AL.z ?_
   apply AL.nil
   try simp only [nd]
   apply AW.ret
   exact ⟨[_], ⟨rfl, trivial⟩, by simp [tupOf, h1, h2], by simp [tupOf, V.pure, V.has]⟩
  skip
  apply AW.sr
  refine AL.z ?_
  apply AL.nil
  try simp only [thenS, S.put, enum, List.nil_append, List.cons_append, List.append_nil, Nat.zero_add, Nat.reduceAdd]
  apply AW.sr
  iterate 3 refine AL.z ?_
  iterate 2 refine AL.zy ?_
  iterate 2 refine AL.z ?_
  apply AL.nil
  try simp only [nd]
  apply AW.ret
  exact ⟨[_], ⟨rfl, trivial⟩, by simp [tupOf, h1, h2], by simp [tupOf, V.pure, V.has]⟩
 skip
 apply AW.sr
 refine AL.z ?_
 apply AL.nil
 try simp only [thenS, S.put, enum, List.nil_append, List.cons_append, List.append_nil, Nat.zero_add, Nat.reduceAdd]
 apply AW.sr
 iterate 3 refine AL.z ?_
 refine AL.no rfl rfl rfl rfl ?_
 refine AL.no rfl rfl rfl rfl ?_
 iterate 2 refine AL.z ?_
 apply AL.nil
 try simp only [nd]
 apply AW.ret
 exact ⟨[_], ⟨rfl, trivial⟩, by simp [tupOf, h1], by simp [tupOf, V.pure, V.has]⟩
theorem am_label (x : Int) : Fn Tryd.prog 62 [.i x] (fun v => v = .b (decide (0 ≤ x ∧ x ≤ 1000))) := by
 refine Fn.intro (n := 9) ⟨Tryd.func62, rfl, rfl, rfl, rfl⟩ zT8 zT14 fun w0 out => ?_
 by_cases h1 : 0 ≤ x
 ·by_cases h2 : x ≤ 1000
  ·skip
   apply AW.sr
   refine AL.z ?_
   apply AL.nil
   try simp only [thenS, S.put, enum, List.nil_append, List.cons_append, List.append_nil, Nat.zero_add, Nat.reduceAdd]
   apply AW.sr
   iterate 3 refine AL.z ?_
   iterate 2 refine AL.zy ?_
   iterate 2 refine AL.z ?_
   apply AL.nil
   try simp only [nd]
   apply AW.ret
   exact ⟨[_], ⟨rfl, trivial⟩, by simp [tupOf, h1, h2], by simp [tupOf, V.pure, V.has]⟩
  skip
  apply AW.sr
  refine AL.z ?_
  apply AL.nil
  try simp only [thenS, S.put, enum, List.nil_append, List.cons_append, List.append_nil, Nat.zero_add, Nat.reduceAdd]
  apply AW.sr
  iterate 3 refine AL.z ?_
  iterate 2 refine AL.zy ?_
  iterate 2 refine AL.z ?_
  apply AL.nil
  try simp only [nd]
  apply AW.ret
  exact ⟨[_], ⟨rfl, trivial⟩, by simp [tupOf, h1, h2], by simp [tupOf, V.pure, V.has]⟩
 skip
 apply AW.sr
 refine AL.z ?_
 apply AL.nil
 try simp only [thenS, S.put, enum, List.nil_append, List.cons_append, List.append_nil, Nat.zero_add, Nat.reduceAdd]
 apply AW.sr
 iterate 3 refine AL.z ?_
 refine AL.no rfl rfl rfl rfl ?_
 refine AL.no rfl rfl rfl rfl ?_
 iterate 2 refine AL.z ?_
 apply AL.nil
 try simp only [nd]
 apply AW.ret
 exact ⟨[_], ⟨rfl, trivial⟩, by simp [tupOf, h1], by simp [tupOf, V.pure, V.has]⟩
theorem am_arc (y : Ar) (n : Int) : Fn Tryd.prog 42 [.agg ((arD y).map V.d), .i n] (fun v => v = .b (arOk n y)) := by
 refine Fn.intro (n := 32) ⟨Tryd.func42, rfl, rfl, rfl, rfl⟩ zT8 zT14 fun w0 out => ?_
 by_cases hok : (0 ≤ y.i ∧ y.i ≤ 1000) ∧ (0 ≤ y.o ∧ y.o ≤ 1000) ∧ (0 ≤ y.w ∧ y.w ≤ 1000000000) ∧ 0 ≤ y.t ∧ y.t < n
 ·rw [arOk_yes hok]
  obtain ⟨h1, h2, h3, h4, h5⟩ := hok
  apply AW.sr
  refine AL.sm rfl (sm_box 2 rfl rfl rfl rfl rfl) ?_
  refine AL.z ?_
  apply AL.nil
  try simp only [nd, setL, V.cs, nz, Nat.reduceAdd, nm, ns, enum]
  apply AW.sr
  refine AL.z ?_
  apply AL.nil
  try simp only [nd]
  apply AW.sr
  iterate 3 refine AL.z ?_
  refine AL.call (post := ?pc0) rfl (sm_callv (args := [_]) ?hc0 ⟨Tryd.func62, rfl, rfl, rfl, rfl⟩ rfl rfl rfl rfl) ?_
  case hc0 => (refine Fn.decT (am_label _) ?_; omega)
  rintro _ rfl -
  try dsimp only
  refine AL.z ?_
  iterate 3 refine AL.zy ?_
  (refine AL.cally (post := ?pc1) rfl rfl (sm_callv (args := [_]) ?hc1 ⟨Tryd.func62, rfl, rfl, rfl, rfl⟩ rfl rfl rfl rfl) ?_; (case hc1 => ((refine Fn.decT (am_label _) ?_; omega))); rintro _ rfl -; try dsimp only)
  iterate 2 refine AL.z ?_
  iterate 2 refine AL.zy ?_
  (refine AL.cally (post := ?pc2) rfl rfl (sm_call (args := [_]) ?hc2 ⟨Tryd.func39, rfl, rfl, rfl, rfl⟩ rfl rfl rfl rfl) ?_; (case hc2 => (refine Fn.decT (am_weight _) ?_; omega)); rintro _ rfl -; try dsimp only)
  iterate 2 refine AL.z ?_
  iterate 3 refine AL.zy ?_
  iterate 2 refine AL.z ?_
  iterate 4 refine AL.zy ?_
  iterate 2 refine AL.z ?_
  apply AL.nil
  try simp only [nd, setL, V.cs, nz, Nat.reduceAdd, nm, ns]
  apply AW.ret
  exact ⟨[_], ⟨rfl, trivial⟩, rfl, by simp [tupOf, V.pure, V.has]⟩
 rw [arOk_no hok]
 by_cases h1 : 0 ≤ y.i ∧ y.i ≤ 1000
 ·by_cases h2 : 0 ≤ y.o ∧ y.o ≤ 1000
  ·by_cases h3 : 0 ≤ y.w ∧ y.w ≤ 1000000000
   ·by_cases h4 : 0 ≤ y.t
    ·have h5 : ¬ y.t < n := fun h5 => hok ⟨h1, h2, h3, h4, h5⟩
     clear hok
     apply AW.sr
     refine AL.sm rfl (sm_box 2 rfl rfl rfl rfl rfl) ?_
     refine AL.z ?_
     apply AL.nil
     try simp only [nd, setL, V.cs, nz, Nat.reduceAdd, nm, ns, enum]
     apply AW.sr
     refine AL.z ?_
     apply AL.nil
     try simp only [nd]
     apply AW.sr
     iterate 3 refine AL.z ?_
     refine AL.call (post := ?pc3) rfl (sm_callv (args := [_]) ?hc3 ⟨Tryd.func62, rfl, rfl, rfl, rfl⟩ rfl rfl rfl rfl) ?_
     case hc3 => (refine Fn.decT (am_label _) ?_; omega)
     rintro _ rfl -
     try dsimp only
     refine AL.z ?_
     iterate 3 refine AL.zy ?_
     (refine AL.cally (post := ?pc4) rfl rfl (sm_callv (args := [_]) ?hc4 ⟨Tryd.func62, rfl, rfl, rfl, rfl⟩ rfl rfl rfl rfl) ?_; (case hc4 => ((refine Fn.decT (am_label _) ?_; omega))); rintro _ rfl -; try dsimp only)
     iterate 2 refine AL.z ?_
     iterate 2 refine AL.zy ?_
     (refine AL.cally (post := ?pc5) rfl rfl (sm_call (args := [_]) ?hc5 ⟨Tryd.func39, rfl, rfl, rfl, rfl⟩ rfl rfl rfl rfl) ?_; (case hc5 => (refine Fn.decT (am_weight _) ?_; omega)); rintro _ rfl -; try dsimp only)
     iterate 2 refine AL.z ?_
     iterate 3 refine AL.zy ?_
     iterate 2 refine AL.z ?_
     iterate 4 refine AL.zy ?_
     iterate 2 refine AL.z ?_
     apply AL.nil
     try simp only [nd, setL, V.cs, nz, Nat.reduceAdd, nm, ns]
     apply AW.ret
     exact ⟨[_], ⟨rfl, trivial⟩, rfl, by simp [tupOf, V.pure, V.has]⟩
    clear hok
    apply AW.sr
    refine AL.sm rfl (sm_box 2 rfl rfl rfl rfl rfl) ?_
    refine AL.z ?_
    apply AL.nil
    try simp only [nd, setL, V.cs, nz, Nat.reduceAdd, nm, ns, enum]
    apply AW.sr
    refine AL.z ?_
    apply AL.nil
    try simp only [nd]
    apply AW.sr
    iterate 3 refine AL.z ?_
    refine AL.call (post := ?pc6) rfl (sm_callv (args := [_]) ?hc6 ⟨Tryd.func62, rfl, rfl, rfl, rfl⟩ rfl rfl rfl rfl) ?_
    case hc6 => (refine Fn.decT (am_label _) ?_; omega)
    rintro _ rfl -
    try dsimp only
    refine AL.z ?_
    iterate 3 refine AL.zy ?_
    (refine AL.cally (post := ?pc7) rfl rfl (sm_callv (args := [_]) ?hc7 ⟨Tryd.func62, rfl, rfl, rfl, rfl⟩ rfl rfl rfl rfl) ?_; (case hc7 => ((refine Fn.decT (am_label _) ?_; omega))); rintro _ rfl -; try dsimp only)
    iterate 2 refine AL.z ?_
    iterate 2 refine AL.zy ?_
    (refine AL.cally (post := ?pc8) rfl rfl (sm_call (args := [_]) ?hc8 ⟨Tryd.func39, rfl, rfl, rfl, rfl⟩ rfl rfl rfl rfl) ?_; (case hc8 => (refine Fn.decT (am_weight _) ?_; omega)); rintro _ rfl -; try dsimp only)
    iterate 2 refine AL.z ?_
    iterate 3 refine AL.zy ?_
    iterate 2 refine AL.z ?_
    refine AL.no rfl rfl rfl rfl ?_
    refine AL.no rfl rfl rfl rfl ?_
    refine AL.no rfl rfl rfl rfl ?_
    refine AL.no rfl rfl rfl rfl ?_
    iterate 2 refine AL.z ?_
    apply AL.nil
    try simp only [nd, setL, V.cs, nz, Nat.reduceAdd, nm, ns]
    apply AW.ret
    exact ⟨[_], ⟨rfl, trivial⟩, rfl, by simp [tupOf, V.pure, V.has]⟩
   clear hok
   apply AW.sr
   refine AL.sm rfl (sm_box 2 rfl rfl rfl rfl rfl) ?_
   refine AL.z ?_
   apply AL.nil
   try simp only [nd, setL, V.cs, nz, Nat.reduceAdd, nm, ns, enum]
   apply AW.sr
   refine AL.z ?_
   apply AL.nil
   try simp only [nd]
   apply AW.sr
   iterate 3 refine AL.z ?_
   refine AL.call (post := ?pc9) rfl (sm_callv (args := [_]) ?hc9 ⟨Tryd.func62, rfl, rfl, rfl, rfl⟩ rfl rfl rfl rfl) ?_
   case hc9 => (refine Fn.decT (am_label _) ?_; omega)
   rintro _ rfl -
   try dsimp only
   refine AL.z ?_
   iterate 3 refine AL.zy ?_
   (refine AL.cally (post := ?pc10) rfl rfl (sm_callv (args := [_]) ?hc10 ⟨Tryd.func62, rfl, rfl, rfl, rfl⟩ rfl rfl rfl rfl) ?_; (case hc10 => ((refine Fn.decT (am_label _) ?_; omega))); rintro _ rfl -; try dsimp only)
   iterate 2 refine AL.z ?_
   iterate 2 refine AL.zy ?_
   (refine AL.cally (post := ?pc11) rfl rfl (sm_call (args := [_]) ?hc11 ⟨Tryd.func39, rfl, rfl, rfl, rfl⟩ rfl rfl rfl rfl) ?_; (case hc11 => (refine Fn.decF (am_weight _) ?_; omega)); rintro _ rfl -; try dsimp only)
   iterate 2 refine AL.z ?_
   refine AL.no rfl rfl rfl rfl ?_
   refine AL.no rfl rfl rfl rfl ?_
   refine AL.no rfl rfl rfl rfl ?_
   iterate 2 refine AL.z ?_
   refine AL.no rfl rfl rfl rfl ?_
   refine AL.no rfl rfl rfl rfl ?_
   refine AL.no rfl rfl rfl rfl ?_
   refine AL.no rfl rfl rfl rfl ?_
   iterate 2 refine AL.z ?_
   apply AL.nil
   try simp only [nd, setL, V.cs, nz, Nat.reduceAdd, nm, ns]
   apply AW.ret
   exact ⟨[_], ⟨rfl, trivial⟩, rfl, by simp [tupOf, V.pure, V.has]⟩
  clear hok
  apply AW.sr
  refine AL.sm rfl (sm_box 2 rfl rfl rfl rfl rfl) ?_
  refine AL.z ?_
  apply AL.nil
  try simp only [nd, setL, V.cs, nz, Nat.reduceAdd, nm, ns, enum]
  apply AW.sr
  refine AL.z ?_
  apply AL.nil
  try simp only [nd]
  apply AW.sr
  iterate 3 refine AL.z ?_
  refine AL.call (post := ?pc12) rfl (sm_callv (args := [_]) ?hc12 ⟨Tryd.func62, rfl, rfl, rfl, rfl⟩ rfl rfl rfl rfl) ?_
  case hc12 => (refine Fn.decT (am_label _) ?_; omega)
  rintro _ rfl -
  try dsimp only
  refine AL.z ?_
  iterate 3 refine AL.zy ?_
  (refine AL.cally (post := ?pc13) rfl rfl (sm_callv (args := [_]) ?hc13 ⟨Tryd.func62, rfl, rfl, rfl, rfl⟩ rfl rfl rfl rfl) ?_; (case hc13 => ((refine Fn.decF (am_label _) ?_; omega))); rintro _ rfl -; try dsimp only)
  iterate 2 refine AL.z ?_
  refine AL.no rfl rfl rfl rfl ?_
  refine AL.no rfl rfl rfl rfl ?_
  refine AL.no rfl rfl rfl rfl ?_
  iterate 2 refine AL.z ?_
  refine AL.no rfl rfl rfl rfl ?_
  refine AL.no rfl rfl rfl rfl ?_
  refine AL.no rfl rfl rfl rfl ?_
  iterate 2 refine AL.z ?_
  refine AL.no rfl rfl rfl rfl ?_
  refine AL.no rfl rfl rfl rfl ?_
  refine AL.no rfl rfl rfl rfl ?_
  refine AL.no rfl rfl rfl rfl ?_
  iterate 2 refine AL.z ?_
  apply AL.nil
  try simp only [nd, setL, V.cs, nz, Nat.reduceAdd, nm, ns]
  apply AW.ret
  exact ⟨[_], ⟨rfl, trivial⟩, rfl, by simp [tupOf, V.pure, V.has]⟩
 clear hok
 apply AW.sr
 refine AL.sm rfl (sm_box 2 rfl rfl rfl rfl rfl) ?_
 refine AL.z ?_
 apply AL.nil
 try simp only [nd, setL, V.cs, nz, Nat.reduceAdd, nm, ns, enum]
 apply AW.sr
 refine AL.z ?_
 apply AL.nil
 try simp only [nd]
 apply AW.sr
 iterate 3 refine AL.z ?_
 refine AL.call (post := ?pc15) rfl (sm_callv (args := [_]) ?hc15 ⟨Tryd.func62, rfl, rfl, rfl, rfl⟩ rfl rfl rfl rfl) ?_
 case hc15 => (refine Fn.decF (am_label _) ?_; omega)
 rintro _ rfl -
 try dsimp only
 refine AL.z ?_
 refine AL.no rfl rfl rfl rfl ?_
 refine AL.no rfl rfl rfl rfl ?_
 refine AL.no rfl rfl rfl rfl ?_
 refine AL.no rfl rfl rfl rfl ?_
 iterate 2 refine AL.z ?_
 refine AL.no rfl rfl rfl rfl ?_
 refine AL.no rfl rfl rfl rfl ?_
 refine AL.no rfl rfl rfl rfl ?_
 iterate 2 refine AL.z ?_
 refine AL.no rfl rfl rfl rfl ?_
 refine AL.no rfl rfl rfl rfl ?_
 refine AL.no rfl rfl rfl rfl ?_
 iterate 2 refine AL.z ?_
 refine AL.no rfl rfl rfl rfl ?_
 refine AL.no rfl rfl rfl rfl ?_
 refine AL.no rfl rfl rfl rfl ?_
 refine AL.no rfl rfl rfl rfl ?_
 iterate 2 refine AL.z ?_
 apply AL.nil
 try simp only [nd, setL, V.cs, nz, Nat.reduceAdd, nm, ns]
 apply AW.ret
 exact ⟨[_], ⟨rfl, trivial⟩, rfl, by simp [tupOf, V.pure, V.has]⟩
theorem am_Check1 (y : Ar) (n : Int) : Fn Tryd.prog 41 [.agg ((arD y).map V.d), .ad [.p (.int .i64 n)]] (fun v => v = .b (!arOk n y)) := by
 refine Fn.intro (n := 8) ⟨Tryd.func41, rfl, rfl, rfl, rfl⟩ zT8 zT14 fun w0 out => ?_
 apply AW.sr
 refine AL.sm rfl (sm_box 2 rfl rfl rfl rfl rfl) ?_
 refine AL.z ?_
 apply AL.nil
 try simp only [nd, setL, V.cs, nz, Nat.reduceAdd, nm, ns, enum]
 apply AW.sr
 iterate 2 refine AL.z ?_
 refine AL.call (post := ?pc18) rfl (sm_call (args := [_, _]) ?hc18 ⟨Tryd.func42, rfl, rfl, rfl, rfl⟩ rfl rfl rfl rfl) ?_
 case hc18 => exact am_arc _ _
 rintro _ rfl -
 try dsimp only
 iterate 2 refine AL.z ?_
 apply AL.nil
 try simp only [nd, setL, V.cs, nz, Nat.reduceAdd, nm, ns]
 apply AW.ret
 exact ⟨[_], ⟨rfl, trivial⟩, rfl, by simp [tupOf, V.pure, V.has]⟩
theorem am_IndexFunc (l : List Ar) (n : Int) : Fn Tryd.prog 61 [.d (arsD l), .fn 41 [.ad [.p (.int .i64 n)]]] (fun v => ∃ i : Int, v = .i i ∧ (decide (0 ≤ i) = !l.all (arOk n))) := by
 refine Fn.sl 0 rfl fun hb => ?_
 obtain ⟨len, hn⟩ : ∃ n, l.length = n := ⟨_, rfl⟩
 rw [List.length_map, hn] at hb
 refine Fn.intro (n := 19) ⟨Tryd.func61, rfl, rfl, rfl, rfl⟩ zT8 zT14 fun w0 out => ?_
 apply AW.sr
 refine AL.z ?_
 apply AL.nil
 try simp only [thenS, S.put, enum, List.nil_append, List.cons_append, List.append_nil, Nat.zero_add, Nat.reduceAdd]
 apply AW.seq
 apply AW.sr
 iterate 3 refine AL.z ?_
 apply AL.nil
 try simp only [nd]
 apply AW.block
 refine AW.loop (fun s' => ∃ k : Nat, k ≤ len ∧ (l.take k).all (arOk n) = true ∧ s' = ⟨19, [(0, .d (arsD l)), (1, .fn 41 [.ad [.p (.int .i64 n)]]), (7, .i len), (8, .i k)], [], []⟩) (fun s' => len - s'.nat 8) ⟨_, ?_, 0, by omega, by simp, rfl⟩ ?_
 ·exact Less.a0
 rintro s' ⟨k, hk, hall, rfl⟩
 by_cases hlt : k < len
 ·obtain ⟨x, hx⟩ := get_lt hn hlt
  by_cases hok : arOk n x = true
  ·skip
   apply AW.sr
   refine AL.z ?_
   apply AL.nil
   try simp only [nd]
   apply AW.seq
   refine AW.condT rfl ?_
   apply AW.skip
   try simp only [thenS]
   apply AW.seq
   apply AW.block
   apply AW.sr
   iterate 2 refine AL.z ?_
   apply AL.nil
   try simp only [nd]
   apply AW.sr
   iterate 5 refine AL.z ?_
   refine AL.call (post := ?pc19) rfl (sm_callv (args := [_]) ?hc19 ⟨Tryd.func41, rfl, rfl, rfl, rfl⟩ rfl rfl rfl rfl) ?_
   case hc19 => exact (am_Check1 _ _)
   rintro _ rfl -
   try dsimp only
   apply AL.nil
   try simp only [nd, setL, V.cs, nz, Nat.reduceAdd, nm, ns]
   simp only [hok, Bool.not_true]
   refine AW.condF rfl ?_
   apply AW.skip
   try simp only [thenS]
   apply AW.region
   iterate 2 refine AL.z ?_
   apply AL.nil
   try simp only [nd]
   refine ⟨_, ?_, ⟨k + 1, by omega, all_snoc' hx hall hok, rfl⟩, ?_⟩
   ·exact Less.a0
   simp [S.nat, fnd]; omega
  have hok' : arOk n x = false := by simpa using hok
  have hal : l.all (arOk n) = false := all_not hx hok'
  apply AW.sr
  refine AL.z ?_
  apply AL.nil
  try simp only [nd]
  apply AW.seq
  refine AW.condT rfl ?_
  apply AW.skip
  try simp only [thenS]
  apply AW.seq
  apply AW.block
  apply AW.sr
  iterate 2 refine AL.z ?_
  apply AL.nil
  try simp only [nd]
  apply AW.sr
  iterate 5 refine AL.z ?_
  refine AL.call (post := ?pc20) rfl (sm_callv (args := [_]) ?hc20 ⟨Tryd.func41, rfl, rfl, rfl, rfl⟩ rfl rfl rfl rfl) ?_
  case hc20 => exact (am_Check1 _ _)
  rintro _ rfl -
  try dsimp only
  apply AL.nil
  try simp only [nd, setL, V.cs, nz, Nat.reduceAdd, nm, ns]
  simp only [hok', Bool.not_false]
  refine AW.condT rfl ?_
  apply AW.sr
  iterate 2 refine AL.z ?_
  apply AL.nil
  try simp only [nd]
  apply AW.ret
  exact ⟨[_], ⟨rfl, trivial⟩, ⟨k, rfl, by simp [hal]⟩, by simp [tupOf, V.pure, V.has]⟩
 have hA : l.all (arOk n) = true := by rwa [List.take_of_length_le zT13] at hall
 apply AW.sr
 refine AL.z ?_
 apply AL.nil
 try simp only [nd]
 apply AW.seq
 refine AW.condF rfl ?_
 refine AW.exit ?_
 try simp only [thenS, inBlockS, ↓reduceIte, Nat.reduceEqDiff]
 apply AW.sr
 refine AL.z ?_
 apply AL.nil
 try simp only [nd]
 apply AW.ret
 exact ⟨[_], ⟨rfl, trivial⟩, ⟨-1, rfl, by simp [hA]⟩, by simp [tupOf, V.pure, V.has]⟩
theorem am_ContainsFunc (l : List Ar) (n : Int) : Fn Tryd.prog 40 [.d (arsD l), .fn 41 [.ad [.p (.int .i64 n)]]] (fun v => v = .b (!l.all (arOk n))) := by
 refine Fn.intro (n := 9) ⟨Tryd.func40, rfl, rfl, rfl, rfl⟩ zT8 zT14 fun w0 out => ?_
 apply AW.sr
 refine AL.z ?_
 apply AL.nil
 try simp only [thenS, S.put, enum, List.nil_append, List.cons_append, List.append_nil, Nat.zero_add, Nat.reduceAdd]
 apply AW.sr
 iterate 2 refine AL.z ?_
 refine AL.call (post := ?pc21) rfl (sm_call (args := [_, _]) ?hc21 ⟨Tryd.func61, rfl, rfl, rfl, rfl⟩ rfl rfl rfl rfl) ?_
 case hc21 => exact am_IndexFunc _ _
 rintro _ ⟨i, rfl, hi⟩ -
 try dsimp only
 refine AL.rp rfl rfl (rp_geq rfl rfl rfl) ?_
 refine AL.z ?_
 apply AL.nil
 try simp only [nd, setL, V.cs, nz, Nat.reduceAdd, nm, ns]
 apply AW.ret
 exact ⟨[_], ⟨rfl, trivial⟩, by rw [← hi]; rfl, by simp [tupOf, V.pure, V.has]⟩
theorem am_Check (m : Mach) : Fn Tryd.prog 23 [mV m] (fun v => v = .i (machE m)) := by
 refine Fn.mach m 0 rfl fun hsl hal => ?_
 obtain ⟨st, sts⟩ := m
 simp only at hsl hal ⊢
 obtain ⟨len, hl⟩ : ∃ n, sts.length = n := ⟨_, rfl⟩
 rw [hl] at hsl
 refine Fn.intro (n := 59) ⟨Tryd.func23, rfl, rfl, rfl, rfl⟩ zT8 zT14 fun w0 out => ?_
 by_cases h60 : 60 < len
 ·skip
  apply AW.sr
  refine AL.sm rfl (sm_box 1 rfl rfl rfl rfl rfl) ?_
  refine AL.z ?_
  apply AL.nil
  try simp only [nd, setL, V.cs, nz, Nat.reduceAdd, nm, ns, enum]
  apply AW.sr
  iterate 3 refine AL.z ?_
  refine AL.sm rfl (sm_alloc (l := [.d (.p (.int .i64 0))]) 3 inf3 rfl rfl rfl rfl) ?_
  (refine AL.st rfl (st_store inf3 rfl rfl rfl rfl rfl rfl rfl zT7 rfl) ?_)
  refine AL.z ?_
  apply AL.nil
  try simp only [nd, setL, V.cs, nz, Nat.reduceAdd, nm, ns]
  apply AW.seq
  apply AW.sr
  iterate 2 refine AL.z ?_
  apply AL.nil
  try simp only [nd]
  refine AW.condT rfl ?_
  apply AW.sr
  refine AL.z ?_
  apply AL.nil
  try simp only [nd]
  apply AW.ret
  exact ⟨[_], ⟨rfl, trivial⟩, by rw [machE_size (.inl (by rw [hl]; exact h60))]; rfl, by simp [tupOf, V.pure, V.has]⟩
 skip
 apply AW.sr
 refine AL.sm rfl (sm_box 1 rfl rfl rfl rfl rfl) ?_
 refine AL.z ?_
 apply AL.nil
 try simp only [nd, setL, V.cs, nz, Nat.reduceAdd, nm, ns, enum]
 apply AW.sr
 iterate 3 refine AL.z ?_
 refine AL.sm rfl (sm_alloc (l := [.d (.p (.int .i64 0))]) 3 inf3 rfl rfl rfl rfl) ?_
 (refine AL.st rfl (st_store inf3 rfl rfl rfl rfl rfl rfl rfl zT7 rfl) ?_)
 refine AL.z ?_
 apply AL.nil
 try simp only [nd, setL, V.cs, nz, Nat.reduceAdd, nm, ns]
 apply AW.seq
 apply AW.sr
 iterate 2 refine AL.z ?_
 apply AL.nil
 try simp only [nd]
 refine AW.condF rfl ?_
 apply AW.skip
 try simp only [thenS]
 apply AW.seq
 apply AW.sr
 iterate 4 refine AL.z ?_
 apply AL.nil
 try simp only [nd]
 apply AW.block
 refine AW.loop (fun s' => ∃ k : Nat, k ≤ len ∧ arcN (sts.take k) ≤ k * 4398046511104 ∧ s' = ⟨59, [(1, .ref 1 0), (3, .ref 3 0), (4, .i (arcN (sts.take k))), (15, .d (stsD sts)), (16, .i len), (17, .i k)], [(1, ⟨24, [.i st, .d (stsD sts)], false, 0⟩), (3, ⟨3, [.i len], false, 0⟩)], []⟩) (fun s' => len - s'.nat 17) ⟨_, ?_, 0, by omega, by simp [arcN], rfl⟩ ?_
 ·exact Less.a0
 rintro s' ⟨k, hk, hs, rfl⟩
 by_cases hlt : k < len
 ·obtain ⟨x, hx⟩ := get_lt hl hlt
  obtain ⟨la, hla⟩ : ∃ n, x.arcs.length = n := ⟨_, rfl⟩
  have hla' := hal x (List.mem_of_getElem? hx)
  have hsn : arcN (sts.take (k + 1)) = arcN (sts.take k) + la := by rw [take_snoc hx, arcN_snoc, hla]
  apply AW.sr
  refine AL.z ?_
  apply AL.nil
  try simp only [nd]
  apply AW.seq
  refine AW.condT rfl ?_
  apply AW.skip
  try simp only [thenS]
  apply AW.seq
  apply AW.block
  apply AW.sr
  iterate 2 refine AL.z ?_
  refine AL.sm rfl (sm_alloc (l := [.d (.p (.int .i64 0)), .d (.p (.slice none 0 0))]) 6 inf33 rfl rfl rfl rfl) ?_
  refine AL.y ?_
  apply AL.nil
  try simp only [nd, setL, V.cs, nz, Nat.reduceAdd, nm, ns]
  apply AW.region
  iterate 6 refine AL.z ?_
  apply AL.nil
  try simp only [nd]
  apply AW.region
  iterate 2 refine AL.z ?_
  apply AL.nil
  try simp only [nd]
  refine ⟨_, ?_, ⟨k + 1, by omega, by omega, rfl⟩, ?_⟩
  ·rw [hsn]; exact Less.a0
  simp [S.nat, fnd]; omega
 rw [arcN_full hl hlt]
 by_cases h400 : 400 < arcN sts
 ·skip
  apply AW.sr
  refine AL.z ?_
  apply AL.nil
  try simp only [nd]
  apply AW.seq
  refine AW.condF rfl ?_
  refine AW.exit ?_
  try simp only [thenS, inBlockS, ↓reduceIte, Nat.reduceEqDiff]
  apply AW.seq
  apply AW.sr
  iterate 2 refine AL.z ?_
  apply AL.nil
  try simp only [nd]
  refine AW.condT rfl ?_
  apply AW.sr
  refine AL.z ?_
  apply AL.nil
  try simp only [nd]
  apply AW.ret
  exact ⟨[_], ⟨rfl, trivial⟩, by rw [machE_size (.inr h400)]; rfl, by simp [tupOf, V.pure, V.has]⟩
 by_cases hst : -1 ≤ st
 ·by_cases hst2 : st < (len : Int)
  ·skip
   apply AW.sr
   refine AL.z ?_
   apply AL.nil
   try simp only [nd]
   apply AW.seq
   refine AW.condF rfl ?_
   refine AW.exit ?_
   try simp only [thenS, inBlockS, ↓reduceIte, Nat.reduceEqDiff]
   apply AW.seq
   apply AW.sr
   iterate 2 refine AL.z ?_
   apply AL.nil
   try simp only [nd]
   refine AW.condF rfl ?_
   apply AW.skip
   try simp only [thenS]
   apply AW.seq
   apply AW.sr
   iterate 4 refine AL.z ?_
   iterate 4 refine AL.zy ?_
   refine AL.z ?_
   apply AL.nil
   try simp only [nd]
   refine AW.condF rfl ?_
   apply AW.skip
   try simp only [thenS]
   apply AW.seq
   apply AW.sr
   iterate 4 refine AL.z ?_
   apply AL.nil
   try simp only [nd]
   apply AW.block
   refine AW.loop (fun s' => ∃ k : Nat, k ≤ len ∧ (sts.take k).all (stOk len) = true ∧ s' = ⟨59, [(1, .ref 1 0), (3, .ref 3 0), (39, .d (stsD sts)), (40, .i len), (41, .i k)], [(1, ⟨24, [.i st, .d (stsD sts)], false, 0⟩), (3, ⟨3, [.i len], false, 0⟩)], []⟩) (fun s' => len - s'.nat 41) ⟨_, ?_, 0, by omega, by simp, rfl⟩ ?_
   ·exact Less.a0
   clear hlt hk hs k
   rintro s' ⟨k, hk, hall, rfl⟩
   by_cases hlt : k < len
   ·obtain ⟨x, hx⟩ := get_lt hl hlt
    by_cases hf : 0 ≤ x.fin ∧ x.fin ≤ 1000000001
    ·have hf1 : finOk x.fin = true := by simp [finOk]; omega
     by_cases hA : x.arcs.all (arOk len) = true
     ·by_cases hf2 : 0 ≤ x.fin ∧ x.fin ≤ 1000000000
      ·skip
       apply AW.sr
       refine AL.z ?_
       apply AL.nil
       try simp only [nd]
       apply AW.seq
       refine AW.condT rfl ?_
       apply AW.skip
       try simp only [thenS]
       apply AW.seq
       apply AW.block
       apply AW.sr
       iterate 2 refine AL.z ?_
       refine AL.sm rfl (sm_alloc (l := [.d (.p (.int .i64 0)), .d (.p (.slice none 0 0))]) 8 inf33 rfl rfl rfl rfl) ?_
       refine AL.y ?_
       apply AL.nil
       try simp only [nd, setL, V.cs, nz, Nat.reduceAdd, nm, ns]
       apply AW.seq
       apply AW.sr
       iterate 2 refine AL.z ?_
       refine AL.call (post := ?pc22) rfl (sm_call (args := [_]) ?hc22 ⟨Tryd.func39, rfl, rfl, rfl, rfl⟩ rfl rfl rfl rfl) ?_
       case hc22 => first | (refine Fn.decT (am_weight _) ?_; omega) | (refine Fn.decF (am_weight _) ?_; omega) | exact am_weight _
       rintro _ rfl -
       try dsimp only
       iterate 2 refine AL.z ?_
       refine AL.no rfl rfl rfl rfl ?_
       refine AL.no rfl rfl rfl rfl ?_
       refine AL.no rfl rfl rfl rfl ?_
       refine AL.z ?_
       apply AL.nil
       try simp only [nd, setL, V.cs, nz, Nat.reduceAdd, nm, ns]
       refine AW.condF rfl ?_
       apply AW.skip
       try simp only [thenS]
       apply AW.sr
       iterate 2 refine AL.z ?_
       refine AL.rp rfl rfl (rp_func (vs := [_]) rfl rfl) ?_
       refine AL.call (post := ?pc23) rfl (sm_callr (args := ?ac23) (us := [_, _]) ?hc23 ?qc23 ⟨Tryd.func40, rfl, rfl, rfl, rfl⟩ rfl rfl rfl ?rc23 rfl) ?_
       case hc23 => exact am_ContainsFunc x.arcs len
       case qc23 => (intro v hv; first | (subst hv; first | trivial | (simp [V.plain]; done)) | (obtain ⟨_, rfl, _⟩ := hv; first | trivial | (simp [V.plain]; done)))
       case rc23 => exact .cons (.refl _ (by simp [V.pure, V.has])) (.cons (Ro.fns (.cons (.ref 3 0 _ [.p (.int .i64 len)] rfl rfl rfl) .nil)) .nil)
       rintro _ rfl -
       try dsimp only
       apply AL.nil
       try simp only [nd, setL, V.cs, nz, Nat.reduceAdd, nm, ns]
       simp only [hA, Bool.not_true]
       refine AW.condF rfl ?_
       apply AW.skip
       try simp only [thenS]
       apply AW.region
       iterate 2 refine AL.z ?_
       apply AL.nil
       try simp only [nd]
       refine ⟨_, ?_, ⟨k + 1, by omega, all_snoc' hx hall (stOk_yes hf1 hA), rfl⟩, ?_⟩
       ·exact Less.a0
       simp [S.nat, fnd]; omega
      skip
      apply AW.sr
      refine AL.z ?_
      apply AL.nil
      try simp only [nd]
      apply AW.seq
      refine AW.condT rfl ?_
      apply AW.skip
      try simp only [thenS]
      apply AW.seq
      apply AW.block
      apply AW.sr
      iterate 2 refine AL.z ?_
      refine AL.sm rfl (sm_alloc (l := [.d (.p (.int .i64 0)), .d (.p (.slice none 0 0))]) 8 inf33 rfl rfl rfl rfl) ?_
      refine AL.y ?_
      apply AL.nil
      try simp only [nd, setL, V.cs, nz, Nat.reduceAdd, nm, ns]
      apply AW.seq
      apply AW.sr
      iterate 2 refine AL.z ?_
      refine AL.call (post := ?pc24) rfl (sm_call (args := [_]) ?hc24 ⟨Tryd.func39, rfl, rfl, rfl, rfl⟩ rfl rfl rfl rfl) ?_
      case hc24 => first | (refine Fn.decT (am_weight _) ?_; omega) | (refine Fn.decF (am_weight _) ?_; omega) | exact am_weight _
      rintro _ rfl -
      try dsimp only
      iterate 2 refine AL.z ?_
      iterate 3 refine AL.zy ?_
      refine AL.z ?_
      apply AL.nil
      try simp only [nd, setL, V.cs, nz, Nat.reduceAdd, nm, ns]
      refine AW.condF rfl ?_
      apply AW.skip
      try simp only [thenS]
      apply AW.sr
      iterate 2 refine AL.z ?_
      refine AL.rp rfl rfl (rp_func (vs := [_]) rfl rfl) ?_
      refine AL.call (post := ?pc25) rfl (sm_callr (args := ?ac25) (us := [_, _]) ?hc25 ?qc25 ⟨Tryd.func40, rfl, rfl, rfl, rfl⟩ rfl rfl rfl ?rc25 rfl) ?_
      case hc25 => exact am_ContainsFunc x.arcs len
      case qc25 => (intro v hv; first | (subst hv; first | trivial | (simp [V.plain]; done)) | (obtain ⟨_, rfl, _⟩ := hv; first | trivial | (simp [V.plain]; done)))
      case rc25 => exact .cons (.refl _ (by simp [V.pure, V.has])) (.cons (Ro.fns (.cons (.ref 3 0 _ [.p (.int .i64 len)] rfl rfl rfl) .nil)) .nil)
      rintro _ rfl -
      try dsimp only
      apply AL.nil
      try simp only [nd, setL, V.cs, nz, Nat.reduceAdd, nm, ns]
      simp only [hA, Bool.not_true]
      refine AW.condF rfl ?_
      apply AW.skip
      try simp only [thenS]
      apply AW.region
      iterate 2 refine AL.z ?_
      apply AL.nil
      try simp only [nd]
      refine ⟨_, ?_, ⟨k + 1, by omega, all_snoc' hx hall (stOk_yes hf1 hA), rfl⟩, ?_⟩
      ·exact Less.a0
      simp [S.nat, fnd]; omega
     have hA' : x.arcs.all (arOk len) = false := by simpa using hA
     by_cases hf2 : 0 ≤ x.fin ∧ x.fin ≤ 1000000000
     ·have hE : machE ⟨st, sts⟩ = 2 := machE_state hl h60 h400 hx (stOk_arcs hA')
      rw [hE]
      apply AW.sr
      refine AL.z ?_
      apply AL.nil
      try simp only [nd]
      apply AW.seq
      refine AW.condT rfl ?_
      apply AW.skip
      try simp only [thenS]
      apply AW.seq
      apply AW.block
      apply AW.sr
      iterate 2 refine AL.z ?_
      refine AL.sm rfl (sm_alloc (l := [.d (.p (.int .i64 0)), .d (.p (.slice none 0 0))]) 8 inf33 rfl rfl rfl rfl) ?_
      refine AL.y ?_
      apply AL.nil
      try simp only [nd, setL, V.cs, nz, Nat.reduceAdd, nm, ns]
      apply AW.seq
      apply AW.sr
      iterate 2 refine AL.z ?_
      refine AL.call (post := ?pc26) rfl (sm_call (args := [_]) ?hc26 ⟨Tryd.func39, rfl, rfl, rfl, rfl⟩ rfl rfl rfl rfl) ?_
      case hc26 => first | (refine Fn.decT (am_weight _) ?_; omega) | (refine Fn.decF (am_weight _) ?_; omega) | exact am_weight _
      rintro _ rfl -
      try dsimp only
      iterate 2 refine AL.z ?_
      refine AL.no rfl rfl rfl rfl ?_
      refine AL.no rfl rfl rfl rfl ?_
      refine AL.no rfl rfl rfl rfl ?_
      refine AL.z ?_
      apply AL.nil
      try simp only [nd, setL, V.cs, nz, Nat.reduceAdd, nm, ns]
      refine AW.condF rfl ?_
      apply AW.skip
      try simp only [thenS]
      apply AW.sr
      iterate 2 refine AL.z ?_
      refine AL.rp rfl rfl (rp_func (vs := [_]) rfl rfl) ?_
      refine AL.call (post := ?pc27) rfl (sm_callr (args := ?ac27) (us := [_, _]) ?hc27 ?qc27 ⟨Tryd.func40, rfl, rfl, rfl, rfl⟩ rfl rfl rfl ?rc27 rfl) ?_
      case hc27 => exact am_ContainsFunc x.arcs len
      case qc27 => (intro v hv; first | (subst hv; first | trivial | (simp [V.plain]; done)) | (obtain ⟨_, rfl, _⟩ := hv; first | trivial | (simp [V.plain]; done)))
      case rc27 => exact .cons (.refl _ (by simp [V.pure, V.has])) (.cons (Ro.fns (.cons (.ref 3 0 _ [.p (.int .i64 len)] rfl rfl rfl) .nil)) .nil)
      rintro _ rfl -
      try dsimp only
      apply AL.nil
      try simp only [nd, setL, V.cs, nz, Nat.reduceAdd, nm, ns]
      simp only [hA', Bool.not_false]
      refine AW.condT rfl ?_
      apply AW.sr
      refine AL.z ?_
      apply AL.nil
      try simp only [nd]
      apply AW.ret
      exact ⟨[_], ⟨rfl, trivial⟩, rfl, by simp [tupOf, V.pure, V.has]⟩
     have hE : machE ⟨st, sts⟩ = 2 := machE_state hl h60 h400 hx (stOk_arcs hA')
     rw [hE]
     apply AW.sr
     refine AL.z ?_
     apply AL.nil
     try simp only [nd]
     apply AW.seq
     refine AW.condT rfl ?_
     apply AW.skip
     try simp only [thenS]
     apply AW.seq
     apply AW.block
     apply AW.sr
     iterate 2 refine AL.z ?_
     refine AL.sm rfl (sm_alloc (l := [.d (.p (.int .i64 0)), .d (.p (.slice none 0 0))]) 8 inf33 rfl rfl rfl rfl) ?_
     refine AL.y ?_
     apply AL.nil
     try simp only [nd, setL, V.cs, nz, Nat.reduceAdd, nm, ns]
     apply AW.seq
     apply AW.sr
     iterate 2 refine AL.z ?_
     refine AL.call (post := ?pc28) rfl (sm_call (args := [_]) ?hc28 ⟨Tryd.func39, rfl, rfl, rfl, rfl⟩ rfl rfl rfl rfl) ?_
     case hc28 => first | (refine Fn.decT (am_weight _) ?_; omega) | (refine Fn.decF (am_weight _) ?_; omega) | exact am_weight _
     rintro _ rfl -
     try dsimp only
     iterate 2 refine AL.z ?_
     iterate 3 refine AL.zy ?_
     refine AL.z ?_
     apply AL.nil
     try simp only [nd, setL, V.cs, nz, Nat.reduceAdd, nm, ns]
     refine AW.condF rfl ?_
     apply AW.skip
     try simp only [thenS]
     apply AW.sr
     iterate 2 refine AL.z ?_
     refine AL.rp rfl rfl (rp_func (vs := [_]) rfl rfl) ?_
     refine AL.call (post := ?pc29) rfl (sm_callr (args := ?ac29) (us := [_, _]) ?hc29 ?qc29 ⟨Tryd.func40, rfl, rfl, rfl, rfl⟩ rfl rfl rfl ?rc29 rfl) ?_
     case hc29 => exact am_ContainsFunc x.arcs len
     case qc29 => (intro v hv; first | (subst hv; first | trivial | (simp [V.plain]; done)) | (obtain ⟨_, rfl, _⟩ := hv; first | trivial | (simp [V.plain]; done)))
     case rc29 => exact .cons (.refl _ (by simp [V.pure, V.has])) (.cons (Ro.fns (.cons (.ref 3 0 _ [.p (.int .i64 len)] rfl rfl rfl) .nil)) .nil)
     rintro _ rfl -
     try dsimp only
     apply AL.nil
     try simp only [nd, setL, V.cs, nz, Nat.reduceAdd, nm, ns]
     simp only [hA', Bool.not_false]
     refine AW.condT rfl ?_
     apply AW.sr
     refine AL.z ?_
     apply AL.nil
     try simp only [nd]
     apply AW.ret
     exact ⟨[_], ⟨rfl, trivial⟩, rfl, by simp [tupOf, V.pure, V.has]⟩
    have hE : machE ⟨st, sts⟩ = 2 := machE_state hl h60 h400 hx (stOk_fin (by simp [finOk]; omega))
    rw [hE]
    apply AW.sr
    refine AL.z ?_
    apply AL.nil
    try simp only [nd]
    apply AW.seq
    refine AW.condT rfl ?_
    apply AW.skip
    try simp only [thenS]
    apply AW.seq
    apply AW.block
    apply AW.sr
    iterate 2 refine AL.z ?_
    refine AL.sm rfl (sm_alloc (l := [.d (.p (.int .i64 0)), .d (.p (.slice none 0 0))]) 8 inf33 rfl rfl rfl rfl) ?_
    refine AL.y ?_
    apply AL.nil
    try simp only [nd, setL, V.cs, nz, Nat.reduceAdd, nm, ns]
    apply AW.seq
    apply AW.sr
    iterate 2 refine AL.z ?_
    refine AL.call (post := ?pc30) rfl (sm_call (args := [_]) ?hc30 ⟨Tryd.func39, rfl, rfl, rfl, rfl⟩ rfl rfl rfl rfl) ?_
    case hc30 => first | (refine Fn.decT (am_weight _) ?_; omega) | (refine Fn.decF (am_weight _) ?_; omega) | exact am_weight _
    rintro _ rfl -
    try dsimp only
    iterate 2 refine AL.z ?_
    iterate 3 refine AL.zy ?_
    refine AL.z ?_
    apply AL.nil
    try simp only [nd, setL, V.cs, nz, Nat.reduceAdd, nm, ns]
    refine AW.condT rfl ?_
    apply AW.sr
    refine AL.z ?_
    apply AL.nil
    try simp only [nd]
    apply AW.ret
    exact ⟨[_], ⟨rfl, trivial⟩, rfl, by simp [tupOf, V.pure, V.has]⟩
   skip
   apply AW.sr
   refine AL.z ?_
   apply AL.nil
   try simp only [nd]
   apply AW.seq
   refine AW.condF rfl ?_
   refine AW.exit ?_
   try simp only [thenS, inBlockS, ↓reduceIte, Nat.reduceEqDiff]
   apply AW.sr
   refine AL.z ?_
   apply AL.nil
   try simp only [nd]
   apply AW.ret
   exact ⟨[_], ⟨rfl, trivial⟩, by rw [machE_good hl h60 h400 zT13 hlt hall]; rfl, by simp [tupOf, V.pure, V.has]⟩
  skip
  apply AW.sr
  refine AL.z ?_
  apply AL.nil
  try simp only [nd]
  apply AW.seq
  refine AW.condF rfl ?_
  refine AW.exit ?_
  try simp only [thenS, inBlockS, ↓reduceIte, Nat.reduceEqDiff]
  apply AW.seq
  apply AW.sr
  iterate 2 refine AL.z ?_
  apply AL.nil
  try simp only [nd]
  refine AW.condF rfl ?_
  apply AW.skip
  try simp only [thenS]
  apply AW.seq
  apply AW.sr
  iterate 4 refine AL.z ?_
  iterate 4 refine AL.zy ?_
  refine AL.z ?_
  apply AL.nil
  try simp only [nd]
  refine AW.condT rfl ?_
  apply AW.sr
  refine AL.z ?_
  apply AL.nil
  try simp only [nd]
  apply AW.ret
  exact ⟨[_], ⟨rfl, trivial⟩, by rw [machE_start hl h60 h400 zT13]; rfl, by simp [tupOf, V.pure, V.has]⟩
 skip
 apply AW.sr
 refine AL.z ?_
 apply AL.nil
 try simp only [nd]
 apply AW.seq
 refine AW.condF rfl ?_
 refine AW.exit ?_
 try simp only [thenS, inBlockS, ↓reduceIte, Nat.reduceEqDiff]
 apply AW.seq
 apply AW.sr
 iterate 2 refine AL.z ?_
 apply AL.nil
 try simp only [nd]
 refine AW.condF rfl ?_
 apply AW.skip
 try simp only [thenS]
 apply AW.seq
 apply AW.sr
 iterate 4 refine AL.z ?_
 refine AL.no rfl rfl rfl rfl ?_
 refine AL.no rfl rfl rfl rfl ?_
 refine AL.no rfl rfl rfl rfl ?_
 refine AL.no rfl rfl rfl rfl ?_
 refine AL.z ?_
 apply AL.nil
 try simp only [nd]
 refine AW.condT rfl ?_
 apply AW.sr
 refine AL.z ?_
 apply AL.nil
 try simp only [nd]
 apply AW.ret
 exact ⟨[_], ⟨rfl, trivial⟩, by rw [machE_start hl h60 h400 zT13]; rfl, by simp [tupOf, V.pure, V.has]⟩
instance : Inhabited Ar := ⟨⟨0, 0, 0, 0⟩⟩
def encAr (a : Ar) : List Value := [.int .i64 a.i, .int .i64 a.o, .int .i64 a.w, .int .i64 a.t]
theorem enc1 (x : Ar) : ∀ v ∈ encAr x, v.oneCell' = true := by
  intro v hv
  simp only [encAr, List.mem_cons, List.not_mem_nil, or_false] at hv
  rcases hv with rfl | rfl | rfl | rfl <;> rfl
abbrev arV4 (a : Ar) : List V := (arD a).map V.d
/-- What is known of a sort: it leaves the elements in the order that res tells. -/
structure SrtC (P : Program) (f : FuncId) (cf : Ar → Ar → Int) (res : List Ar → List Ar) : Prop where
  run : ∀ (g : FuncId) (cb : Array Value) (blk cap : Nat) (d : Array Ar) (w : World), (∀ args w, (callFunc g args).run P w = .ok (.enter g args) w) → CmpLays P g cb encAr 4 cf blk 0 d.size w → HoldsK encAr 4 w blk 0 d → blk < w.heap.size → d.size < 4611686018427387904 →
    Calls P f #[.slice (some ⟨blk, 0, none⟩) d.size cap, .func (.func g) #[] cb] w fun e w' => e = .returned (.tuple #[]) ∧ ∃ n os, w' = sortWorldK encAr 4 w blk 0 n (res d.toList).toArray os
  none : ∀ (p : Option Addr) (cap : Nat) (fv : Value) (w : World), Calls P f #[.slice p 0 cap, fv] w fun e w' => e = .returned (.tuple #[]) ∧ w' = w
  len : ∀ l, (res l).length = l.length
theorem enc_get (l : List Ar) (j : Nat) (h : j < l.length * 4) : (l.flatMap arV4)[j]? = some (V.d (.p ((encAr l.toArray[j / 4]!)[j % 4]!))) := by
  induction l generalizing j with
  | nil => simp at h
  | cons a l ih =>
    rw [List.flatMap_cons]
    match j, h with
    | 0, _ => rfl
    | 1, _ => rfl
    | 2, _ => rfl
    | 3, _ => rfl
    | j + 4, h =>
      simp only [List.length_cons] at h
      have h2 := ih j zT13
      rw [show (arV4 a ++ l.flatMap arV4)[j + 4]? = (l.flatMap arV4)[j]? from rfl, h2]
      have e1 : (j + 4) / 4 = j / 4 + 1 := by omega
      have e2 : (j + 4) % 4 = j % 4 := by omega
      rw [e1, e2]
      have h3 : j / 4 < l.length := by omega
      simp [h3]
theorem enc_len (l : List Ar) : (l.flatMap arV4).length = l.length * 4 := by
  induction l with
  | nil => rfl
  | cons a l ih => rw [List.flatMap_cons, List.length_append, ih]; simp; omega
section
variable {c : Cx} {s : S} {o : Oper}
end
/-- Two calls one behind the other: the second works on what the first has made. -/
def Fn2 (P : Program) (f1 f2 : FuncId) (args : List V) (post : V → Prop) : Prop := ∀ (w : World) (out : Nat → Prop) (g : Nat → Nat × Nat) (xs : List Value), (∀ b, out b → b < w.heap.size) → VReps w (fun b => ¬ out b) g args xs →
  Calls P f1 xs.toArray w fun e w1 => ∃ x1, e = .returned x1 ∧ Below w.heap.size w w1 ∧ Calls P f2 #[x1] w1 fun e w2 => ∃ v x, e = .returned x ∧ post v ∧ v.pure ∧ VRep w2 (fun b => ¬ out b) g v x ∧ Below w.heap.size w w2
theorem Fn2.intro {P : Program} {f1 f2 : FuncId} {fn : Func} {code : Code} {n : Nat} {rs : List ResultVar} {args : List V} {post1 : V → List (Nat × Row) → Prop} {post : V → Prop} (h1 : FnO P f1 args post1) (hf : Is P f2 fn code n rs) (hn0 : 1 ≤ n)
    (h : ∀ v H, post1 v H → ∀ w0 out, AW ⟨P, w0, out, [], []⟩ code (QF P rs post) ⟨n, [(0, v)], H, []⟩) : Fn2 P f1 f2 args post := by
  intro w out g xs hout hx
  refine (h1 w out g xs hout hx).mono ?_
  rintro e w1 ⟨v, x1, g', H, rfl, hp, hcl, hO, hv, hb⟩
  refine ⟨x1, rfl, hb, ?_⟩
  refine calls_of_wp hf.func hf.body ?_
  have hs : Sim ⟨P, w, out, [], []⟩ g' ⟨n, [(0, v)], H, []⟩ { tmps := #[x1] ++ Array.replicate (fn.ntmps - 1) undef, defers := [] } w1 := by
    refine ⟨?_, rfl, ?_, hO.nul, hO.obj, by simp, hO.inj, hO.new, hout, hb⟩
    · simp [hf.ntmps]; omega
    intro i u hu
    simp only [fnd] at hu
    split at hu
    · rename_i e
      simp only [beq_iff_eq] at e
      subst e
      simp only [Option.some.injEq] at hu
      subst hu
      exact ⟨x1, by rw [Array.getElem?_append_left zT14]; rfl, hv⟩
    cases hu
  refine wp_mono (h v H hp w out g' _ w1 hs) fun e a' w' hq => ?_
  obtain ⟨g2, s', h2, h3⟩ := hq
  have fin : (∃ vs, resL P s' rs vs ∧ post (tupOf vs) ∧ (tupOf vs).pure) → a'.defers = [] ∧ ∃ v, (results fn a'.tmps).run P w' = .ok v w' ∧ ∃ v_1 x, Ending.returned v = .returned x ∧ post v_1 ∧ v_1.pure ∧ VRep w' (fun b => ¬ out b) g v_1 x ∧ Below w.heap.size w w' := by
    rintro ⟨vs, k1, k2, k3⟩
    obtain ⟨x, k4, k5⟩ := run_results (c := ⟨P, w, out, [], []⟩) hf.results h3 k1
    exact ⟨h3.defers, x, k5, _, x, rfl, k2, k3, (k4.repure k3).mono Cells.rfl (fun b hb _ => hb.1) (fun r _ => rfl), h3.below⟩
  cases e with
  | normal => exact fin h2
  | ret => exact fin h2
  | _ => exact h2.elim
theorem Fn2.mono {P : Program} {f1 f2 : FuncId} {args : List V} {post post' : V → Prop} (h : Fn2 P f1 f2 args post) (hp : ∀ v, post v → post' v) : Fn2 P f1 f2 args post' := fun w out g xs h1 h2 =>
  (h w out g xs h1 h2).mono fun e w1 ⟨x1, e1, b1, k⟩ => ⟨x1, e1, b1, k.mono fun e w2 ⟨v, x, a1, a2, a3⟩ => ⟨v, x, a1, hp v a2, a3⟩⟩
section
variable {c : Cx} {s : S} {Q : Exit → S → Prop} {L : List Oper} {need : Nat → Bool} {l : List (Nat × Bool)} {i j : Nat} {o1 o2 : Oper}
end
theorem encv_get (l : List Ar) (j : Nat) (h : j < l.length * 4) : (l.flatMap encAr)[j]? = some ((encAr l.toArray[j / 4]!)[j % 4]!) := by
 induction l generalizing j with
 | nil => simp at h
 | cons a l ih =>
  rw [List.flatMap_cons]
  match j, h with
  | 0, _ => rfl
  | 1, _ => rfl
  | 2, _ => rfl
  | 3, _ => rfl
  | j + 4, h =>
   simp only [List.length_cons] at h
   have h2 := ih j zT13
   rw [show (encAr a ++ l.flatMap encAr)[j + 4]? = (l.flatMap encAr)[j]? from rfl, h2]
   have e1 : (j + 4) / 4 = j / 4 + 1 := by omega
   have e2 : (j + 4) % 4 = j % 4 := by omega
   rw [e1, e2]
   have h3 : j / 4 < l.length := by omega
   simp [h3]
theorem encv_len (l : List Ar) : (l.flatMap encAr).length = l.length * 4 := by
 induction l with
 | nil => rfl
 | cons a l ih => rw [List.flatMap_cons, List.length_append, ih]; simp [encAr]; omega
theorem arD_get (a : Ar) (j : Nat) (h : j < 4) : (arD a)[j]? = some (.p ((encAr a)[j]!)) := by
 match j, h with
 | 0, _ => rfl
 | 1, _ => rfl
 | 2, _ => rfl
 | 3, _ => rfl
theorem hasL_ar (r : Nat) (l : List Ar) : V.hasL r (l.flatMap arV4) = false := hasL_flat r l arD
section
variable {c : Cx} {s : S} {o : Oper}
/-- append of arcs that are plain data onto a slice of the call's own. -/
theorem st_appendA {l : List Ar} {t e : TypeId} {x y : Operand} {r bt bt' n : Nat} {z : Value} {f : Bool} {row : Row} {l1 : List V} (hu : c.P.underlying t = some (.slice e)) (hi : Inf c.P e 4 bt z) (hzs : z.cells.size = 4)
  (ho : o.op = .call { callee := .builtin .append, args := #[x, y], argTypes := #[t, t] }) (hx : s.ev x = some (.own r 4 n f)) (hr : fnd s.H r = some row) (hf : row.nil = f) (hrz : row.sz = 4) (hty : row.ty = e)
  (hl : row.cells.take (n * 4) = l1) (hl1 : l1.length = n * 4) (hc1 : V.hasL r l1 = false) (hy : s.ev y = some (.d (.sl 4 bt' (l.map arD)))) (hm : 0 < l.length) (h63 : n + l.length ≤ 140737488355328) (hbt : (n + l.length) * bt ≤ 140737488355328) (hd : dok s o = true) :
  Step c o s (fun s' => s' = S.put ⟨s.n, (s.forget r).T, (r, ⟨e, l1 ++ l.flatMap arV4, false, 4⟩) :: (s.forget r).H, (s.forget r).K⟩ o.dst (.own r 4 (n + l.length) false)) :=
 st_append_any (news := l.flatMap arV4) hu hi hzs zT13 ho hx hr hf hrz hty hl hl1 hc1 (enc_len l) (hasL_ar r l) hm h63 hbt hd (fun g a w hs => by
  have h := hs.ev hy
  generalize a.eval y = u at h
  cases h with
  | d _ _ h =>
   cases h with
   | sl _ _ _ ad cap b o' F _ ha hl hc hr =>
    obtain ⟨rfl, hq, hb⟩ := ha (by intro e; simp at e; subst e; simp at hm)
    have key : ∀ j, j < l.length * 4 → F (j / 4) (j % 4) = (encAr l.toArray[j / 4]!)[j % 4]! ∧ w.cell? ⟨b, o' + j / 4 * 4 + j % 4, none⟩ = some (F (j / 4) (j % 4)) := by
     intro j hj
     have h4 : j / 4 < l.length := by omega
     have e1 : (l.map arD)[j / 4]? = some (arD l[j / 4]) := by simp [h4]
     have e2 := arD_get l[j / 4] (j % 4) zT13
     have h1 := hr _ _ _ _ e1 e2
     have h2 := hc _ _ _ _ e1 e2
     refine ⟨?_, h2⟩
     generalize F (j / 4) (j % 4) = y at h1
     cases h1
     simp [h4]
    refine ⟨⟨b, o', none⟩, cap, l.flatMap encAr, by simp, encv_len l, fun j u hu => ?_, fun u hu => ?_, fun j u x hu hx => ?_⟩
    ·have hj : j < l.length * 4 := by rw [← encv_len]; exact (List.getElem?_eq_some_iff.1 hu).1
     rw [encv_get _ _ hj, ← (key j hj).1] at hu
     rw [addr_add, ← hu, ← (key j hj).2]
     congr 2
     omega
    ·obtain ⟨a, _, ha⟩ := List.mem_flatMap.1 hu
     exact enc1 a u ha
    have hj : j < l.length * 4 := by rw [← encv_len]; exact (List.getElem?_eq_some_iff.1 hx).1
    rw [encv_get _ _ hj] at hx
    rw [enc_get _ _ hj] at hu
    simp only [Option.some.injEq] at hu hx
    subst hu hx
    exact .d _ _ (.p _))
end
theorem FnO.sl {P : Program} {f : FuncId} {args : List V} {post : V → List (Nat × Row) → Prop} (j : Nat) {sz bt : Nat} {rows : List (List D)} (hj : args[j]? = some (.d (.sl sz bt rows))) (h : rows.length * bt ≤ 140737488355328 → FnO P f args post) : FnO P f args post := by
 intro w out g xs ho hx
 have hlt : j < xs.length := by rw [← hx.1]; exact (List.getElem?_eq_some_iff.1 hj).1
 have hv := hx.2 j _ _ hj (List.getElem?_eq_getElem hlt)
 generalize xs[j] = y at hv
 cases hv with
 | d _ _ h2 => exact h h2.bound w out g xs ho hx
theorem arc_le {l : List St} {x : St} (h : x ∈ l) : x.arcs.length ≤ arcN l := by
 induction l with
 | nil => cases h
 | cons y l ih =>
  unfold arcN at ih ⊢
  rw [List.map_cons, List.sum_cons]
  rcases List.mem_cons.1 h with rfl | h
  ·omega
  have := ih h; omega
section
variable {c : Cx} {s : S} {o : Oper}
theorem rp_notT {t : TypeId} {x : Operand} (ho : o.op = .unOp .not t x) (hx : s.ev x = some (.b true)) : RP c o s (.b false) := rp_not ho hx
theorem rp_notF {t : TypeId} {x : Operand} (ho : o.op = .unOp .not t x) (hx : s.ev x = some (.b false)) : RP c o s (.b true) := rp_not ho hx
end
theorem am_AheadR (a b : Ar) (x : Bool) (hx : ahd a b = x) : Fn Tryd.prog 36 [.agg ((arD a).map V.d), .agg ((arD b).map V.d)] (fun v => v = .b x) := by
 subst hx
 obtain ⟨ai, ao, aw, at'⟩ := a
 obtain ⟨bi, bo, bw, bt⟩ := b
 refine Fn.intro (n := 40) ⟨Tryd.func36, rfl, rfl, rfl, rfl⟩ zT8 zT14 fun w0 out => ?_
 by_cases h1 : ai = bi
 ·by_cases h2 : ao = bo
  ·by_cases h3 : at' = bt
   ·by_cases h4 : aw < bw
    ·skip
     apply AW.sr
     refine AL.sm rfl (sm_box 2 rfl rfl rfl rfl rfl) ?_
     refine AL.sm rfl (sm_box 3 rfl rfl rfl rfl rfl) ?_
     refine AL.z ?_
     apply AL.nil
     try simp only [nd, setL, V.cs, nz, Nat.reduceAdd, nm, ns, enum]
     apply AW.seq
     apply AW.sr
     iterate 5 refine AL.z ?_
     apply AL.nil
     try simp only [nd]
     refine AW.condF rfl ?_
     apply AW.skip
     try simp only [thenS]
     apply AW.seq
     apply AW.sr
     iterate 5 refine AL.z ?_
     apply AL.nil
     try simp only [nd]
     refine AW.condF rfl ?_
     apply AW.skip
     try simp only [thenS]
     apply AW.seq
     apply AW.sr
     iterate 5 refine AL.z ?_
     apply AL.nil
     try simp only [nd]
     refine AW.condF rfl ?_
     apply AW.skip
     try simp only [thenS]
     apply AW.sr
     iterate 6 refine AL.z ?_
     apply AL.nil
     try simp only [nd]
     apply AW.ret
     exact ⟨[_], ⟨rfl, trivial⟩, by simp [tupOf, ahd, h1, h2, h3, h4], by simp [tupOf, V.pure, V.has]⟩
    skip
    apply AW.sr
    refine AL.sm rfl (sm_box 2 rfl rfl rfl rfl rfl) ?_
    refine AL.sm rfl (sm_box 3 rfl rfl rfl rfl rfl) ?_
    refine AL.z ?_
    apply AL.nil
    try simp only [nd, setL, V.cs, nz, Nat.reduceAdd, nm, ns, enum]
    apply AW.seq
    apply AW.sr
    iterate 5 refine AL.z ?_
    apply AL.nil
    try simp only [nd]
    refine AW.condF rfl ?_
    apply AW.skip
    try simp only [thenS]
    apply AW.seq
    apply AW.sr
    iterate 5 refine AL.z ?_
    apply AL.nil
    try simp only [nd]
    refine AW.condF rfl ?_
    apply AW.skip
    try simp only [thenS]
    apply AW.seq
    apply AW.sr
    iterate 5 refine AL.z ?_
    apply AL.nil
    try simp only [nd]
    refine AW.condF rfl ?_
    apply AW.skip
    try simp only [thenS]
    apply AW.sr
    iterate 6 refine AL.z ?_
    apply AL.nil
    try simp only [nd]
    apply AW.ret
    exact ⟨[_], ⟨rfl, trivial⟩, by simp [tupOf, ahd, h1, h2, h3, h4], by simp [tupOf, V.pure, V.has]⟩
   by_cases h4 : at' < bt
   ·skip
    apply AW.sr
    refine AL.sm rfl (sm_box 2 rfl rfl rfl rfl rfl) ?_
    refine AL.sm rfl (sm_box 3 rfl rfl rfl rfl rfl) ?_
    refine AL.z ?_
    apply AL.nil
    try simp only [nd, setL, V.cs, nz, Nat.reduceAdd, nm, ns, enum]
    apply AW.seq
    apply AW.sr
    iterate 5 refine AL.z ?_
    apply AL.nil
    try simp only [nd]
    refine AW.condF rfl ?_
    apply AW.skip
    try simp only [thenS]
    apply AW.seq
    apply AW.sr
    iterate 5 refine AL.z ?_
    apply AL.nil
    try simp only [nd]
    refine AW.condF rfl ?_
    apply AW.skip
    try simp only [thenS]
    apply AW.seq
    apply AW.sr
    iterate 5 refine AL.z ?_
    apply AL.nil
    try simp only [nd]
    refine AW.condT rfl ?_
    apply AW.sr
    iterate 6 refine AL.z ?_
    apply AL.nil
    try simp only [nd]
    apply AW.ret
    exact ⟨[_], ⟨rfl, trivial⟩, by simp [tupOf, ahd, h1, h2, h3, h4], by simp [tupOf, V.pure, V.has]⟩
   skip
   apply AW.sr
   refine AL.sm rfl (sm_box 2 rfl rfl rfl rfl rfl) ?_
   refine AL.sm rfl (sm_box 3 rfl rfl rfl rfl rfl) ?_
   refine AL.z ?_
   apply AL.nil
   try simp only [nd, setL, V.cs, nz, Nat.reduceAdd, nm, ns, enum]
   apply AW.seq
   apply AW.sr
   iterate 5 refine AL.z ?_
   apply AL.nil
   try simp only [nd]
   refine AW.condF rfl ?_
   apply AW.skip
   try simp only [thenS]
   apply AW.seq
   apply AW.sr
   iterate 5 refine AL.z ?_
   apply AL.nil
   try simp only [nd]
   refine AW.condF rfl ?_
   apply AW.skip
   try simp only [thenS]
   apply AW.seq
   apply AW.sr
   iterate 5 refine AL.z ?_
   apply AL.nil
   try simp only [nd]
   refine AW.condT rfl ?_
   apply AW.sr
   iterate 6 refine AL.z ?_
   apply AL.nil
   try simp only [nd]
   apply AW.ret
   exact ⟨[_], ⟨rfl, trivial⟩, by simp [tupOf, ahd, h1, h2, h3, h4], by simp [tupOf, V.pure, V.has]⟩
  by_cases h4 : ao < bo
  ·skip
   apply AW.sr
   refine AL.sm rfl (sm_box 2 rfl rfl rfl rfl rfl) ?_
   refine AL.sm rfl (sm_box 3 rfl rfl rfl rfl rfl) ?_
   refine AL.z ?_
   apply AL.nil
   try simp only [nd, setL, V.cs, nz, Nat.reduceAdd, nm, ns, enum]
   apply AW.seq
   apply AW.sr
   iterate 5 refine AL.z ?_
   apply AL.nil
   try simp only [nd]
   refine AW.condF rfl ?_
   apply AW.skip
   try simp only [thenS]
   apply AW.seq
   apply AW.sr
   iterate 5 refine AL.z ?_
   apply AL.nil
   try simp only [nd]
   refine AW.condT rfl ?_
   apply AW.sr
   iterate 6 refine AL.z ?_
   apply AL.nil
   try simp only [nd]
   apply AW.ret
   exact ⟨[_], ⟨rfl, trivial⟩, by simp [tupOf, ahd, h1, h2, h4], by simp [tupOf, V.pure, V.has]⟩
  skip
  apply AW.sr
  refine AL.sm rfl (sm_box 2 rfl rfl rfl rfl rfl) ?_
  refine AL.sm rfl (sm_box 3 rfl rfl rfl rfl rfl) ?_
  refine AL.z ?_
  apply AL.nil
  try simp only [nd, setL, V.cs, nz, Nat.reduceAdd, nm, ns, enum]
  apply AW.seq
  apply AW.sr
  iterate 5 refine AL.z ?_
  apply AL.nil
  try simp only [nd]
  refine AW.condF rfl ?_
  apply AW.skip
  try simp only [thenS]
  apply AW.seq
  apply AW.sr
  iterate 5 refine AL.z ?_
  apply AL.nil
  try simp only [nd]
  refine AW.condT rfl ?_
  apply AW.sr
  iterate 6 refine AL.z ?_
  apply AL.nil
  try simp only [nd]
  apply AW.ret
  exact ⟨[_], ⟨rfl, trivial⟩, by simp [tupOf, ahd, h1, h2, h4], by simp [tupOf, V.pure, V.has]⟩
 by_cases h4 : ai < bi
 ·skip
  apply AW.sr
  refine AL.sm rfl (sm_box 2 rfl rfl rfl rfl rfl) ?_
  refine AL.sm rfl (sm_box 3 rfl rfl rfl rfl rfl) ?_
  refine AL.z ?_
  apply AL.nil
  try simp only [nd, setL, V.cs, nz, Nat.reduceAdd, nm, ns, enum]
  apply AW.seq
  apply AW.sr
  iterate 5 refine AL.z ?_
  apply AL.nil
  try simp only [nd]
  refine AW.condT rfl ?_
  apply AW.sr
  iterate 6 refine AL.z ?_
  apply AL.nil
  try simp only [nd]
  apply AW.ret
  exact ⟨[_], ⟨rfl, trivial⟩, by simp [tupOf, ahd, h1, h4], by simp [tupOf, V.pure, V.has]⟩
 skip
 apply AW.sr
 refine AL.sm rfl (sm_box 2 rfl rfl rfl rfl rfl) ?_
 refine AL.sm rfl (sm_box 3 rfl rfl rfl rfl rfl) ?_
 refine AL.z ?_
 apply AL.nil
 try simp only [nd, setL, V.cs, nz, Nat.reduceAdd, nm, ns, enum]
 apply AW.seq
 apply AW.sr
 iterate 5 refine AL.z ?_
 apply AL.nil
 try simp only [nd]
 refine AW.condT rfl ?_
 apply AW.sr
 iterate 6 refine AL.z ?_
 apply AL.nil
 try simp only [nd]
 apply AW.ret
 exact ⟨[_], ⟨rfl, trivial⟩, by simp [tupOf, ahd, h1, h4], by simp [tupOf, V.pure, V.has]⟩
theorem flA {l : List Ar} {n : Nat} (h : l.length = n) : (l.flatMap arV2).length = n * 4 := by rw [flat_len (sz := 4) (fun _ => rfl), h]
theorem am_placed (l : List Ar) (a : Ar) (hl : l.length ≤ 400) : Fn Tryd.prog 60 [.d (arsD l), .agg ((arD a).map V.d)] (fun v => v = .d (arsD (plc a l))) := by
 obtain ⟨n, hn⟩ : ∃ n, l.length = n := ⟨_, rfl⟩
 rw [hn] at hl
 obtain ⟨P, hP⟩ : ∃ P, plc a l = P := ⟨_, rfl⟩
 have hPl : P.length = n + 1 := by rw [← hP, plc_len, hn]
 rw [hP]
 refine Fn.intro (n := 42) ⟨Tryd.func60, rfl, rfl, rfl, rfl⟩ zT8 zT14 fun w0 out => ?_
 apply AW.sr
 refine AL.sm rfl (sm_box 3 rfl rfl rfl rfl rfl) ?_
 refine AL.z ?_
 apply AL.nil
 try simp only [nd, setL, V.cs, nz, Nat.reduceAdd, nm, ns, enum]
 apply AW.sr
 refine AL.z ?_
 apply AL.nil
 try simp only [nd]
 apply AW.sr
 refine AL.z ?_
 apply AL.nil
 try simp only [nd]
 refine AW.adopt 5 100 4 60 rfl (by simp [S.clean, V.has, V.hasL, V.cs, setL]) ?_
 refine AW.seqc (fun s' => ∃ (dn : Bool) (A : List Ar) (ak : Nat), A.length = ak ∧ (dn = false ∧ A = l ∧ P = l ++ [a] ∨ dn = true ∧ A = P) ∧ s' = ⟨42, [(0, .d (arsD l)), (3, .ref 3 0), (5, .own 100 4 ak (decide (ak = 0))), (6, .b dn)], [(3, ⟨60, (arD a).map V.d, false, 0⟩), (100, ⟨60, A.flatMap arV2, decide (ak = 0), 4⟩)], []⟩) ?_ ?_
 ·apply AW.seq
  apply AW.region
  refine AL.z ?_
  apply AL.nil
  try simp only [nd]
  apply AW.block
  refine AW.loop (fun s' => ∃ (i : Nat) (dn : Bool) (A : List Ar) (ak : Nat), i ≤ n ∧ A.length = ak ∧ (dn = false ∧ A = l.take i ∧ (∀ y ∈ l.take i, ¬ ahd a y = true) ∨ dn = true ∧ A = plc a (l.take i) ∧ ∃ y ∈ l.take i, ahd a y = true) ∧ s' = ⟨42, [(0, .d (arsD l)), (3, .ref 3 0), (5, .own 100 4 ak (decide (ak = 0))), (6, .b dn), (7, .i i)], [(3, ⟨60, (arD a).map V.d, false, 0⟩), (100, ⟨60, A.flatMap arV2, decide (ak = 0), 4⟩)], []⟩) (fun s' => n - s'.nat 7) ⟨_, ?_, 0, false, [], 0, by omega, rfl, .inl ⟨rfl, rfl, by simp⟩, rfl⟩ ?_
  ·exact Less.a0
  rintro s' ⟨i, dn, A, ak, hi, hak, hA, rfl⟩
  by_cases hlt : i < n
  ·obtain ⟨x, hx⟩ := get_lt hn hlt
   have hsn := take_snoc hx
   have hfl := flA hak
   have hAl : ak ≤ 401 := by
    rw [← hak]
    rcases hA with ⟨_, rfl, _⟩ | ⟨_, rfl, _⟩
    ·rw [List.length_take]; omega
    rw [plc_len, List.length_take]; omega
   rcases hA with ⟨rfl, hA, hno⟩ | ⟨rfl, hA, hy⟩
   ·by_cases hc : ahd a x = true
    ·have hfl2 : (A.flatMap arV2 ++ arV2 a).length = (ak + 1) * 4 := by simp [hfl]; omega
     have hnew : A ++ [a] ++ [x] = plc a (l.take (i + 1)) := by
      rw [hsn, plc_ge hno, hA]; simp [plc, hc]
     have hex : ∃ y ∈ l.take (i + 1), ahd a y = true := ⟨x, by rw [hsn]; simp, hc⟩
     apply AW.seq
     apply AW.sr
     iterate 4 refine AL.z ?_
     apply AL.nil
     try simp only [nd]
     refine AW.condT rfl ?_
     apply AW.skip
     try simp only [thenS]
     apply AW.seq
     apply AW.block
     apply AW.seq
     apply AW.seq
     refine AW.draw [(0, true), (1, true), (2, true), (3, true), (4, true), (5, true), (6, true), (7, true), (8, false), (9, false)] (fun i => !([] : List Nat).contains i) 10 zT10 zT10 rfl zT10 ?_
     refine AD1.z ?_
     refine AD1.rp rfl rfl rfl (fun _ _ h => h) (rp_notF rfl rfl) ?_
     refine AD1.z ?_
     iterate 5 refine AD1.zy ?_
     refine AD1.go ?_
     (refine AD2.cally (post := ?pc0) rfl rfl rfl (sm_call (args := [_, _]) ?hc0 ⟨Tryd.func36, rfl, rfl, rfl, rfl⟩ rfl rfl rfl rfl) ?_; (case hc0 => (exact am_AheadR a x _ hc)); rintro _ rfl -; try dsimp only)
     refine AD2.rp1 rfl rfl rfl (rp_pick rfl rfl rfl) ?_
     refine AD2.nil ?_
     try simp only [nd, setL, V.cs, nz, Nat.reduceAdd, nm, ns]
     refine AW.condT rfl ?_
     apply AW.sr
     iterate 2 refine AL.z ?_
     refine AL.sm rfl (sm_slice (vs := [(0, _)]) (zs := [.d (.p (.int .i64 0)), .d (.p (.int .i64 0)), .d (.p (.int .i64 0)), .d (.p (.int .i64 0))]) 26 Tryd.underlying31 inf60 rfl rfl zT12 zT12 zT12 rfl rfl rfl rfl zT1 rfl rfl) ?_
     refine AL.st rfl (st_appendF Tryd.underlying31 inf60 rfl zT12 rfl rfl rfl rfl rfl rfl zT5 zT1 rfl rfl rfl rfl rfl rfl rfl zT12 zT13 zT13 rfl) ?_
     simp only [S.forget, S.put, S.newObj, junkIf, V.has, V.hasL, nh, hasL_flat, hasL_append, List.map_cons, List.map_nil, List.filter_cons, List.filter_nil, Nat.reduceBNe, Nat.reduceBEq, eq_self, bne_self_eq_false,  Bool.not_true, Bool.not_false, Bool.or_false, Bool.or_true, Bool.false_or, Bool.true_or, if_true, if_false, Bool.false_eq_true, ite_true, ite_false, ↓reduceIte, beq_self_eq_true, Nat.reduceEqDiff]
     refine AL.z ?_
     apply AL.nil
     try simp only [nd, setL, V.cs, nz, Nat.reduceAdd, nm, ns]
     apply AW.region
     refine AL.z ?_
     apply AL.nil
     try simp only [nd]
     apply AW.region
     iterate 5 refine AL.z ?_
     refine AL.sm rfl (sm_slice (vs := [(0, _)]) (zs := [.d (.p (.int .i64 0)), .d (.p (.int .i64 0)), .d (.p (.int .i64 0)), .d (.p (.int .i64 0))]) 33 Tryd.underlying31 inf60 rfl rfl zT12 zT12 zT12 rfl rfl rfl rfl zT1 rfl rfl) ?_
     refine AL.st rfl (st_appendF Tryd.underlying31 inf60 rfl zT12 rfl rfl rfl rfl rfl rfl zT5 zT1 rfl rfl rfl rfl rfl rfl rfl zT12 zT13 zT13 rfl) ?_
     simp only [S.forget, S.put, S.newObj, junkIf, V.has, V.hasL, nh, hasL_flat, hasL_append, List.map_cons, List.map_nil, List.filter_cons, List.filter_nil, Nat.reduceBNe, Nat.reduceBEq, eq_self, bne_self_eq_false,  Bool.not_true, Bool.not_false, Bool.or_false, Bool.or_true, Bool.false_or, Bool.true_or, if_true, if_false, Bool.false_eq_true, ite_true, ite_false, ↓reduceIte, beq_self_eq_true, Nat.reduceEqDiff]
     refine AL.z ?_
     apply AL.nil
     try simp only [nd, setL, V.cs, nz, Nat.reduceAdd, nm, ns]
     apply AW.region
     iterate 3 refine AL.z ?_
     apply AL.nil
     try simp only [nd]
     refine ⟨_, ?_, ⟨i + 1, true, A ++ [a] ++ [x], ak + 1 + 1, by omega, by simp [hak], .inr ⟨rfl, hnew, hex⟩, rfl⟩, ?_⟩
     ·simp only [List.flatMap_append, List.flatMap_cons, List.flatMap_nil, List.append_nil]
      exact Less.a0
     simp [S.nat, fnd]; omega
    have hcf : ahd a x = false := by simpa using hc
    have hnew : A ++ [x] = l.take (i + 1) := by rw [hsn, hA]
    have hall : ∀ y ∈ l.take (i + 1), ¬ ahd a y = true := fun y hy => by
     rw [hsn] at hy
     rcases List.mem_append.1 hy with hy | hy
     ·exact hno y hy
     simp only [List.mem_singleton] at hy
     rw [hy]; exact hc
    apply AW.seq
    apply AW.sr
    iterate 4 refine AL.z ?_
    apply AL.nil
    try simp only [nd]
    refine AW.condT rfl ?_
    apply AW.skip
    try simp only [thenS]
    apply AW.seq
    apply AW.block
    apply AW.seq
    apply AW.seq
    refine AW.draw [(0, true), (1, true), (2, true), (3, true), (4, true), (5, true), (6, true), (7, true), (8, false), (9, false)] (fun i => !([] : List Nat).contains i) 10 zT10 zT10 rfl zT10 ?_
    refine AD1.z ?_
    refine AD1.rp rfl rfl rfl (fun _ _ h => h) (rp_notF rfl rfl) ?_
    refine AD1.z ?_
    iterate 5 refine AD1.zy ?_
    refine AD1.go ?_
    (refine AD2.cally (post := ?pc1) rfl rfl rfl (sm_call (args := [_, _]) ?hc1 ⟨Tryd.func36, rfl, rfl, rfl, rfl⟩ rfl rfl rfl rfl) ?_; (case hc1 => (exact am_AheadR a x _ hcf)); rintro _ rfl -; try dsimp only)
    refine AD2.rp1 rfl rfl rfl (rp_pick rfl rfl rfl) ?_
    refine AD2.nil ?_
    try simp only [nd, setL, V.cs, nz, Nat.reduceAdd, nm, ns]
    refine AW.condF rfl ?_
    apply AW.skip
    try simp only [thenS]
    apply AW.region
    iterate 5 refine AL.z ?_
    refine AL.sm rfl (sm_slice (vs := [(0, _)]) (zs := [.d (.p (.int .i64 0)), .d (.p (.int .i64 0)), .d (.p (.int .i64 0)), .d (.p (.int .i64 0))]) 33 Tryd.underlying31 inf60 rfl rfl zT12 zT12 zT12 rfl rfl rfl rfl zT1 rfl rfl) ?_
    refine AL.st rfl (st_appendF Tryd.underlying31 inf60 rfl zT12 rfl rfl rfl rfl rfl rfl zT5 zT1 rfl rfl rfl rfl rfl rfl rfl zT12 zT13 zT13 rfl) ?_
    simp only [S.forget, S.put, S.newObj, junkIf, V.has, V.hasL, nh, hasL_flat, hasL_append, List.map_cons, List.map_nil, List.filter_cons, List.filter_nil, Nat.reduceBNe, Nat.reduceBEq, eq_self, bne_self_eq_false,  Bool.not_true, Bool.not_false, Bool.or_false, Bool.or_true, Bool.false_or, Bool.true_or, if_true, if_false, Bool.false_eq_true, ite_true, ite_false, ↓reduceIte, beq_self_eq_true, Nat.reduceEqDiff]
    refine AL.z ?_
    apply AL.nil
    try simp only [nd, setL, V.cs, nz, Nat.reduceAdd, nm, ns]
    apply AW.region
    iterate 3 refine AL.z ?_
    apply AL.nil
    try simp only [nd]
    refine ⟨_, ?_, ⟨i + 1, false, A ++ [x], ak + 1, by omega, by simp [hak], .inl ⟨rfl, hnew, hall⟩, rfl⟩, ?_⟩
    ·simp only [List.flatMap_append, List.flatMap_cons, List.flatMap_nil, List.append_nil]
     exact Less.a0
    simp [S.nat, fnd]; omega
   have hnew : A ++ [x] = plc a (l.take (i + 1)) := by rw [hsn, plc_lt hy, hA]
   have hex : ∃ y ∈ l.take (i + 1), ahd a y = true := by
    obtain ⟨y, h1, h2⟩ := hy
    exact ⟨y, by rw [hsn]; simp [h1], h2⟩
   apply AW.seq
   apply AW.sr
   iterate 4 refine AL.z ?_
   apply AL.nil
   try simp only [nd]
   refine AW.condT rfl ?_
   apply AW.skip
   try simp only [thenS]
   apply AW.seq
   apply AW.block
   apply AW.seq
   apply AW.seq
   refine AW.draw [(0, true), (1, true), (2, true), (3, true), (4, true), (5, true), (6, true), (7, true), (8, false), (9, false)] (fun i => !([] : List Nat).contains i) 10 zT10 zT10 rfl zT10 ?_
   refine AD1.z ?_
   refine AD1.rp rfl rfl rfl (fun _ _ h => h) (rp_notT rfl rfl) ?_
   refine AD1.z ?_
   refine AD1.noV rfl rfl rfl rfl rfl (fun _ _ h => h) ?_
   refine AD1.noV rfl rfl rfl rfl rfl (fun _ _ h => h) ?_
   refine AD1.noV rfl rfl rfl rfl rfl (fun _ _ h => h) ?_
   refine AD1.noV rfl rfl rfl rfl rfl (fun _ _ h => h) ?_
   refine AD1.noV rfl rfl rfl rfl rfl (fun _ _ h => h) ?_
   refine AD1.go ?_
   refine AD2.noV1 rfl rfl rfl rfl rfl ?_
   refine AD2.rp1 rfl rfl rfl (rp_pick rfl rfl rfl) ?_
   refine AD2.nil ?_
   try simp only [nd]
   refine AW.condF rfl ?_
   apply AW.skip
   try simp only [thenS]
   apply AW.region
   iterate 5 refine AL.z ?_
   refine AL.sm rfl (sm_slice (vs := [(0, _)]) (zs := [.d (.p (.int .i64 0)), .d (.p (.int .i64 0)), .d (.p (.int .i64 0)), .d (.p (.int .i64 0))]) 33 Tryd.underlying31 inf60 rfl rfl zT12 zT12 zT12 rfl rfl rfl rfl zT1 rfl rfl) ?_
   refine AL.st rfl (st_appendF Tryd.underlying31 inf60 rfl zT12 rfl rfl rfl rfl rfl rfl zT5 zT1 rfl rfl rfl rfl rfl rfl rfl zT12 zT13 zT13 rfl) ?_
   simp only [S.forget, S.put, S.newObj, junkIf, V.has, V.hasL, nh, hasL_flat, hasL_append, List.map_cons, List.map_nil, List.filter_cons, List.filter_nil, Nat.reduceBNe, Nat.reduceBEq, eq_self, bne_self_eq_false,  Bool.not_true, Bool.not_false, Bool.or_false, Bool.or_true, Bool.false_or, Bool.true_or, if_true, if_false, Bool.false_eq_true, ite_true, ite_false, ↓reduceIte, beq_self_eq_true, Nat.reduceEqDiff]
   refine AL.z ?_
   apply AL.nil
   try simp only [nd, setL, V.cs, nz, Nat.reduceAdd, nm, ns]
   apply AW.region
   iterate 3 refine AL.z ?_
   apply AL.nil
   try simp only [nd]
   refine ⟨_, ?_, ⟨i + 1, true, A ++ [x], ak + 1, by omega, by simp [hak], .inr ⟨rfl, hnew, hex⟩, rfl⟩, ?_⟩
   ·simp only [List.flatMap_append, List.flatMap_cons, List.flatMap_nil, List.append_nil]
    exact Less.a0
   simp [S.nat, fnd]; omega
  rw [List.take_of_length_le zT13] at hA
  have hA2 : dn = false ∧ A = l ∧ P = l ++ [a] ∨ dn = true ∧ A = P := by
   rcases hA with ⟨h1, h2, h3⟩ | ⟨h1, h2, _⟩
   ·have := plc_ge (B := []) h3
    simp only [List.append_nil, plc] at this
    exact .inl ⟨h1, h2, by rw [← hP, this]⟩
   exact .inr ⟨h1, h2.trans hP⟩
  apply AW.seq
  apply AW.sr
  iterate 4 refine AL.z ?_
  apply AL.nil
  try simp only [nd]
  refine AW.condF rfl ?_
  refine AW.exit ?_
  try simp only [thenS, inBlockS, ↓reduceIte, Nat.reduceEqDiff]
  refine ⟨_, ?_, dn, A, ak, hak, hA2, rfl⟩
  exact Less.a0
 rintro s' ⟨dn, A, ak, hak, hA, rfl⟩
 have hfl := flA hak
 rcases hA with ⟨rfl, rfl, he⟩ | ⟨rfl, rfl⟩
 ·obtain rfl : n = ak := by omega
  have hfr : A.flatMap arV2 ++ arV2 a = P.flatMap arV2 := by rw [he]; simp
  apply AW.seq
  apply AW.sr
  refine AL.z ?_
  refine AL.rp rfl rfl (rp_notF rfl rfl) ?_
  apply AL.nil
  try simp only [nd]
  refine AW.condT rfl ?_
  apply AW.region
  iterate 2 refine AL.z ?_
  refine AL.sm rfl (sm_slice (vs := [(0, _)]) (zs := [.d (.p (.int .i64 0)), .d (.p (.int .i64 0)), .d (.p (.int .i64 0)), .d (.p (.int .i64 0))]) 39 Tryd.underlying31 inf60 rfl rfl zT12 zT12 zT12 rfl rfl rfl rfl zT1 rfl rfl) ?_
  refine AL.st rfl (st_appendF Tryd.underlying31 inf60 rfl zT12 rfl rfl rfl rfl rfl rfl zT5 zT1 rfl rfl rfl rfl rfl rfl rfl zT12 zT13 zT13 rfl) ?_
  simp only [S.forget, S.put, S.newObj, junkIf, V.has, V.hasL, nh, hasL_flat, hasL_append, List.map_cons, List.map_nil, List.filter_cons, List.filter_nil, Nat.reduceBNe, Nat.reduceBEq, eq_self, bne_self_eq_false,  Bool.not_true, Bool.not_false, Bool.or_false, Bool.or_true, Bool.false_or, Bool.true_or, if_true, if_false, Bool.false_eq_true, ite_true, ite_false, ↓reduceIte, beq_self_eq_true, Nat.reduceEqDiff]
  refine AL.z ?_
  apply AL.nil
  try simp only [nd, setL, V.cs, nz, Nat.reduceAdd, nm, ns]
  apply AW.seq
  refine AW.freeze 5 32 (P.map arD) rfl rfl rfl (by rw [List.length_map, hPl]) zT13 (rowsF (enc := arD) (sz := 4) (l := P) (fun _ => rfl) hfr) ?_
  apply AW.region
  iterate 2 refine AL.z ?_
  apply AL.nil
  try simp only [nd]
  apply AW.ret
  exact ⟨[_], ⟨rfl, trivial⟩, rfl, by simp [tupOf, V.pure, V.has]⟩
 obtain rfl : ak = n + 1 := by omega
 apply AW.seq
 apply AW.sr
 refine AL.z ?_
 refine AL.rp rfl rfl (rp_notT rfl rfl) ?_
 apply AL.nil
 try simp only [nd]
 refine AW.condF rfl ?_
 apply AW.skip
 try simp only [thenS]
 apply AW.seq
 refine AW.freeze 5 32 (A.map arD) rfl rfl rfl (by rw [List.length_map, hPl]) zT13 (rowsF (enc := arD) (sz := 4) (l := A) (fun _ => rfl) rfl) ?_
 apply AW.region
 iterate 2 refine AL.z ?_
 apply AL.nil
 try simp only [nd]
 apply AW.ret
 exact ⟨[_], ⟨rfl, trivial⟩, rfl, by simp [tupOf, V.pure, V.has]⟩
theorem am_InOrder (l : List Ar) (hl : l.length ≤ 400) : Fn Tryd.prog 37 [.d (arsD l)] (fun v => v = .d (arsD (inO l))) := by
 obtain ⟨n, hn⟩ : ∃ n, l.length = n := ⟨_, rfl⟩
 rw [hn] at hl
 refine Fn.intro (n := 18) ⟨Tryd.func37, rfl, rfl, rfl, rfl⟩ zT8 zT14 fun w0 out => ?_
 apply AW.sr
 refine AL.z ?_
 apply AL.nil
 try simp only [thenS, S.put, enum, List.nil_append, List.cons_append, List.append_nil, Nat.zero_add, Nat.reduceAdd]
 apply AW.sr
 refine AL.z ?_
 apply AL.nil
 try simp only [nd]
 apply AW.seq
 apply AW.sr
 refine AL.z ?_
 apply AL.nil
 try simp only [nd]
 apply AW.block
 refine AW.loop (fun s' => ∃ (i : Nat), i ≤ n ∧ s' = ⟨18, [(0, .d (arsD l)), (3, .d (arsD (inO (l.take i)))), (4, .i i)], [], []⟩) (fun s' => n - s'.nat 4) ⟨_, ?_, 0, by omega, rfl⟩ ?_
 ·exact Less.a0
 rintro s' ⟨i, hi, rfl⟩
 by_cases hlt : i < n
 ·obtain ⟨x, hx⟩ := get_lt hn hlt
  have hsn := inO_snoc hx
  have hil : (inO (l.take i)).length ≤ 400 := by rw [inO_len, List.length_take]; omega
  have hcl := am_placed (inO (l.take i)) x hil
  rw [← hsn] at hcl
  apply AW.seq
  apply AW.sr
  iterate 4 refine AL.z ?_
  apply AL.nil
  try simp only [nd]
  refine AW.condT rfl ?_
  apply AW.skip
  try simp only [thenS]
  apply AW.seq
  apply AW.block
  apply AW.region
  iterate 5 refine AL.z ?_
  refine AL.call (post := ?pc2) rfl (sm_call (args := [_, _]) ?hc2 ⟨Tryd.func60, rfl, rfl, rfl, rfl⟩ rfl rfl rfl rfl) ?_
  case hc2 => exact hcl
  rintro _ rfl -
  try dsimp only
  refine AL.z ?_
  apply AL.nil
  try simp only [nd, setL, V.cs, nz, Nat.reduceAdd, nm, ns]
  apply AW.region
  iterate 3 refine AL.z ?_
  apply AL.nil
  try simp only [nd]
  refine ⟨_, ?_, ⟨i + 1, by omega, rfl⟩, ?_⟩
  ·exact Less.a0
  simp [S.nat, fnd]; omega
 rw [List.take_of_length_le zT13]
 apply AW.seq
 apply AW.sr
 iterate 4 refine AL.z ?_
 apply AL.nil
 try simp only [nd]
 refine AW.condF rfl ?_
 refine AW.exit ?_
 try simp only [thenS, inBlockS, ↓reduceIte, Nat.reduceEqDiff]
 apply AW.sr
 iterate 2 refine AL.z ?_
 apply AL.nil
 try simp only [nd]
 apply AW.ret
 exact ⟨[_], ⟨rfl, trivial⟩, rfl, by simp [tupOf, V.pure, V.has]⟩
/-- The arcs that leave the first k states of a set. -/
def prA (sts : List St) (d : List Nat) : Nat → List Ar
 | 0 => []
 | k + 1 => if d.getD k big = big then prA sts d k else prA sts d k ++ stA sts k
theorem prA_none {sts : List St} {d : List Nat} {k : Nat} (h : d[k]? = some big) : prA sts d (k + 1) = prA sts d k := by rw [prA, List.getD_eq_getElem?_getD, h, Option.getD_some, if_pos rfl]
theorem prA_some {sts : List St} {d : List Nat} {k c : Nat} {x : St} (h : d[k]? = some c) (hc : c ≠ big) (hx : sts[k]? = some x) : prA sts d (k + 1) = prA sts d k ++ x.arcs := by rw [prA, List.getD_eq_getElem?_getD, h, Option.getD_some, if_neg hc, stA_of hx]
theorem prA_len (sts : List St) (d : List Nat) : ∀ k, (prA sts d k).length ≤ arcN (sts.take k)
 | 0 => Nat.zero_le _
 | k + 1 => by
  have ih := prA_len sts d k
  cases hx : sts[k]? with
  | none =>
   have hle : sts.length ≤ k := by
    refine Classical.byContradiction fun h => ?_
    rw [List.getElem?_eq_getElem zT13] at hx
    cases hx
   have e : stA sts k = [] := by unfold stA; rw [List.getD_eq_getElem?_getD, hx]; rfl
   rw [prA, e, List.append_nil, List.take_of_length_le zT13]
   rw [List.take_of_length_le hle] at ih
   split <;> exact ih
  | some x =>
   rw [prA, stA_of hx, take_snoc hx, arcN_snoc]
   split
   ·omega
   rw [List.length_append]; omega
theorem prL_first {l : List Ar} {a : Ar} (h : l[0]? = some a) : prL l 1 = [a] := by
 rw [prL, h]
 simp [prL]
theorem prL_new {l : List Ar} {k : Nat} {a b : Ar} (h : l[k]? = some a) (hb : l[k - 1]? = some b) (hne : a.i ≠ b.i ∨ a.o ≠ b.o) : prL l (k + 1) = prL l k ++ [a] := by
 rw [prL, h]
 simp only
 rw [if_pos (.inr ⟨b, hb, hne⟩)]
theorem prL_old {l : List Ar} {k : Nat} {a b : Ar} (h0 : k ≠ 0) (h : l[k]? = some a) (hb : l[k - 1]? = some b) (h1 : a.i = b.i) (h2 : a.o = b.o) : prL l (k + 1) = prL l k := by
 rw [prL, h]
 simp only
 rw [if_neg]
 rintro (e | ⟨b', hb', hne⟩)
 ·exact h0 e
 rw [hb] at hb'
 cases hb'
 rcases hne with h | h
 ·exact h h1
 exact h h2
theorem prL_len (l : List Ar) : ∀ k, (prL l k).length ≤ k
 | 0 => Nat.le_refl _
 | k + 1 => by
  have := prL_len l k
  rw [prL]
  split
  ·omega
  split
  ·rw [List.length_append]; simp only [List.length_cons, List.length_nil]; omega
  omega
def prS (sts : List St) (d : List Nat) : List Ar := prL (inO (prA sts d d.length)) (prA sts d d.length).length
theorem am_pairs (st : Int) (sts : List St) (d : List Nat) (n : Nat) (h60 : n ≤ 60) (h400 : arcN sts ≤ 400) (hn : sts.length = n) (hd : d.length = n) : Fn Tryd.prog 18 [mV ⟨st, sts⟩, .d (.sl 1 8 (d.map encN))] (fun v => v = .d (arsD (prS sts d))) := by
 have hbig := big_eq
 have hAl : ∀ k, k ≤ n → (prA sts d k).length ≤ 400 := fun k hk => by
  have h1 := prA_len sts d k
  have h2 : arcN (sts.take k) ≤ arcN sts := by
   conv => rhs; rw [← List.take_append_drop k sts]
   unfold arcN
   rw [List.map_append, List.sum_append]
   omega
  omega
 refine Fn.intro (n := 74) ⟨Tryd.func18, rfl, rfl, rfl, rfl⟩ zT8 zT14 fun w0 out => ?_
 apply AW.sr
 refine AL.sm rfl (sm_box 2 rfl rfl rfl rfl rfl) ?_
 refine AL.z ?_
 apply AL.nil
 try simp only [nd, setL, V.cs, nz, Nat.reduceAdd, nm, ns, enum]
 apply AW.sr
 refine AL.z ?_
 apply AL.nil
 try simp only [nd]
 apply AW.seq
 apply AW.seq
 refine AW.adopt 5 901 4 60 rfl (by simp [S.clean, V.has, V.hasL, V.cs, setL]) ?_
 apply AW.region
 refine AL.z ?_
 apply AL.nil
 try simp only [nd]
 apply AW.block
 refine AW.loop (fun s' => ∃ (q la : Nat), q ≤ n ∧ (prA sts d q).length = la ∧ s' = ⟨74, [(1, .d (.sl 1 8 (d.map encN))), (2, .ref 2 0), (5, .own 901 4 la (decide (la = 0))), (6, .i q)], [(2, ⟨24, [.i st, .d (stsD sts)], false, 0⟩), (901, ⟨60, (prA sts d q).flatMap arV4, decide (la = 0), 4⟩)], []⟩) (fun s' => n - s'.nat 6) ⟨_, ?_, 0, 0, by omega, rfl, rfl⟩ ?_
 ·exact Less.a0
 rintro s' ⟨q, la, hq, hla, rfl⟩
 by_cases hlt : q < n
 ·obtain ⟨x, hx⟩ := get_lt hn hlt
  obtain ⟨c, hc⟩ := get_lt hd hlt
  have hql := hAl q hq
  have hfl : ((prA sts d q).flatMap arV4).length = la * 4 := by rw [flat_len (sz := 4) (fun _ => rfl), hla]
  have hql2 := hAl (q + 1) hlt
  by_cases hcb : c = big
  ·subst hcb
   have hs := prA_none (sts := sts) hc
   have hbi : ((big : Nat) : Int) = 1152921504606846976 := rfl
   apply AW.seq
   apply AW.sr
   iterate 4 refine AL.z ?_
   apply AL.nil
   try simp only [nd]
   refine AW.condT rfl ?_
   apply AW.skip
   try simp only [thenS]
   apply AW.seq
   apply AW.block
   apply AW.sr
   iterate 5 refine AL.z ?_
   apply AL.nil
   try simp only [nd]
   refine AW.condF rfl ?_
   apply AW.skip
   try simp only [thenS]
   apply AW.region
   iterate 3 refine AL.z ?_
   apply AL.nil
   try simp only [nd]
   refine ⟨_, ?_, ⟨q + 1, la, by omega, by rw [hs]; exact hla, rfl⟩, ?_⟩
   ·rw [hs]; exact Less.a0
   simp [S.nat, fnd]; omega
  have hs := prA_some hc hcb hx
  have hcb2 : (c : Int) ≠ 1152921504606846976 := by omega
  rw [hs, List.length_append] at hql2
  obtain ⟨xf, xa⟩ := x
  simp only at hs hql2
  by_cases hxa : xa = []
  ·subst hxa
   rw [List.append_nil] at hs
   apply AW.seq
   apply AW.sr
   iterate 4 refine AL.z ?_
   apply AL.nil
   try simp only [nd]
   refine AW.condT rfl ?_
   apply AW.skip
   try simp only [thenS]
   apply AW.seq
   apply AW.block
   apply AW.sr
   iterate 5 refine AL.z ?_
   apply AL.nil
   try simp only [nd]
   refine AW.condT rfl ?_
   apply AW.region
   iterate 7 refine AL.z ?_
   refine AL.rp rfl rfl (rp_append_none Tryd.underlying31 inf60 rfl rfl rfl) ?_
   refine AL.z ?_
   apply AL.nil
   try simp only [nd]
   apply AW.region
   iterate 3 refine AL.z ?_
   apply AL.nil
   try simp only [nd]
   refine ⟨_, ?_, ⟨q + 1, la, by omega, by rw [hs]; exact hla, rfl⟩, ?_⟩
   ·rw [hs]; exact Less.a0
   simp [S.nat, fnd]; omega
  have hxl : 0 < xa.length := List.length_pos_iff.2 hxa
  have hne : ¬ (la + xa.length = 0) := by omega
  have hdec : decide (la + xa.length = 0) = false := decide_eq_false hne
  apply AW.seq
  apply AW.sr
  iterate 4 refine AL.z ?_
  apply AL.nil
  try simp only [nd]
  refine AW.condT rfl ?_
  apply AW.skip
  try simp only [thenS]
  apply AW.seq
  apply AW.block
  apply AW.sr
  iterate 5 refine AL.z ?_
  apply AL.nil
  try simp only [nd]
  refine AW.condT rfl ?_
  apply AW.region
  iterate 7 refine AL.z ?_
  refine AL.st rfl (st_appendA (l := xa) Tryd.underlying31 inf60 rfl rfl rfl rfl rfl rfl rfl (List.take_of_length_le (by show ((prA sts d q).flatMap arV4).length ≤ la * 4; omega)) hfl (hasL_ar _ _) rfl hxl zT13 zT13 rfl) ?_
  simp only [S.forget, S.put, S.newObj, junkIf, V.has, V.hasL, nh, hasL_flat, hasL_append, List.map_cons, List.map_nil, List.filter_cons, List.filter_nil, Nat.reduceBNe, Nat.reduceBEq, eq_self, bne_self_eq_false,  Bool.not_true, Bool.not_false, Bool.or_false, Bool.or_true, Bool.false_or, Bool.true_or, if_true, if_false, Bool.false_eq_true, ite_true, ite_false, ↓reduceIte, beq_self_eq_true, Nat.reduceEqDiff]
  refine AL.z ?_
  apply AL.nil
  try simp only [nd, setL, V.cs, nz, Nat.reduceAdd, nm, ns]
  apply AW.region
  iterate 3 refine AL.z ?_
  apply AL.nil
  try simp only [nd]
  refine ⟨_, ?_, ⟨q + 1, la + xa.length, by omega, by rw [hs, List.length_append, hla], rfl⟩, ?_⟩
  ·rw [hs, hdec, List.flatMap_append]; exact Less.a0
  simp [S.nat, fnd]; omega
 obtain rfl : q = n := by omega
 obtain ⟨A, hA⟩ : ∃ A, prA sts d q = A := ⟨_, rfl⟩
 have hR : prS sts d = prL (inO A) A.length := by unfold prS; rw [hd, hA]
 have hA4 := hAl q hq
 rw [hR]
 rw [hA] at hla hA4 ⊢
 have hio := am_InOrder A hA4
 have hil : (inO A).length = la := by rw [inO_len, hla]
 rw [hla] at hA4 ⊢
 clear hAl hA hR
 generalize inO A = L at hio hil ⊢
 apply AW.seq
 apply AW.sr
 iterate 4 refine AL.z ?_
 apply AL.nil
 try simp only [nd]
 refine AW.condF rfl ?_
 refine AW.exit ?_
 try simp only [thenS, inBlockS, ↓reduceIte, Nat.reduceEqDiff]
 apply AW.seq
 refine AW.freeze 5 32 (A.map arD) rfl rfl rfl (by rw [List.length_map, hla]) zT13 (rowsF (enc := arD) (sz := 4) (l := A) (fun _ => rfl) rfl) ?_
 apply AW.region
 refine AL.z ?_
 refine AL.call (post := ?pc0) rfl (sm_call (args := [_]) ?hc0 ⟨Tryd.func37, rfl, rfl, rfl, rfl⟩ rfl rfl rfl rfl) ?_
 case hc0 => exact hio
 rintro _ rfl -
 try dsimp only
 refine AL.z ?_
 apply AL.nil
 try simp only [nd, setL, V.cs, nz, Nat.reduceAdd, nm, ns]
 apply AW.sr
 refine AL.z ?_
 apply AL.nil
 try simp only [nd]
 apply AW.seq
 apply AW.sr
 refine AL.z ?_
 apply AL.nil
 try simp only [nd]
 apply AW.block
 refine AW.adopt 7 902 4 60 rfl (by simp [S.clean, V.has, V.hasL, V.cs, setL]) ?_
 refine AW.loop (fun s' => ∃ (k lo : Nat), k ≤ la ∧ (prL L k).length = lo ∧ s' = ⟨74, [(5, .d (arsD L)), (7, .own 902 4 lo (decide (lo = 0))), (8, .i k)], [(902, ⟨60, (prL L k).flatMap arV2, decide (lo = 0), 4⟩)], []⟩) (fun s' => la - s'.nat 8) ⟨_, ?_, 0, 0, by omega, rfl, rfl⟩ ?_
 ·exact Less.a0
 rintro s' ⟨k, lo, hk, hlo, rfl⟩
 have hfo : ((prL L k).flatMap arV2).length = lo * 4 := by rw [flat_len (sz := 4) (fun _ => rfl), hlo]
 have hlk := prL_len L k
 rw [hlo] at hlk
 by_cases hltk : k < la
 ·obtain ⟨a, ha⟩ := get_lt hil hltk
  by_cases hk0 : k = 0
  ·subst hk0
   have hs := prL_first ha
   have hlo0 : lo = 0 := by omega
   subst hlo0
   have e0 : prL L 0 = [] := rfl
   rw [e0] at hfo ⊢
   apply AW.seq
   apply AW.sr
   iterate 4 refine AL.z ?_
   apply AL.nil
   try simp only [nd]
   refine AW.condT rfl ?_
   apply AW.skip
   try simp only [thenS]
   apply AW.seq
   apply AW.block
   apply AW.seq
   refine AW.draw [(0, true), (1, true), (2, true), (3, true), (4, true), (5, true), (6, true), (7, true), (8, true), (9, true), (10, true), (11, true), (12, true), (13, true), (14, true), (15, true), (16, true), (17, true), (18, true), (19, true), (20, true), (21, true), (22, true), (23, true), (24, true), (25, true), (26, true), (27, true), (28, true), (29, true)] (fun i => !([] : List Nat).contains i) 30 zT10 zT10 rfl zT10 ?_
   iterate 3 refine AD1.z ?_
   refine AD1.noV rfl rfl rfl rfl rfl (fun _ _ h => h) ?_
   refine AD1.noV rfl rfl rfl rfl rfl (fun _ _ h => h) ?_
   refine AD1.noV rfl rfl rfl rfl rfl (fun _ _ h => h) ?_
   refine AD1.noV rfl rfl rfl rfl rfl (fun _ _ h => h) ?_
   refine AD1.noV rfl rfl rfl rfl rfl (fun _ _ h => h) ?_
   refine AD1.noV rfl rfl rfl rfl rfl (fun _ _ h => h) ?_
   refine AD1.noV rfl rfl rfl rfl rfl (fun _ _ h => h) ?_
   refine AD1.noV rfl rfl rfl rfl rfl (fun _ _ h => h) ?_
   refine AD1.noV rfl rfl rfl rfl rfl (fun _ _ h => h) ?_
   refine AD1.noV rfl rfl rfl rfl rfl (fun _ _ h => h) ?_
   refine AD1.noV rfl rfl rfl rfl rfl (fun _ _ h => h) ?_
   refine AD1.noV rfl rfl rfl rfl rfl (fun _ _ h => h) ?_
   iterate 2 refine AD1.z ?_
   refine AD1.noV rfl rfl rfl rfl rfl (fun _ _ h => h) ?_
   refine AD1.noV rfl rfl rfl rfl rfl (fun _ _ h => h) ?_
   refine AD1.noV rfl rfl rfl rfl rfl (fun _ _ h => h) ?_
   refine AD1.noV rfl rfl rfl rfl rfl (fun _ _ h => h) ?_
   refine AD1.noV rfl rfl rfl rfl rfl (fun _ _ h => h) ?_
   refine AD1.noV rfl rfl rfl rfl rfl (fun _ _ h => h) ?_
   refine AD1.noV rfl rfl rfl rfl rfl (fun _ _ h => h) ?_
   refine AD1.noV rfl rfl rfl rfl rfl (fun _ _ h => h) ?_
   refine AD1.noV rfl rfl rfl rfl rfl (fun _ _ h => h) ?_
   refine AD1.noV rfl rfl rfl rfl rfl (fun _ _ h => h) ?_
   refine AD1.noV rfl rfl rfl rfl rfl (fun _ _ h => h) ?_
   refine AD1.noV rfl rfl rfl rfl rfl (fun _ _ h => h) ?_
   refine AD1.z ?_
   refine AD1.nil ?_
   try simp only [nd]
   refine AW.condT rfl ?_
   apply AW.region
   iterate 5 refine AL.z ?_
   refine AL.sm rfl (sm_slice (vs := [(0, _)]) (zs := [.d (.p (.int .i64 0)), .d (.p (.int .i64 0)), .d (.p (.int .i64 0)), .d (.p (.int .i64 0))]) 71 Tryd.underlying31 inf60 rfl rfl zT12 zT12 zT12 rfl rfl rfl rfl rfl rfl rfl) ?_
   refine AL.st rfl (st_appendF Tryd.underlying31 inf60 rfl zT12 rfl rfl rfl rfl rfl rfl zT5 rfl rfl rfl rfl rfl rfl rfl rfl zT12 zT13 zT13 rfl) ?_
   simp only [S.forget, S.put, S.newObj, junkIf, V.has, V.hasL, nh, hasL_flat, hasL_append, List.map_cons, List.map_nil, List.filter_cons, List.filter_nil, Nat.reduceBNe, Nat.reduceBEq, eq_self, bne_self_eq_false,  Bool.not_true, Bool.not_false, Bool.or_false, Bool.or_true, Bool.false_or, Bool.true_or, if_true, if_false, Bool.false_eq_true, ite_true, ite_false, ↓reduceIte, beq_self_eq_true, Nat.reduceEqDiff]
   refine AL.z ?_
   apply AL.nil
   try simp only [nd, setL, V.cs, nz, Nat.reduceAdd, nm, ns]
   apply AW.region
   iterate 3 refine AL.z ?_
   apply AL.nil
   try simp only [nd]
   refine ⟨_, ?_, ⟨1, 1, by omega, by rw [hs]; rfl, rfl⟩, ?_⟩
   ·rw [hs]; exact Less.a0
   simp [S.nat, fnd]; omega
  obtain ⟨b, hb⟩ := get_lt hil (show k - 1 < la by omega)
  have hnew := prL_new ha hb
  have hold := prL_old hk0 ha hb
  obtain ⟨ai, ao, aw, at'⟩ := a
  obtain ⟨bi, bo, bw, bt⟩ := b
  simp only at hnew hold
  have hk1 : (k : Int) ≠ 0 := by omega
  by_cases c1 : ai = bi
  ·by_cases c2 : ao = bo
   ·have hs := hold c1 c2
    clear hnew hold
    apply AW.seq
    apply AW.sr
    iterate 4 refine AL.z ?_
    apply AL.nil
    try simp only [nd]
    refine AW.condT rfl ?_
    apply AW.skip
    try simp only [thenS]
    apply AW.seq
    apply AW.block
    apply AW.seq
    refine AW.draw [(0, true), (1, true), (2, true), (3, true), (4, true), (5, true), (6, true), (7, true), (8, true), (9, true), (10, true), (11, true), (12, true), (13, true), (14, true), (15, true), (16, true), (17, true), (18, true), (19, true), (20, true), (21, true), (22, true), (23, true), (24, true), (25, true), (26, true), (27, true), (28, true), (29, true)] (fun i => !([] : List Nat).contains i) 30 zT10 zT10 rfl zT10 ?_
    iterate 3 refine AD1.z ?_
    iterate 8 refine AD1.zy ?_
    refine AD1.rpy rfl rfl rfl rfl (fun _ _ h => h) (rp_index_map (k := k - 1) Tryd.underlying31 inf60 rfl rfl rfl zT13 zT11) ?_
    iterate 3 refine AD1.zy ?_
    iterate 2 refine AD1.z ?_
    iterate 8 refine AD1.zy ?_
    refine AD1.rpy rfl rfl rfl rfl (fun _ _ h => h) (rp_index_map (k := k - 1) Tryd.underlying31 inf60 rfl rfl rfl zT13 zT11) ?_
    iterate 3 refine AD1.zy ?_
    refine AD1.z ?_
    refine AD1.nil ?_
    try simp only [nd]
    refine AW.condF rfl ?_
    apply AW.skip
    try simp only [thenS]
    apply AW.region
    iterate 3 refine AL.z ?_
    apply AL.nil
    try simp only [nd]
    refine ⟨_, ?_, ⟨k + 1, lo, by omega, by rw [hs]; exact hlo, rfl⟩, ?_⟩
    ·rw [hs]; exact Less.a0
    simp [S.nat, fnd]; omega
   have hs := hnew (.inr c2)
   clear hnew hold
   apply AW.seq
   apply AW.sr
   iterate 4 refine AL.z ?_
   apply AL.nil
   try simp only [nd]
   refine AW.condT rfl ?_
   apply AW.skip
   try simp only [thenS]
   apply AW.seq
   apply AW.block
   apply AW.seq
   refine AW.draw [(0, true), (1, true), (2, true), (3, true), (4, true), (5, true), (6, true), (7, true), (8, true), (9, true), (10, true), (11, true), (12, true), (13, true), (14, true), (15, true), (16, true), (17, true), (18, true), (19, true), (20, true), (21, true), (22, true), (23, true), (24, true), (25, true), (26, true), (27, true), (28, true), (29, true)] (fun i => !([] : List Nat).contains i) 30 zT10 zT10 rfl zT10 ?_
   iterate 3 refine AD1.z ?_
   iterate 8 refine AD1.zy ?_
   refine AD1.rpy rfl rfl rfl rfl (fun _ _ h => h) (rp_index_map (k := k - 1) Tryd.underlying31 inf60 rfl rfl rfl zT13 zT11) ?_
   iterate 3 refine AD1.zy ?_
   iterate 2 refine AD1.z ?_
   iterate 8 refine AD1.zy ?_
   refine AD1.rpy rfl rfl rfl rfl (fun _ _ h => h) (rp_index_map (k := k - 1) Tryd.underlying31 inf60 rfl rfl rfl zT13 zT11) ?_
   iterate 3 refine AD1.zy ?_
   refine AD1.z ?_
   refine AD1.nil ?_
   try simp only [nd]
   refine AW.condT rfl ?_
   apply AW.region
   iterate 5 refine AL.z ?_
   refine AL.sm rfl (sm_slice (vs := [(0, _)]) (zs := [.d (.p (.int .i64 0)), .d (.p (.int .i64 0)), .d (.p (.int .i64 0)), .d (.p (.int .i64 0))]) 71 Tryd.underlying31 inf60 rfl rfl zT12 zT12 zT12 rfl rfl rfl rfl zT1 rfl rfl) ?_
   refine AL.st rfl (st_appendF Tryd.underlying31 inf60 rfl zT12 rfl rfl rfl rfl rfl rfl zT5 zT1 rfl rfl rfl rfl rfl rfl rfl zT12 zT13 zT13 rfl) ?_
   simp only [S.forget, S.put, S.newObj, junkIf, V.has, V.hasL, nh, hasL_flat, hasL_append, List.map_cons, List.map_nil, List.filter_cons, List.filter_nil, Nat.reduceBNe, Nat.reduceBEq, eq_self, bne_self_eq_false,  Bool.not_true, Bool.not_false, Bool.or_false, Bool.or_true, Bool.false_or, Bool.true_or, if_true, if_false, Bool.false_eq_true, ite_true, ite_false, ↓reduceIte, beq_self_eq_true, Nat.reduceEqDiff]
   refine AL.z ?_
   apply AL.nil
   try simp only [nd, setL, V.cs, nz, Nat.reduceAdd, nm, ns]
   apply AW.region
   iterate 3 refine AL.z ?_
   apply AL.nil
   try simp only [nd]
   refine ⟨_, ?_, ⟨k + 1, lo + 1, by omega, by rw [hs, List.length_append, hlo]; rfl, rfl⟩, ?_⟩
   ·rw [hs]; simp only [List.flatMap_append, List.flatMap_cons, List.flatMap_nil, List.append_nil]; exact Less.a0
   simp [S.nat, fnd]; omega
  have hs := hnew (.inl c1)
  clear hnew hold
  apply AW.seq
  apply AW.sr
  iterate 4 refine AL.z ?_
  apply AL.nil
  try simp only [nd]
  refine AW.condT rfl ?_
  apply AW.skip
  try simp only [thenS]
  apply AW.seq
  apply AW.block
  apply AW.seq
  refine AW.draw [(0, true), (1, true), (2, true), (3, true), (4, true), (5, true), (6, true), (7, true), (8, true), (9, true), (10, true), (11, true), (12, true), (13, true), (14, true), (15, true), (16, true), (17, true), (18, true), (19, true), (20, true), (21, true), (22, true), (23, true), (24, true), (25, true), (26, true), (27, true), (28, true), (29, true)] (fun i => !([] : List Nat).contains i) 30 zT10 zT10 rfl zT10 ?_
  iterate 3 refine AD1.z ?_
  iterate 8 refine AD1.zy ?_
  refine AD1.rpy rfl rfl rfl rfl (fun _ _ h => h) (rp_index_map (k := k - 1) Tryd.underlying31 inf60 rfl rfl rfl zT13 zT11) ?_
  iterate 3 refine AD1.zy ?_
  iterate 2 refine AD1.z ?_
  refine AD1.noV rfl rfl rfl rfl rfl (fun _ _ h => h) ?_
  refine AD1.noV rfl rfl rfl rfl rfl (fun _ _ h => h) ?_
  refine AD1.noV rfl rfl rfl rfl rfl (fun _ _ h => h) ?_
  refine AD1.noV rfl rfl rfl rfl rfl (fun _ _ h => h) ?_
  refine AD1.noV rfl rfl rfl rfl rfl (fun _ _ h => h) ?_
  refine AD1.noV rfl rfl rfl rfl rfl (fun _ _ h => h) ?_
  refine AD1.noV rfl rfl rfl rfl rfl (fun _ _ h => h) ?_
  refine AD1.noV rfl rfl rfl rfl rfl (fun _ _ h => h) ?_
  refine AD1.noV rfl rfl rfl rfl rfl (fun _ _ h => h) ?_
  refine AD1.noV rfl rfl rfl rfl rfl (fun _ _ h => h) ?_
  refine AD1.noV rfl rfl rfl rfl rfl (fun _ _ h => h) ?_
  refine AD1.noV rfl rfl rfl rfl rfl (fun _ _ h => h) ?_
  refine AD1.z ?_
  refine AD1.nil ?_
  try simp only [nd]
  refine AW.condT rfl ?_
  apply AW.region
  iterate 5 refine AL.z ?_
  refine AL.sm rfl (sm_slice (vs := [(0, _)]) (zs := [.d (.p (.int .i64 0)), .d (.p (.int .i64 0)), .d (.p (.int .i64 0)), .d (.p (.int .i64 0))]) 71 Tryd.underlying31 inf60 rfl rfl zT12 zT12 zT12 rfl rfl rfl rfl zT1 rfl rfl) ?_
  refine AL.st rfl (st_appendF Tryd.underlying31 inf60 rfl zT12 rfl rfl rfl rfl rfl rfl zT5 zT1 rfl rfl rfl rfl rfl rfl rfl zT12 zT13 zT13 rfl) ?_
  simp only [S.forget, S.put, S.newObj, junkIf, V.has, V.hasL, nh, hasL_flat, hasL_append, List.map_cons, List.map_nil, List.filter_cons, List.filter_nil, Nat.reduceBNe, Nat.reduceBEq, eq_self, bne_self_eq_false,  Bool.not_true, Bool.not_false, Bool.or_false, Bool.or_true, Bool.false_or, Bool.true_or, if_true, if_false, Bool.false_eq_true, ite_true, ite_false, ↓reduceIte, beq_self_eq_true, Nat.reduceEqDiff]
  refine AL.z ?_
  apply AL.nil
  try simp only [nd, setL, V.cs, nz, Nat.reduceAdd, nm, ns]
  apply AW.region
  iterate 3 refine AL.z ?_
  apply AL.nil
  try simp only [nd]
  refine ⟨_, ?_, ⟨k + 1, lo + 1, by omega, by rw [hs, List.length_append, hlo]; rfl, rfl⟩, ?_⟩
  ·rw [hs]; simp only [List.flatMap_append, List.flatMap_cons, List.flatMap_nil, List.append_nil]; exact Less.a0
  simp [S.nat, fnd]; omega
 obtain rfl : k = la := by omega
 apply AW.seq
 apply AW.sr
 iterate 4 refine AL.z ?_
 apply AL.nil
 try simp only [nd]
 refine AW.condF rfl ?_
 refine AW.exit ?_
 try simp only [thenS, inBlockS, ↓reduceIte, Nat.reduceEqDiff]
 apply AW.seq
 refine AW.freeze 7 32 ((prL L k).map arD) rfl rfl rfl (by rw [List.length_map, hlo]) zT13 (rowsF (enc := arD) (sz := 4) (l := prL L k) (fun _ => rfl) rfl) ?_
 apply AW.region
 iterate 2 refine AL.z ?_
 apply AL.nil
 try simp only [nd]
 apply AW.ret
 exact ⟨[_], ⟨rfl, trivial⟩, rfl, by simp [tupOf, V.pure, V.has, V.hasL]⟩
def sbV (w x : Nat) : Nat := if x = big then big else x - w
def nxL (sts : List St) (d : List Nat) (p : Ar) : List Nat := bhD sts d p.i p.o
def sbL (l : List Nat) (w : Nat) : List Nat := l.map (sbV w)
def lIx (L : List (List Nat)) (x : List Nat) : Nat := L.findIdx fun y => decide (y = x)
def lAd (L : List (List Nat)) (x : List Nat) : List (List Nat) := if lIx L x = L.length then L ++ [x] else L
theorem lIx_none {L : List (List Nat)} {x : List Nat} (h : ∀ (i : Nat) (y : List Nat), L[i]? = some y → y ≠ x) : lIx L x = L.length := by
  unfold lIx
  rw [List.findIdx_eq_length]
  intro y hy
  obtain ⟨i, hi⟩ := List.getElem?_of_mem hy
  exact decide_eq_false (h i y hi)
theorem lIx_some {L : List (List Nat)} {x : List Nat} {i : Nat} (hn : L.Nodup) (h : L[i]? = some x) : lIx L x = i := by
  obtain ⟨hlt, hg⟩ := List.getElem?_eq_some_iff.1 h
  unfold lIx
  rw [List.findIdx_eq hlt]
  refine ⟨decide_eq_true hg, fun j hj => decide_eq_false fun e => ?_⟩
  have hj' : j < L.length := Nat.lt_trans hj hlt
  exact (List.pairwise_iff_getElem.1 hn) j i hj' hlt hj (e.trans hg.symm)
theorem lAd_nodup {L : List (List Nat)} {x : List Nat} (hn : L.Nodup) : (lAd L x).Nodup := by
  unfold lAd
  split
  · rename_i h
    unfold lIx at h
    rw [List.findIdx_eq_length] at h
    rw [List.nodup_append]
    refine ⟨hn, by simp, fun a ha b hb => ?_⟩
    rw [List.mem_singleton] at hb
    subst hb
    exact of_decide_eq_false (h a ha)
  exact hn
/-- A set's arcs, one by one: what goes wrong, the sets, how many arcs, the arcs. -/
def cerA (sts : List St) (d : List Nat) : List Ar → List (List Nat) → Nat → List Ar → Int × List (List Nat) × Nat × List Ar
  | [], L, a, o => (0, L, a, o)
  | p :: r, L, a, o =>
    if 1000000000 < mnL (nxL sts d p) then (4, L, a, o)
    else if 400 < a + 1 ∨ 60 < (lAd L (sbL (nxL sts d p) (mnL (nxL sts d p)))).length then (5, L, a, o)
    else cerA sts d r (lAd L (sbL (nxL sts d p) (mnL (nxL sts d p)))) (a + 1) (o ++ [⟨p.i, p.o, mnL (nxL sts d p), lIx L (sbL (nxL sts d p) (mnL (nxL sts d p)))⟩])
theorem cerA_at {sts : List St} {d : List Nat} {A o : List Ar} {L : List (List Nat)} {a i : Nat} {p : Ar} (h : A[i]? = some p) : cerA sts d (A.drop i) L a o = if 1000000000 < mnL (nxL sts d p) then (4, L, a, o)
    else if 400 < a + 1 ∨ 60 < (lAd L (sbL (nxL sts d p) (mnL (nxL sts d p)))).length then (5, L, a, o)
    else cerA sts d (A.drop (i + 1)) (lAd L (sbL (nxL sts d p) (mnL (nxL sts d p)))) (a + 1) (o ++ [⟨p.i, p.o, mnL (nxL sts d p), lIx L (sbL (nxL sts d p) (mnL (nxL sts d p)))⟩]) := by
  have hi := List.getElem?_eq_some_iff.1 h
  rw [List.drop_eq_getElem_cons hi.1, hi.2, cerA]
/-- What a set costs to end; big: it can't. -/
def finD (sts : List St) (d : List Nat) : Nat → Nat
  | 0 => big
  | k + 1 => if d.getD k big ≠ big ∧ (sts[k]?.getD ⟨0, []⟩).fin ≠ 1000000001 ∧ d.getD k big + (sts[k]?.getD ⟨0, []⟩).fin.toNat < finD sts d k then d.getD k big + (sts[k]?.getD ⟨0, []⟩).fin.toNat else finD sts d k
theorem finD_le (sts : List St) (d : List Nat) : ∀ k, finD sts d k ≤ big
  | 0 => Nat.le_refl _
  | k + 1 => by
    have := finD_le sts d k
    rw [finD]
    split
    · rename_i h
      omega
    exact this
theorem finD_at {sts : List St} {d : List Nat} {k c : Nat} {x : St} (hc : d[k]? = some c) (hx : sts[k]? = some x) : finD sts d (k + 1) = if c ≠ big ∧ x.fin ≠ 1000000001 ∧ c + x.fin.toNat < finD sts d k then c + x.fin.toNat else finD sts d k := by
  rw [finD, List.getD_eq_getElem?_getD, hc, hx]
  rfl
def ceTold (f : Nat) : Int := if f = big then 1000000001 else f
/-- All sets, one by one. -/
def cerR (sts : List St) : Nat → List (List Nat) → Nat → List St → Int × List St
  | 0, _, _, P => (0, P)
  | k + 1, L, a, P => match L[P.length]? with
    | none => (0, P)
    | some d =>
      if finD sts d d.length ≠ big ∧ 1000000000 < finD sts d d.length then (4, P)
      else if (cerA sts d (prS sts d) L a []).1 ≠ 0 then ((cerA sts d (prS sts d) L a []).1, P)
      else cerR sts k (cerA sts d (prS sts d) L a []).2.1 (cerA sts d (prS sts d) L a []).2.2.1 (P ++ [⟨ceTold (finD sts d d.length), (cerA sts d (prS sts d) L a []).2.2.2⟩])
theorem cerR_at {sts : List St} {k a : Nat} {L : List (List Nat)} {P : List St} {d : List Nat} (h : L[P.length]? = some d) : cerR sts (k + 1) L a P = if finD sts d d.length ≠ big ∧ 1000000000 < finD sts d d.length then (4, P)
      else if (cerA sts d (prS sts d) L a []).1 ≠ 0 then ((cerA sts d (prS sts d) L a []).1, P)
      else cerR sts k (cerA sts d (prS sts d) L a []).2.1 (cerA sts d (prS sts d) L a []).2.2.1 (P ++ [⟨ceTold (finD sts d d.length), (cerA sts d (prS sts d) L a []).2.2.2⟩]) := by
  rw [cerR, h]
theorem cerR_end {sts : List St} {k a : Nat} {L : List (List Nat)} {P : List St} (h : L.length ≤ P.length) : cerR sts k L a P = (0, P) := by
  cases k with
  | zero => rfl
  | succ k => rw [cerR, List.getElem?_eq_none h]
/-- The set in which a machine begins. -/
def ceOne (n s : Nat) : List Nat := (List.replicate n big).set s 0
def ceRun (m : Mach) : Int × List St := cerR m.states 61 [ceOne m.states.length m.start.toNat] 0 []
/-- What certain.Make answers. -/
def ceE (m : Mach) : Int := if machE m ≠ 0 then machE m else if bFl m.states = false then 7 else if m.start < 0 then 0 else (ceRun m).1
def ceM (m : Mach) : Mach := if ceE m ≠ 0 then ⟨0, []⟩ else if m.start < 0 then ⟨-1, []⟩ else ⟨0, (ceRun m).2⟩
/-- Costs in a set: none, or at most B. -/
def ceB (n B : Nat) (d : List Nat) : Prop := d.length = n ∧ ∀ x ∈ d, x = big ∨ x ≤ B
theorem bhA_bound {i o : Int} {c q v B : Nat} (hc : c + 1000000000 ≤ B) (hv : v = big ∨ v ≤ B) : ∀ l : List Ar, (∀ a ∈ l, a.w ≤ 1000000000) → bhA i o c q v l = big ∨ bhA i o c q v l ≤ B
  | [], _ => hv
  | a :: l, h => by
    unfold bhA
    rw [List.foldl_cons]
    have h1 := h a List.mem_cons_self
    exact bhA_bound (i := i) (o := o) (c := c) (q := q) hc (v := if a.i = i ∧ a.o = o ∧ a.t = (q : Int) ∧ c + a.w.toNat < v then c + a.w.toNat else v) (by split <;> omega) l fun x hx => h x (List.mem_cons_of_mem _ hx)
theorem bhD_bound {sts : List St} {d : List Nat} {i o : Int} {n B : Nat} (hd : ceB n B d) (hw : ∀ x ∈ sts, ∀ a ∈ x.arcs, a.w ≤ 1000000000) : ceB n (B + 1000000000) (bhD sts d i o) := by
  refine ⟨by simp [bhD, bl, hd.1], fun x hx => ?_⟩
  obtain ⟨q, hq⟩ := List.getElem?_of_mem hx
  obtain ⟨hql, rfl⟩ := bl_inv hq
  have key : ∀ k, k ≤ d.length → bhS sts d i o q k = big ∨ bhS sts d i o q k ≤ B + 1000000000 := by
    intro k
    induction k with
    | zero => intro _; exact .inl rfl
    | succ k ih =>
      intro hk
      have ih := ih zT13
      rw [bhS]
      split
      · exact ih
      rename_i hne
      have hkl : k < d.length := by omega
      have hc := hd.2 _ (List.getElem_mem hkl)
      rw [List.getD_eq_getElem?_getD, List.getElem?_eq_getElem hkl, Option.getD_some] at hne ⊢
      refine bhA_bound zT13 ih _ fun a ha => ?_
      by_cases hks : k < sts.length
      · rw [stA_of (List.getElem?_eq_getElem hks)] at ha
        exact hw _ (List.getElem_mem hks) a ha
      unfold stA at ha
      rw [List.getD_eq_getElem?_getD, List.getElem?_eq_none zT13] at ha
      simp at ha
  exact key _ (Nat.le_refl _)
theorem sbL_bound {l : List Nat} {n B w : Nat} (h : ceB n B l) : ceB n B (sbL l w) := by
  refine ⟨by simp [sbL, h.1], fun x hx => ?_⟩
  obtain ⟨y, hy, rfl⟩ := List.mem_map.1 hx
  unfold sbV
  rcases h.2 y hy with rfl | h1
  · exact .inl (if_pos rfl)
  split
  · exact .inl rfl
  exact .inr zT13
theorem sb_step {l : List Nat} {w q x : Nat} (h : l[q]? = some x) : ((l.take q).map (sbV w) ++ l.drop q).set q (sbV w x) = (l.take (q + 1)).map (sbV w) ++ l.drop (q + 1) := by
  have hi := List.getElem?_eq_some_iff.1 h
  have hq := hi.1
  have hl : ((l.take q).map (sbV w)).length = q := by rw [List.length_map, List.length_take]; omega
  rw [List.set_append_right _ _ zT13, hl, Nat.sub_self, List.drop_eq_getElem_cons hi.1, List.set_cons_zero, take_snoc h, List.map_append, List.append_assoc]
  rfl
theorem sb_same {l : List Nat} {w q x : Nat} (h : l[q]? = some x) (hx : sbV w x = x) : (l.take (q + 1)).map (sbV w) ++ l.drop (q + 1) = (l.take q).map (sbV w) ++ l.drop q := by
  have hi := List.getElem?_eq_some_iff.1 h
  rw [take_snoc h, List.map_append, List.append_assoc, List.drop_eq_getElem_cons hi.1, hi.2]
  simp [hx]
theorem sb_at {l : List Nat} {w q x : Nat} (h : l[q]? = some x) : ((l.take q).map (sbV w) ++ l.drop q)[q]? = some x := by
  have hi := List.getElem?_eq_some_iff.1 h
  have hq := hi.1
  have hl : ((l.take q).map (sbV w)).length = q := by rw [List.length_map, List.length_take]; omega
  rw [List.getElem?_append_right zT13, hl, Nat.sub_self, List.getElem?_drop, Nat.add_zero, h]
/-- What the search for a set has found. -/
def fndL (L : List (List Nat)) (x : List Nat) (j : Nat) (v : Int) : Prop := (v = -1 ∧ ∀ (i : Nat) (y : List Nat), i < j → L[i]? = some y → y ≠ x) ∨ ∃ i : Nat, i < j ∧ L[i]? = some x ∧ v = (i : Int)
theorem fndL.zero (L : List (List Nat)) (x : List Nat) : fndL L x 0 (-1) := .inl ⟨rfl, fun i q h => absurd h zT13⟩
theorem fndL.yes {L : List (List Nat)} {x : List Nat} {j : Nat} {v : Int} (h : fndL L x j v) (hq : L[j]? = some x) : fndL L x (j + 1) (j : Int) := .inr ⟨j, by omega, hq, rfl⟩
theorem fndL.no {L : List (List Nat)} {x y : List Nat} {j : Nat} {v : Int} (h : fndL L x j v) (hq : L[j]? = some y) (hc : y ≠ x) : fndL L x (j + 1) v := by
  rcases h with ⟨h1, h2⟩ | ⟨i, h1, h2⟩
  · refine .inl ⟨h1, fun i q' hi hq' => ?_⟩
    by_cases e : i = j
    · subst e
      rw [hq] at hq'
      cases hq'
      exact hc
    exact h2 i q' zT13 hq'
  exact .inr ⟨i, by omega, h2⟩
theorem fndL.end {L : List (List Nat)} {x : List Nat} {v : Int} (h : fndL L x L.length v) (hn : L.Nodup) : (v < 0 ∧ lIx L x = L.length ∧ lAd L x = L ++ [x]) ∨ ∃ i : Nat, v = (i : Int) ∧ i < L.length ∧ lIx L x = i ∧ lAd L x = L := by
  rcases h with ⟨h1, h2⟩ | ⟨i, h1, h2, h3⟩
  · have h4 : lIx L x = L.length := lIx_none fun i y hi => h2 i y (List.getElem?_eq_some_iff.1 hi).1 hi
    exact .inl ⟨by omega, h4, by unfold lAd; rw [if_pos h4]⟩
  have h4 := lIx_some hn h2
  exact .inr ⟨i, h3, h1, h4, by unfold lAd; rw [if_neg zT13]⟩
end Go.Proofs.YthiknkcigcglkaaDoor
