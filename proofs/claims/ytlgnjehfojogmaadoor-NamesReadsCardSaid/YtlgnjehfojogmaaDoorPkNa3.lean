/- Part 3 of what the law NamesReads rests on. -/
import Derived.Shelf.Small.Strs
import Derived.Shelf.Strings.Cut
import Derived.Shelf.Strings.Prefix
import Derived.Shelf.Strconv.ErrVarAll
import Derived.Test.YtlgnjehfojogmaaDoorProg
import Derived.Lib.IndexBytes
import Derived.Scope
import Derived.Laws.DeepStrings4
import Derived.Lib.Atoi
import Derived.Test.YtlgnjehfojogmaaDoorPkNa1
import Derived.Test.YtlgnjehfojogmaaDoorPkNa2
namespace Go.Proofs.YtlgnjehfojogmaaDoor
open Go.RowKit
set_option linter.unusedSimpArgs false
set_option linter.unusedVariables false
set_option maxRecDepth 100000

theorem ba_loop (bs : ByteArray) : ∀ (m i : Nat) (r : List UInt8), bs.size - i = m → ByteArray.toList.loop bs i r = r.reverse ++ bs.data.toList.drop i := by
 intro m
 induction m with
 | zero =>
  intro i r h
  rw [ByteArray.toList.loop]
  have : ¬ i < bs.size := by omega
  rw [if_neg this, List.drop_eq_nil_of_le (by have : bs.data.toList.length = bs.size := Array.length_toList; omega), List.append_nil]
 | succ m ih =>
  intro i r h
  rw [ByteArray.toList.loop]
  have hi : i < bs.size := by omega
  have hl : bs.data.toList.length = bs.size := Array.length_toList
  rw [if_pos hi, ih (i + 1) _ (by omega), List.drop_eq_getElem_cons (by omega : i < bs.data.toList.length)]
  have : bs.get! i = bs.data.toList[i] := by
   simp [ByteArray.get!]
   rw [getElem!_pos bs.data i (by simpa using hi)]
  rw [this]
  simp
theorem ba_toList (a : ByteArray) : a.toList = a.data.toList := by
 unfold ByteArray.toList
 rw [ba_loop a a.size 0 [] (by omega)]
 simp
theorem ba_ne {a b : ByteArray} (h : a.data.toList ≠ b.data.toList) : (a.toList == b.toList) = false := by
 rw [beq_eq_false_iff_ne, ba_toList, ba_toList]; exact h
section
variable {c : Cx} {s : S} {o : Oper}
theorem rp_eqlsF {t t' : TypeId} {x y : Operand} {a b : ByteArray} (ho : o.op = .binOp .eql t x y t') (hx : s.ev x = some (.s a)) (hy : s.ev y = some (.s b)) (h : a.data.toList ≠ b.data.toList) : RP c o s (.b false) := rp_b (rp_eqls ho hx hy) (ba_ne h)
theorem rp_neqsT {t t' : TypeId} {x y : Operand} {a b : ByteArray} (ho : o.op = .binOp .neq t x y t') (hx : s.ev x = some (.s a)) (hy : s.ev y = some (.s b)) (h : a.data.toList ≠ b.data.toList) : RP c o s (.b true) := rp_b (rp_neqs ho hx hy) (by rw [ba_ne h]; rfl)
end
section
variable {c : Cx} {s : S} {o : Oper}
theorem rp_index_str {t : TypeId} {x y : Operand} {str : ByteArray} {k : Nat} {n' : Int} {kd : IntKind} {b : UInt8} (hu : c.P.underlying t = some .string) (ho : o.op = .index t x y) (hx : s.ev x = some (.s str)) (hy : s.ev y = some (.d (.p (.int kd n')))) (hk : n' = (k : Int)) (hb : str.data.toList[k]? = some b) : RP c o s (.d (.p (.int .u8 (b.toNat : Int)))) := fun g a w hs => by
 refine ⟨.int .u8 (b.toNat : Int), .d _ _ (.p _), fun w' => ?_⟩
 subst hk
 obtain ⟨hlt, he⟩ := List.getElem?_eq_some_iff.1 hb
 have hlt2 : k < str.size := by
  have h : str.data.toList.length = str.size := Array.length_toList
  omega
 have e : (str[k]'hlt2) = b := by rw [← he]; rfl
 have hr : (Instr.index t (.string str) (.int kd (k : Int))).run c.P w' = .ok (.int .u8 (b.toNat : Int)) w' := by
  rw [run_index_string w' t str kd (k : Int) hu, dif_pos ⟨by omega, by omega⟩]
  simp only [Int.toNat_natCast, e]
 simp only [execOp, ho, VRep.p_eq (hs.ev hx), VRep.p_eq (hs.ev hy), Sem.run_bind, hr, Result.andThen_ok]
 rfl
end
/-- A contract of the library's that asks nothing of memory. -/
theorem Fn.ofCalls {P : Program} {f : FuncId} {xs : List Value} {y : Value} {args : List V} {v : V} (h : ∀ w, Calls P f xs.toArray w fun e w' => e = .returned y ∧ Below w.heap.size w w') (ha : ∀ w q g zs, VReps w q g args zs → zs = xs) (hv : ∀ w q g, VRep w q g v y) (hp : v.pure) : Fn P f args (fun v' => v' = v) := by
 intro w out g zs ho hz
 obtain rfl := ha _ _ _ _ hz
 refine (h w).mono ?_
 rintro e w' ⟨rfl, hb⟩
 exact ⟨v, y, rfl, rfl, hp, hv _ _ _, hb⟩
theorem reps_s1 {a : ByteArray} {w : World} {q : Nat → Prop} {g : Nat → Nat × Nat} {zs : List Value} (h : VReps w q g [.s a] zs) : zs = [.string a] := by
 obtain ⟨h1, h2⟩ := h
 match zs, h1, h2 with
 | [z], _, h2 => rw [VRep.p_eq (h2 0 _ z rfl rfl)]
theorem am_Digit (b : UInt8) : Fn Tryd.prog 46 [.d (.p (.int .u8 (b.toNat : Int)))] (fun v => v = .b (decide (48 ≤ b.toNat ∧ b.toNat ≤ 57))) := by
 by_cases h1 : 48 ≤ b.toNat
 ·by_cases h2 : b.toNat ≤ 57
  ·refine Fn.intro (n := 9) ⟨Tryd.func46, rfl, rfl, rfl, rfl⟩ (by simp [V.pure, V.has, V.hasL]) (by simp) fun w0 out => ?_
   refine AW.seq ?_
   refine AW.region ?_
   refine AL.rp rfl rfl (rp_assign rfl rfl) ?_
   refine AL.nil ?_
   try simp only [thenS, S.put, enum, List.nil_append, List.cons_append, List.append_nil, Nat.zero_add, Nat.reduceAdd]
   refine AW.seq ?_
   refine AW.region ?_
   refine AL.rp rfl rfl (rp_move rfl rfl) ?_
   (first | (refine AL.rp rfl rfl (rp_geqT rfl rfl rfl (by first | assumption | omega | (dsimp only; omega))) ?_) | (refine AL.rp rfl rfl (rp_geqF rfl rfl rfl (by first | assumption | omega | (dsimp only; omega))) ?_) | (refine AL.rp rfl rfl (rp_geq rfl rfl rfl) ?_))
   refine AL.rp rfl rfl (rp_move rfl rfl) ?_
   (first | (refine AL.noV rfl rfl rfl rfl ?_) | (refine AL.noU rfl ⟨_, rfl, rfl⟩ rfl ?_) | (refine AL.rpy rfl rfl rfl (rp_move rfl rfl) ?_))
   (first | (refine AL.noV rfl rfl rfl rfl ?_) | (refine AL.noU rfl ⟨_, rfl, rfl⟩ rfl ?_) | (refine AL.rpy rfl rfl rfl (rp_leqT rfl rfl rfl (by first | assumption | omega | (dsimp only; omega))) ?_) | (refine AL.rpy rfl rfl rfl (rp_leqF rfl rfl rfl (by first | assumption | omega | (dsimp only; omega))) ?_) | (refine AL.rpy rfl rfl rfl (rp_leq rfl rfl rfl) ?_))
   refine AL.rp rfl rfl (rp_pick rfl rfl rfl) ?_
   refine AL.rp rfl rfl (rp_assign rfl rfl) ?_
   refine AL.nil ?_
   try simp only [thenS, S.put]
   refine AW.ret ?_
   exact ⟨[_], ⟨rfl, trivial⟩, by simp [h1, h2, tupOf], by simp [tupOf, V.pure, V.has, V.hasL]⟩
  ·refine Fn.intro (n := 9) ⟨Tryd.func46, rfl, rfl, rfl, rfl⟩ (by simp [V.pure, V.has, V.hasL]) (by simp) fun w0 out => ?_
   refine AW.seq ?_
   refine AW.region ?_
   refine AL.rp rfl rfl (rp_assign rfl rfl) ?_
   refine AL.nil ?_
   try simp only [thenS, S.put, enum, List.nil_append, List.cons_append, List.append_nil, Nat.zero_add, Nat.reduceAdd]
   refine AW.seq ?_
   refine AW.region ?_
   refine AL.rp rfl rfl (rp_move rfl rfl) ?_
   (first | (refine AL.rp rfl rfl (rp_geqT rfl rfl rfl (by first | assumption | omega | (dsimp only; omega))) ?_) | (refine AL.rp rfl rfl (rp_geqF rfl rfl rfl (by first | assumption | omega | (dsimp only; omega))) ?_) | (refine AL.rp rfl rfl (rp_geq rfl rfl rfl) ?_))
   refine AL.rp rfl rfl (rp_move rfl rfl) ?_
   (first | (refine AL.noV rfl rfl rfl rfl ?_) | (refine AL.noU rfl ⟨_, rfl, rfl⟩ rfl ?_) | (refine AL.rpy rfl rfl rfl (rp_move rfl rfl) ?_))
   (first | (refine AL.noV rfl rfl rfl rfl ?_) | (refine AL.noU rfl ⟨_, rfl, rfl⟩ rfl ?_) | (refine AL.rpy rfl rfl rfl (rp_leqT rfl rfl rfl (by first | assumption | omega | (dsimp only; omega))) ?_) | (refine AL.rpy rfl rfl rfl (rp_leqF rfl rfl rfl (by first | assumption | omega | (dsimp only; omega))) ?_) | (refine AL.rpy rfl rfl rfl (rp_leq rfl rfl rfl) ?_))
   refine AL.rp rfl rfl (rp_pick rfl rfl rfl) ?_
   refine AL.rp rfl rfl (rp_assign rfl rfl) ?_
   refine AL.nil ?_
   try simp only [thenS, S.put]
   refine AW.ret ?_
   exact ⟨[_], ⟨rfl, trivial⟩, by simp [h1, h2, tupOf], by simp [tupOf, V.pure, V.has, V.hasL]⟩
 ·refine Fn.intro (n := 9) ⟨Tryd.func46, rfl, rfl, rfl, rfl⟩ (by simp [V.pure, V.has, V.hasL]) (by simp) fun w0 out => ?_
  refine AW.seq ?_
  refine AW.region ?_
  refine AL.rp rfl rfl (rp_assign rfl rfl) ?_
  refine AL.nil ?_
  try simp only [thenS, S.put, enum, List.nil_append, List.cons_append, List.append_nil, Nat.zero_add, Nat.reduceAdd]
  refine AW.seq ?_
  refine AW.region ?_
  refine AL.rp rfl rfl (rp_move rfl rfl) ?_
  (first | (refine AL.rp rfl rfl (rp_geqT rfl rfl rfl (by first | assumption | omega | (dsimp only; omega))) ?_) | (refine AL.rp rfl rfl (rp_geqF rfl rfl rfl (by first | assumption | omega | (dsimp only; omega))) ?_) | (refine AL.rp rfl rfl (rp_geq rfl rfl rfl) ?_))
  refine AL.rp rfl rfl (rp_move rfl rfl) ?_
  (first | (refine AL.noV rfl rfl rfl rfl ?_) | (refine AL.noU rfl ⟨_, rfl, rfl⟩ rfl ?_) | (refine AL.rpy rfl rfl rfl (rp_move rfl rfl) ?_))
  (first | (refine AL.noV rfl rfl rfl rfl ?_) | (refine AL.noU rfl ⟨_, rfl, rfl⟩ rfl ?_) | (refine AL.rpy rfl rfl rfl (rp_leqT rfl rfl rfl (by first | assumption | omega | (dsimp only; omega))) ?_) | (refine AL.rpy rfl rfl rfl (rp_leqF rfl rfl rfl (by first | assumption | omega | (dsimp only; omega))) ?_) | (refine AL.rpy rfl rfl rfl (rp_leq rfl rfl rfl) ?_))
  refine AL.rp rfl rfl (rp_pick rfl rfl rfl) ?_
  refine AL.rp rfl rfl (rp_assign rfl rfl) ?_
  refine AL.nil ?_
  try simp only [thenS, S.put]
  refine AW.ret ?_
  exact ⟨[_], ⟨rfl, trivial⟩, by simp [h1, tupOf], by simp [tupOf, V.pure, V.has, V.hasL]⟩
end Go.Proofs.YtlgnjehfojogmaaDoor
namespace Go.Proofs.YtlgnjehfojogmaaDoor
open Go.Shelf Go.RowKit Go.Sort Go.Lib
def lays137_ren : Go.Shelf.Ren := ⟨fun | 137 => 39 | 217 => 66 | 266 => 83 | n => n, fun | 9 => 9 | 5 => 5 | 3 => 3 | n => n, fun | n => n⟩
theorem lays137 : Go.Proofs.Lays.n137 Tryd.prog lays137_ren := {
  mixed := by kernel_rfl
  f137 := Tryd.func39.trans (congrArg some (by kernel_rfl))
  f217 := Tryd.func66.trans (congrArg some (by kernel_rfl))
  f266 := Tryd.func83.trans (congrArg some (by kernel_rfl))
  t3 := Tryd.underlying3
  a3 := Tryd.isAgg3
  z3 := Tryd.sizeOf3
  v3 := Tryd.zeroValue3
  t5 := Tryd.underlying5
  a5 := Tryd.isAgg5
  z5 := Tryd.sizeOf5
  v5 := Tryd.zeroValue5
  t9 := Tryd.underlying9
  a9 := Tryd.isAgg9
  z9 := Tryd.sizeOf9
  v9 := Tryd.zeroValue9 }
theorem indexByte_call (s : ByteArray) (c : Int) (w : World) :
    Calls Tryd.prog 39 #[.string s, .int .u8 c] w fun e w' => e = .returned (.int .i64 (Lib.indexByte s.data.toList c.toNat.toUInt8)) ∧ w' = w := Any.strings_IndexByte lays137 s c w
def lays145_ren : Go.Shelf.Ren := ⟨fun | 145 => 17 | 220 => 40 | 219 => 67 | 217 => 66 | 225 => 84 | 224 => 85 | 267 => 86 | 266 => 83 | 314 => 108 | n => n, fun | 9 => 9 | 4 => 4 | 59 => 43 | 3 => 3 | 5 => 5 | 46 => 135 | 146 => 159 | 51 => 116 | n => n, fun | 1 => 1 | n => n⟩
theorem lays145 : Go.Proofs.Lays.n145 Tryd.prog lays145_ren := {
  mixed := by kernel_rfl
  f145 := Tryd.func17.trans (congrArg some (by kernel_rfl))
  f217 := Tryd.func66.trans (congrArg some (by kernel_rfl))
  f219 := Tryd.func67.trans (congrArg some (by kernel_rfl))
  f220 := Tryd.func40.trans (congrArg some (by kernel_rfl))
  f224 := Tryd.func85.trans (congrArg some (by kernel_rfl))
  f225 := Tryd.func84.trans (congrArg some (by kernel_rfl))
  f266 := Tryd.func83.trans (congrArg some (by kernel_rfl))
  f267 := Tryd.func86.trans (congrArg some (by kernel_rfl))
  f314 := Tryd.func108.trans (congrArg some (by kernel_rfl))
  t3 := Tryd.underlying3
  a3 := Tryd.isAgg3
  z3 := Tryd.sizeOf3
  v3 := Tryd.zeroValue3
  t4 := Tryd.underlying4
  a4 := Tryd.isAgg4
  z4 := Tryd.sizeOf4
  v4 := Tryd.zeroValue4
  t5 := Tryd.underlying5
  a5 := Tryd.isAgg5
  z5 := Tryd.sizeOf5
  v5 := Tryd.zeroValue5
  t9 := Tryd.underlying9
  a9 := Tryd.isAgg9
  z9 := Tryd.sizeOf9
  v9 := Tryd.zeroValue9
  t46 := Tryd.underlying135
  a46 := Tryd.isAgg135
  z46 := Tryd.sizeOf135
  v46 := Tryd.zeroValue135
  t51 := Tryd.underlying116
  a51 := Tryd.isAgg116
  z51 := Tryd.sizeOf116
  v51 := Tryd.zeroValue116
  t59 := Tryd.underlying43
  a59 := Tryd.isAgg43
  z59 := Tryd.sizeOf43
  v59 := Tryd.zeroValue43
  t146 := Tryd.underlying159
  a146 := Tryd.isAgg159
  z146 := Tryd.sizeOf159
  v146 := Tryd.zeroValue159
  g1 := by kernel_rfl }
theorem cut_call (s sep : ByteArray) (m : Int) (w : World) (hs : s.size < 4294967281) (hm : w.cell? ⟨1, 0, none⟩ = some (.int .i64 m)) :
    Calls Tryd.prog 17 #[.string s, .string sep] w fun e w' => e = .returned (.tuple #[.string ⟨(Lib.cut s.data.toList sep.data.toList).1.toArray⟩, .string ⟨(Lib.cut s.data.toList sep.data.toList).2.1.toArray⟩, .bool (Lib.cut s.data.toList sep.data.toList).2.2]) ∧ ∃ n, w' = w.drewN n := Any.strings_Cut lays145 s sep m w hs hm
def lays102_ren : Go.Shelf.Ren := ⟨fun | 102 => 19 | 209 => 43 | 207 => 73 | n => n, fun | 9 => 9 | 4 => 4 | 3 => 3 | n => n, fun | n => n⟩
theorem lays102 : Go.Proofs.Lays.n102 Tryd.prog lays102_ren := {
  mixed := by kernel_rfl
  f102 := Tryd.func19.trans (congrArg some (by kernel_rfl))
  f207 := Tryd.func73.trans (congrArg some (by kernel_rfl))
  f209 := Tryd.func43.trans (congrArg some (by kernel_rfl))
  t3 := Tryd.underlying3
  a3 := Tryd.isAgg3
  z3 := Tryd.sizeOf3
  v3 := Tryd.zeroValue3
  t4 := Tryd.underlying4
  a4 := Tryd.isAgg4
  z4 := Tryd.sizeOf4
  v4 := Tryd.zeroValue4
  t9 := Tryd.underlying9
  a9 := Tryd.isAgg9
  z9 := Tryd.sizeOf9
  v9 := Tryd.zeroValue9 }
theorem trimSuffix_call (s p : ByteArray) (w : World) (hs : s.size ≤ 9223372036854775807) :
    Calls Tryd.prog 19 #[.string s, .string p] w fun e w' => e = .returned (.string ⟨(Lib.trimSuffix s.data.toList p.data.toList).toArray⟩) ∧ w' = w := Any.strings_TrimSuffix lays102 s p w hs
def laysC172_ren : Go.Shelf.Ren := ⟨fun | 172 => 18 | 244 => 41 | 245 => 42 | 247 => 68 | 279 => 69 | 280 => 70 | 281 => 71 | 282 => 72 | 287 => 87 | 316 => 88 | 171 => 30 | 205 => 89 | 321 => 109 | 322 => 110 | 243 => 59 | 246 => 81 | 283 => 103 | 284 => 104 | 285 => 105 | 286 => 106 | 129 => 120 | 317 => 119 | 318 => 121 | 319 => 122 | 320 => 123 | 337 => 132 | 338 => 133 | n => n, fun | 9 => 9 | 3 => 3 | 75 => 46 | 76 => 47 | 4 => 4 | 5 => 5 | 167 => 105 | 37 => 68 | 0 => 0 | 85 => 106 | 2 => 2 | 168 => 108 | 53 => 136 | 175 => 137 | 46 => 135 | 210 => 141 | 127 => 101 | 145 => 164 | 143 => 162 | 21 => 21 | 171 => 154 | 173 => 157 | 212 => 171 | 51 => 116 | 20 => 20 | 213 => 172 | 232 => 189 | 233 => 190 | 80 => 78 | n => n, fun | 15 => 2 | 16 => 3 | 17 => 4 | 18 => 7 | 19 => 8 | n => n⟩
theorem laysC172 : Go.Proofs.LaysC.n172 Tryd.prog laysC172_ren := {
  mixed := by kernel_rfl
  f129 := Tryd.func120.trans (congrArg some (by kernel_rfl))
  f171 := Tryd.func30.trans (congrArg some (by kernel_rfl))
  f172 := Tryd.func18.trans (congrArg some (by kernel_rfl))
  f205 := Tryd.func89.trans (congrArg some (by kernel_rfl))
  f243 := Tryd.func59.trans (congrArg some (by kernel_rfl))
  f244 := Tryd.func41.trans (congrArg some (by kernel_rfl))
  f245 := Tryd.func42.trans (congrArg some (by kernel_rfl))
  f246 := Tryd.func81.trans (congrArg some (by kernel_rfl))
  f247 := Tryd.func68.trans (congrArg some (by kernel_rfl))
  f279 := Tryd.func69.trans (congrArg some (by kernel_rfl))
  f280 := Tryd.func70.trans (congrArg some (by kernel_rfl))
  f281 := Tryd.func71.trans (congrArg some (by kernel_rfl))
  f282 := Tryd.func72.trans (congrArg some (by kernel_rfl))
  f283 := Tryd.func103.trans (congrArg some (by kernel_rfl))
  f284 := Tryd.func104.trans (congrArg some (by kernel_rfl))
  f285 := Tryd.func105.trans (congrArg some (by kernel_rfl))
  f286 := Tryd.func106.trans (congrArg some (by kernel_rfl))
  f287 := Tryd.func87.trans (congrArg some (by kernel_rfl))
  f316 := Tryd.func88.trans (congrArg some (by kernel_rfl))
  f317 := Tryd.func119.trans (congrArg some (by kernel_rfl))
  f318 := Tryd.func121.trans (congrArg some (by kernel_rfl))
  f319 := Tryd.func122.trans (congrArg some (by kernel_rfl))
  f320 := Tryd.func123.trans (congrArg some (by kernel_rfl))
  f321 := Tryd.func109.trans (congrArg some (by kernel_rfl))
  f322 := Tryd.func110.trans (congrArg some (by kernel_rfl))
  f337 := Tryd.func132.trans (congrArg some (by kernel_rfl))
  f338 := Tryd.func133.trans (congrArg some (by kernel_rfl))
  t0 := Tryd.underlying0
  a0 := Tryd.isAgg0
  z0 := Tryd.sizeOf0
  v0 := Tryd.zeroValue0
  t2 := Tryd.underlying2
  a2 := Tryd.isAgg2
  z2 := Tryd.sizeOf2
  v2 := Tryd.zeroValue2
  t3 := Tryd.underlying3
  a3 := Tryd.isAgg3
  z3 := Tryd.sizeOf3
  v3 := Tryd.zeroValue3
  t4 := Tryd.underlying4
  a4 := Tryd.isAgg4
  z4 := Tryd.sizeOf4
  v4 := Tryd.zeroValue4
  t5 := Tryd.underlying5
  a5 := Tryd.isAgg5
  z5 := Tryd.sizeOf5
  v5 := Tryd.zeroValue5
  t9 := Tryd.underlying9
  a9 := Tryd.isAgg9
  z9 := Tryd.sizeOf9
  v9 := Tryd.zeroValue9
  t20 := Tryd.underlying20
  a20 := Tryd.isAgg20
  z20 := Tryd.sizeOf20
  v20 := Tryd.zeroValue20
  t21 := Tryd.underlying21
  a21 := Tryd.isAgg21
  z21 := Tryd.sizeOf21
  v21 := Tryd.zeroValue21
  t37 := Tryd.underlying68
  a37 := Tryd.isAgg68
  z37 := Tryd.sizeOf68
  v37 := Tryd.zeroValue68
  t46 := Tryd.underlying135
  a46 := Tryd.isAgg135
  z46 := Tryd.sizeOf135
  v46 := Tryd.zeroValue135
  t51 := Tryd.underlying116
  a51 := Tryd.isAgg116
  z51 := Tryd.sizeOf116
  v51 := Tryd.zeroValue116
  t53 := Tryd.underlying136
  a53 := Tryd.isAgg136
  z53 := Tryd.sizeOf136
  v53 := Tryd.zeroValue136
  t75 := Tryd.underlying46
  a75 := Tryd.isAgg46
  z75 := Tryd.sizeOf46
  v75 := Tryd.zeroValue46
  t76 := Tryd.underlying47
  a76 := Tryd.isAgg47
  z76 := Tryd.sizeOf47
  v76 := Tryd.zeroValue47
  t85 := Tryd.underlying106
  a85 := Tryd.isAgg106
  z85 := Tryd.sizeOf106
  v85 := Tryd.zeroValue106
  t127 := Tryd.underlying101
  a127 := Tryd.isAgg101
  z127 := Tryd.sizeOf101
  v127 := Tryd.zeroValue101
  t143 := Tryd.underlying162
  a143 := Tryd.isAgg162
  z143 := Tryd.sizeOf162
  v143 := Tryd.zeroValue162
  t145 := Tryd.underlying164
  a145 := Tryd.isAgg164
  z145 := Tryd.sizeOf164
  v145 := Tryd.zeroValue164
  t167 := Tryd.underlying105
  a167 := Tryd.isAgg105
  z167 := Tryd.sizeOf105
  v167 := Tryd.zeroValue105
  t168 := Tryd.underlying108
  a168 := Tryd.isAgg108
  z168 := Tryd.sizeOf108
  v168 := Tryd.zeroValue108
  t171 := Tryd.underlying154
  a171 := Tryd.isAgg154
  z171 := Tryd.sizeOf154
  v171 := Tryd.zeroValue154
  t173 := Tryd.underlying157
  a173 := Tryd.isAgg157
  z173 := Tryd.sizeOf157
  v173 := Tryd.zeroValue157
  t175 := Tryd.underlying137
  a175 := Tryd.isAgg137
  z175 := Tryd.sizeOf137
  v175 := Tryd.zeroValue137
  t210 := Tryd.underlying141
  a210 := Tryd.isAgg141
  z210 := Tryd.sizeOf141
  v210 := Tryd.zeroValue141
  t212 := Tryd.underlying171
  a212 := Tryd.isAgg171
  z212 := Tryd.sizeOf171
  v212 := Tryd.zeroValue171
  t213 := Tryd.underlying172
  a213 := Tryd.isAgg172
  z213 := Tryd.sizeOf172
  t232 := Tryd.underlying189
  a232 := Tryd.isAgg189
  z232 := Tryd.sizeOf189
  v232 := Tryd.zeroValue189
  t233 := Tryd.underlying190
  a233 := Tryd.isAgg190
  z233 := Tryd.sizeOf190
  v233 := Tryd.zeroValue190
  g15 := by kernel_rfl
  g16 := by kernel_rfl
  g17 := by kernel_rfl
  g18 := by kernel_rfl
  g19 := by kernel_rfl
  t80 := Tryd.underlying78
  a80 := Tryd.isAgg78
  z80 := Tryd.sizeOf78
  v80 := Tryd.zeroValue78
  i0 := by kernel_rfl
  i2 := by kernel_rfl
  i3 := by kernel_rfl
  i4 := by kernel_rfl
  i5 := by kernel_rfl
  i9 := by kernel_rfl
  i20 := by kernel_rfl
  i21 := by kernel_rfl
  i37 := by kernel_rfl
  i46 := by kernel_rfl
  i51 := by kernel_rfl
  i53 := by kernel_rfl
  i75 := by kernel_rfl
  i76 := by kernel_rfl
  i80 := by kernel_rfl
  i85 := by kernel_rfl
  i127 := by kernel_rfl
  i143 := by kernel_rfl
  i145 := by kernel_rfl
  i167 := by kernel_rfl
  i168 := by kernel_rfl
  i171 := by kernel_rfl
  i173 := by kernel_rfl
  i175 := by kernel_rfl
  i210 := by kernel_rfl
  i212 := by kernel_rfl
  i232 := by kernel_rfl
  i233 := by kernel_rfl
  m15 := by kernel_rfl
  m16 := by kernel_rfl
  m17 := by kernel_rfl
  m18 := by kernel_rfl
  m19 := by kernel_rfl
  c0 := by kernel_rfl
  c2 := by kernel_rfl
  c3 := by kernel_rfl
  c4 := by kernel_rfl
  c5 := by kernel_rfl
  c9 := by kernel_rfl
  c20 := by kernel_rfl
  c21 := by kernel_rfl
  c37 := by kernel_rfl
  c46 := by kernel_rfl
  c51 := by kernel_rfl
  c53 := by kernel_rfl
  c75 := by kernel_rfl
  c76 := by kernel_rfl
  c80 := by kernel_rfl
  c85 := by kernel_rfl
  c127 := by kernel_rfl
  c143 := by kernel_rfl
  c145 := by kernel_rfl
  c167 := by kernel_rfl
  c168 := by kernel_rfl
  c171 := by kernel_rfl
  c173 := by kernel_rfl
  c175 := by kernel_rfl
  c210 := by kernel_rfl
  c212 := by kernel_rfl
  c213 := by kernel_rfl
  c232 := by kernel_rfl
  c233 := by kernel_rfl }
theorem atoi_ok (s : ByteArray) (hmax : s.size ≤ 9223372036854775806) (v : Int) (h : Lib.atoiAll s.data.toList = .ok v) (w : World) :
    Calls Tryd.prog 18 #[.string s] w fun e w' => e = .returned (.tuple #[.int .i64 v, .nilIface]) ∧ (w' = w ∨ ∃ t, w' = Lib.bytesWorld w 5 t) := Any.strconv_Atoi_ok laysC172 s hmax v h w
theorem atoi_syntax (s : ByteArray) (hlim : s.size ≤ 281474976710656) (h : Lib.atoiAll s.data.toList = .«syntax») (tp : TypeId) (p : Value) (w : World) (hvar : w.var? Tryd.prog "strconv.ErrSyntax" = some #[.iface tp p]) :
    Calls Tryd.prog 18 #[.string s] w fun e w' => ∃ N, e = .returned (.tuple #[.int .i64 0, .iface 108 (.pointer (some ⟨N, 0, none⟩))]) ∧ w.heap.size ≤ N ∧ w'.heap[N]? = some (.cells #[.string ⟨#[65, 116, 111, 105]⟩, .string s, .iface tp p] 141 (0, 0)) ∧ Below w.heap.size w w' := Any.strconv_Atoi_syntax_var laysC172 s hlim h tp p w hvar
theorem atoi_range (s : ByteArray) (hlim : s.size ≤ 281474976710656) (h : Lib.atoiAll s.data.toList = .range) (tp : TypeId) (p : Value) (w : World) (hvar : w.var? Tryd.prog "strconv.ErrRange" = some #[.iface tp p]) :
    Calls Tryd.prog 18 #[.string s] w fun e w' => ∃ N, e = .returned (.tuple #[.int .i64 (Lib.atoiSat s.data.toList), .iface 108 (.pointer (some ⟨N, 0, none⟩))]) ∧ w.heap.size ≤ N ∧ w'.heap[N]? = some (.cells #[.string ⟨#[65, 116, 111, 105]⟩, .string s, .iface tp p] 141 (0, 0)) ∧ Below w.heap.size w w' := Any.strconv_Atoi_range_var laysC172 s hlim h tp p w hvar
end Go.Proofs.YtlgnjehfojogmaaDoor
namespace Go.Proofs.YtlgnjehfojogmaaDoor
open Go.RowKit
set_option linter.unusedSimpArgs false
set_option linter.unusedVariables false
set_option maxRecDepth 100000

/-- A text's first line, with its line feed; what is behind it. -/
def ln1 : List UInt8 → List UInt8
  | [] => []
  | b :: l => if b = 10 then [b] else b :: ln1 l
def ln2 : List UInt8 → List UInt8
  | [] => []
  | b :: l => if b = 10 then l else ln2 l
theorem ln_app : ∀ l : List UInt8, ln1 l ++ ln2 l = l
  | [] => rfl
  | b :: l => by
    unfold ln1 ln2
    split
    · rfl
    · rw [List.cons_append, ln_app l]
theorem ln2_lt : ∀ l : List UInt8, l ≠ [] → (ln2 l).length < l.length
  | [], h => absurd rfl h
  | b :: l, _ => by
    unfold ln2
    split
    · simp
    · cases l with
      | nil => simp [ln2]
      | cons d l => have := ln2_lt (d :: l) (by simp); simp at this ⊢; omega
theorem ln_index : ∀ l : List UInt8, (Lib.indexByte l 10 = -1 ∧ ln1 l = l ∧ ln2 l = []) ∨ ∃ k : Nat, Lib.indexByte l 10 = k ∧ k < l.length ∧ ln1 l = l.take (k + 1) ∧ ln2 l = l.drop (k + 1)
  | [] => .inl ⟨rfl, rfl, rfl⟩
  | b :: l => by
    by_cases hb : b = 10
    · subst hb
      exact .inr ⟨0, by simp [Lib.indexByte], by simp, by simp [ln1], by simp [ln2]⟩
    · have h1 : (b == 10) = false := by simpa using hb
      rcases ln_index l with ⟨h2, h3, h4⟩ | ⟨k, h2, h3, h4, h5⟩
      · exact .inl ⟨by simp [Lib.indexByte, h1, h2], by simp [ln1, hb, h3], by simp [ln2, hb, h4]⟩
      · refine .inr ⟨k + 1, ?_, by simp; omega, by simp [ln1, hb, h4], by simp [ln2, hb, h5]⟩
        have : ¬ ((k : Int) = -1) := by omega
        simp [Lib.indexByte, h1, h2, this]
def bs (l : List UInt8) : ByteArray := ⟨l.toArray⟩
theorem bs_size (l : List UInt8) : (bs l).size = l.length := by simp [bs, ByteArray.size]
theorem bs_list (l : List UInt8) : (bs l).data.toList = l := by simp [bs]
theorem bs_of (b : ByteArray) : bs b.data.toList = b := by cases b; simp [bs]
theorem bs_ext {a b : ByteArray} (h : a.data.toList = b.data.toList) : a = b := by
  cases a; cases b
  simp only [ByteArray.mk.injEq]
  exact Array.ext' h
theorem bs_take (l : List UInt8) (k : Nat) : (bs l).extract 0 k = bs (l.take k) := bs_ext (by rw [Lib.extract_data, bs_list, bs_list]; simp)
theorem bs_drop (l : List UInt8) (k : Nat) : (bs l).extract k (bs l).size = bs (l.drop k) := bs_ext (by rw [Lib.extract_to_end, bs_list, bs_list])
section
variable {c : Cx} {s : S} {o : Oper}
theorem rp_slice_strh {t : TypeId} {x y : Operand} {l : List UInt8} {k : Nat} {n' : Int} (hu : c.P.underlying t = some .string) (ho : o.op = .slice t x none (some y) none) (hx : s.ev x = some (.s (bs l))) (hy : s.ev y = some (.i n')) (hk : n' = (k : Int)) (h : k ≤ l.length) : RP c o s (.s (bs (l.take k))) := fun g a w hs => by
  refine ⟨.string (bs (l.take k)), .d _ _ (.p _), fun w' => ?_⟩
  subst hk
  have hr := run_slice_string_h (P := c.P) w' t (bs l) hu .i64 (k : Int) (by omega) (by rw [bs_size]; omega)
  rw [Int.toNat_natCast, bs_take] at hr
  simp only [execOp, ho, VRep.p_eq (hs.ev hx), VRep.p_eq (hs.ev hy), Option.map_some, Option.map_none, Sem.run_bind, run_sliceAt_string _ t _ _ _ _ hu, hr, Result.andThen_ok]
  rfl
theorem rp_slice_strl {t : TypeId} {x y : Operand} {l : List UInt8} {k : Nat} {n' : Int} (hu : c.P.underlying t = some .string) (ho : o.op = .slice t x (some y) none none) (hx : s.ev x = some (.s (bs l))) (hy : s.ev y = some (.i n')) (hk : n' = (k : Int)) (h : k ≤ l.length) : RP c o s (.s (bs (l.drop k))) := fun g a w hs => by
  refine ⟨.string (bs (l.drop k)), .d _ _ (.p _), fun w' => ?_⟩
  subst hk
  have hr := run_slice_string_l (P := c.P) w' t (bs l) hu .i64 (k : Int) (by omega) (by rw [bs_size]; omega)
  rw [Int.toNat_natCast, bs_drop] at hr
  simp only [execOp, ho, VRep.p_eq (hs.ev hx), VRep.p_eq (hs.ev hy), Option.map_some, Option.map_none, Sem.run_bind, run_sliceAt_string _ t _ _ _ _ hu, hr, Result.andThen_ok]
  rfl
end
end Go.Proofs.YtlgnjehfojogmaaDoor
namespace Go.Proofs.YtlgnjehfojogmaaDoor
open Go.RowKit
set_option linter.unusedSimpArgs false
set_option linter.unusedVariables false

section
variable {c : Cx} {s : S} {o : Oper}
/-- One operation that changes nothing, nor where the objects lie. -/
def StepK (c : Cx) (o : Oper) (s : S) (N : S → Prop) : Prop := ∀ g a w, Sim c g s a w → ∀ (K : Act → World → Prop) (Q : Exit → Act → World → Prop),
  (∀ s' a' w', N s' → Sim c g s' a' w' → Below w.heap.size w w' → K a' w') → o.wp c.P a w K Q
theorem RD.stepK {v : V} {N : S → Prop} (h : RD c o s v) (hd : dok s o = true) (hN : N (s.put o.dst v)) : StepK c o s N := by
  intro g a w hs K Q hK
  obtain ⟨x, h1, h2⟩ := h g a w hs
  unfold Oper.wp
  rw [h2 w (Below.refl _ _)]
  exact hK _ _ _ hN (hs.put o.dst (dok_spec hd) h1) (Below.refl _ _)
/-- A read of object r, if that is old. -/
def RO (c : Cx) (o : Oper) (s : S) (r : Nat) (v : V) : Prop := ∀ W g a w, Sim c g s a w → Below W.heap.size W w → (g r).1 < W.heap.size → ∃ x, VRep w (qt c s.H g) g v x ∧ ∀ w', Below W.heap.size W w' → (execOp a.eval o).run c.P w' = .ok (.value x) w'
variable {Q : Exit → S → Prop} {L : List Oper} {ops : Array Oper} {need : Nat → Bool} {l : List (Nat × Bool)} {i : Nat} {O : List Nat}
def AO (O : List Nat) (c : Cx) (ops : Array Oper) (Q : Exit → S → Prop) (need : Nat → Bool) (l : List (Nat × Bool)) (s : S) : Prop := ∀ W g a w, Sim c g s a w → Below W.heap.size W w → (∀ r ∈ O, (g r).1 < W.heap.size) → ASeq c.P ops (QQ c Q) (Below W.heap.size W) need l a w
theorem AO.stepK (hi : L[i]? = some o) (hg : o.guard = none) (h : StepK c o s (AO O c L.toArray Q need l)) : AO O c L.toArray Q need ((i, false) :: l) s := fun W g a w hs hb hO =>
  wpOp_of (by simpa using hi) hg (h g a w hs _ _ fun s' a' w' h1 h2 h3 => ⟨fun _ => hb.trans (h3.mono hb.size), h1 W g a' w' h2 (hb.trans (h3.mono hb.size)) hO⟩)
theorem AO.stepKy {j : Nat} {b : Bool} (hi : L[i]? = some o) (hg : o.guard = some (j, b)) (hy : yld L.toArray s j = some b) (h : StepK c o s (AO O c L.toArray Q need l)) : AO O c L.toArray Q need ((i, false) :: l) s := fun W g a w hs hb hO =>
  wpOp_ofy (by simpa using hi) (by simp [Region.wanted, hg, yld_spec hy hs]) (h g a w hs _ _ fun s' a' w' h1 h2 h3 => ⟨fun _ => hb.trans (h3.mono hb.size), h1 W g a' w' h2 (hb.trans (h3.mono hb.size)) hO⟩)
theorem AO.call {post : V → Prop} (hi : L[i]? = some o) (hg : o.guard = none) (h : StepK c o s (fun s' => ∃ v, post v ∧ v.pure ∧ s' = s.put o.dst v)) (hN : ∀ v, post v → v.pure → AO O c L.toArray Q need l (s.put o.dst v)) : AO O c L.toArray Q need ((i, false) :: l) s :=
  AO.stepK hi hg fun g a w hs K Q' hK => h g a w hs K Q' fun s' a' w' ⟨v, h1, h2, e⟩ h3 h4 => hK s' a' w' (by subst e; exact hN v h1 h2) h3 h4
theorem AO.cally {post : V → Prop} {j : Nat} {b : Bool} (hi : L[i]? = some o) (hg : o.guard = some (j, b)) (hy : yld L.toArray s j = some b) (h : StepK c o s (fun s' => ∃ v, post v ∧ v.pure ∧ s' = s.put o.dst v)) (hN : ∀ v, post v → v.pure → AO O c L.toArray Q need l (s.put o.dst v)) : AO O c L.toArray Q need ((i, false) :: l) s :=
  AO.stepKy hi hg hy fun g a w hs K Q' hK => h g a w hs K Q' fun s' a' w' ⟨v, h1, h2, e⟩ h3 h4 => hK s' a' w' (by subst e; exact hN v h1 h2) h3 h4
theorem AO.rd1 {v : V} (hi : L[i]? = some o) (hg : o.guard = none) (hd : dok s o = true) (h : RD c o s v) (hN : AO O c L.toArray Q need l (s.put o.dst v)) : AO O c L.toArray Q need ((i, false) :: l) s := AO.stepK hi hg (h.stepK hd hN)
theorem AO.rp1 {v : V} (hi : L[i]? = some o) (hg : o.guard = none) (hd : dok s o = true) (h : RP c o s v) (hN : AO O c L.toArray Q need l (s.put o.dst v)) : AO O c L.toArray Q need ((i, false) :: l) s := AO.rd1 hi hg hd h.rd hN
theorem AO.rp {v : V} (hi : L[i]? = some o) (hg : o.guard = none) (hd : dok s o = true) (hp : noP Q) (h : RP c o s v) (hN : AO O c L.toArray Q need l (s.put o.dst v)) : AO O c L.toArray Q need ((i, true) :: l) s := fun W g a w hs hb hO => by
  obtain ⟨x, h1, h2⟩ := h g a w hs
  exact ⟨o, x, by simpa using hi, .inl ⟨by simp [Region.wanted, hg], fun w' _ => h2 w'⟩, hb, QQ_noP hp _ _, hN W g _ w (hs.put o.dst (dok_spec hd) h1) hb hO⟩
theorem AO.rpy {v : V} {j : Nat} {b : Bool} (hi : L[i]? = some o) (hg : o.guard = some (j, b)) (hy : yld L.toArray s j = some b) (hd : dok s o = true) (hp : noP Q) (h : RP c o s v) (hN : AO O c L.toArray Q need l (s.put o.dst v)) : AO O c L.toArray Q need ((i, true) :: l) s := fun W g a w hs hb hO => by
  obtain ⟨x, h1, h2⟩ := h g a w hs
  exact ⟨o, x, by simpa using hi, .inl ⟨by simp [Region.wanted, hg, yld_spec hy hs], fun w' _ => h2 w'⟩, hb, QQ_noP hp _ _, hN W g _ w (hs.put o.dst (dok_spec hd) h1) hb hO⟩
theorem AO.rd {v : V} {r : Nat} (hi : L[i]? = some o) (hg : o.guard = none) (hd : dok s o = true) (hp : noP Q) (h : RO c o s r v) (hr : r ∈ O) (hN : AO O c L.toArray Q need l (s.put o.dst v)) : AO O c L.toArray Q need ((i, true) :: l) s := fun W g a w hs hb hO => by
  obtain ⟨x, h1, h2⟩ := h W g a w hs hb (hO r hr)
  exact ⟨o, x, by simpa using hi, .inl ⟨by simp [Region.wanted, hg], h2⟩, hb, QQ_noP hp _ _, hN W g _ w (hs.put o.dst (dok_spec hd) h1) hb hO⟩
theorem AO.rdy {v : V} {r : Nat} {j : Nat} {b : Bool} (hi : L[i]? = some o) (hg : o.guard = some (j, b)) (hy : yld L.toArray s j = some b) (hd : dok s o = true) (hp : noP Q) (h : RO c o s r v) (hr : r ∈ O) (hN : AO O c L.toArray Q need l (s.put o.dst v)) : AO O c L.toArray Q need ((i, true) :: l) s := fun W g a w hs hb hO => by
  obtain ⟨x, h1, h2⟩ := h W g a w hs hb (hO r hr)
  exact ⟨o, x, by simpa using hi, .inl ⟨by simp [Region.wanted, hg, yld_spec hy hs], h2⟩, hb, QQ_noP hp _ _, hN W g _ w (hs.put o.dst (dok_spec hd) h1) hb hO⟩
theorem AO.nil (h : Q .normal s) : AO O c L.toArray Q need [] s := fun W g a w hs _ _ => ⟨g, s, h, hs⟩
/-- An operation that is not wanted. -/
theorem AO.skipT (hi : L[i]? = some o) (hw : ∀ g a w, Sim c g s a w → Region.wanted o (yielded L.toArray a.tmps) = false) (hd : dok s o = true) (hp : noP Q) (hN : AO O c L.toArray Q need l (s.put o.dst (.d (.p undef)))) : AO O c L.toArray Q need ((i, true) :: l) s := fun W g a w hs hb hO =>
  ⟨o, undef, by simpa using hi, .inr ⟨hw g a w hs, rfl⟩, hb, QQ_noP hp _ _, hN W g _ w (hs.put o.dst (dok_spec hd) (.d _ _ (.p _))) hb hO⟩
theorem not_wanted {j : Nat} {b b' : Bool} (hg : o.guard = some (j, b)) (hy : yld L.toArray s j = some b') (hb' : (b' == b) = false) : ∀ g a w, Sim c g s a w → Region.wanted o (yielded L.toArray a.tmps) = false := fun g a w hs => by
  simp only [Region.wanted, hg, yld_spec hy hs]; simpa using hb'
theorem not_wantedU {j : Nat} {b : Bool} (hg : o.guard = some (j, b)) (hy : und L.toArray s j) : ∀ g a w, Sim c g s a w → Region.wanted o (yielded L.toArray a.tmps) = false := fun g a w hs => by
  simp only [Region.wanted, hg, und_spec hy hs]; simp
theorem AO.noV {j : Nat} {b b' : Bool} (hi : L[i]? = some o) (hg : o.guard = some (j, b)) (hy : yld L.toArray s j = some b') (hb' : (b' == b) = false) (hd : dok s o = true) (hp : noP Q) (hN : AO O c L.toArray Q need l (s.put o.dst (.d (.p undef)))) : AO O c L.toArray Q need ((i, true) :: l) s := AO.skipT hi (not_wanted hg hy hb') hd hp hN
theorem AO.noU {j : Nat} {b : Bool} (hi : L[i]? = some o) (hg : o.guard = some (j, b)) (hy : und L.toArray s j) (hd : dok s o = true) (hp : noP Q) (hN : AO O c L.toArray Q need l (s.put o.dst (.d (.p undef)))) : AO O c L.toArray Q need ((i, true) :: l) s := AO.skipT hi (not_wantedU hg hy) hd hp hN
end
end Go.Proofs.YtlgnjehfojogmaaDoor
namespace Go.Proofs.YtlgnjehfojogmaaDoor
open Go.RowKit
set_option linter.unusedSimpArgs false
set_option linter.unusedVariables false

section
variable {P : Program} {ops : Array Oper} {Q : Exit → Act → World → Prop} {md : Region.Mode} {T : World → Prop} {need : Nat → Bool}
def ASeq2 (P : Program) (ops : Array Oper) (Q : Exit → Act → World → Prop) (T : World → Prop) (need : Nat → Bool) (r1 r2 : List (Nat × Bool)) : List Nat → Act → World → Prop
  | [], a, w => ASeq P ops Q T need r1 a w ∧ ASeq P ops Q T need r2 a w
  | i :: r, a, w => ∃ oi x, ops[i]? = some oi ∧ YieldsIf P ops T oi x a ∧ T w ∧ (∀ c a w, Q (.panic c) (a.put oi.dst x) w → Q (.panic c) a w) ∧ ASeq2 P ops Q T need r1 r2 r (a.put oi.dst x) w
end
section
variable {c : Cx} {s : S} {Q : Exit → S → Prop} {ops : Array Oper} {L : List Oper} {need : Nat → Bool} {r1 r2 : List (Nat × Bool)} {l : List Nat} {i : Nat} {o : Oper}
/-- A list without what is shadowed. -/
def ddL {α : Type} : List Nat → List (Nat × α) → List (Nat × α)
  | _, [] => []
  | seen, (k, v) :: l => if seen.contains k then ddL seen l else (k, v) :: ddL (k :: seen) l
theorem ddL_get {α : Type} : ∀ (l : List (Nat × α)) (seen : List Nat) (i : Nat) (v : α), fnd (ddL seen l) i = some v → i ∉ seen ∧ fnd l i = some v
  | [], seen, i, v, h => by simp [ddL, fnd] at h
  | (k, u) :: l, seen, i, v, h => by
    simp only [ddL] at h
    split at h
    · rename_i hk
      obtain ⟨h1, h2⟩ := ddL_get l seen i v h
      refine ⟨h1, ?_⟩
      have : k ≠ i := by rintro rfl; exact h1 (by simpa using hk)
      simpa [fnd, this] using h2
    · rename_i hk
      simp only [fnd] at h ⊢
      split at h
      · rename_i e
        simp only [beq_iff_eq] at e
        subst e
        exact ⟨by simpa using hk, by simpa using h⟩
      · rename_i e
        obtain ⟨h1, h2⟩ := ddL_get l (k :: seen) i v h
        rw [if_neg e]
        exact ⟨fun hm => h1 (List.mem_cons_of_mem _ hm), h2⟩
def S.dd (s : S) : S := ⟨s.n, ddL [] s.T, ddL [] s.H, s.K⟩
theorem Less.dd (s : S) : Less s.dd s := ⟨rfl, fun i v h => ⟨v, (ddL_get _ _ _ _ h).2, .refl _⟩, fun r row h => ⟨row, (ddL_get _ _ _ _ h).2, rfl, rfl, rfl, fun j v hv => ⟨v, hv, .refl _⟩⟩, fun j v h => ⟨v, h, .refl _⟩⟩
theorem Less.refl (s : S) : Less s s := ⟨rfl, fun i v h => ⟨v, h, .refl _⟩, fun r row h => ⟨row, h, rfl, rfl, rfl, fun j v hv => ⟨v, hv, .refl _⟩⟩, fun j v h => ⟨v, h, .refl _⟩⟩
/-- Both orders end at N, or know more. -/
def QJ (N : S) : Exit → S → Prop
  | .normal, s => Less N s
  | _, _ => False
def AB1 (c : Cx) (ops : Array Oper) (Q : Exit → S → Prop) (need : Nat → Bool) (r1 r2 : List (Nat × Bool)) (l : List Nat) (s : S) : Prop := ∀ g a w, Sim c g s a w → ASeq2 c.P ops (QQ c Q) (Below w.heap.size w) need r1 r2 l a w
theorem AB1.rd {v : V} (hi : L[i]? = some o) (hg : o.guard = none) (hd : dok s o = true) (hp : noP Q) (h : RD c o s v) (hN : AB1 c L.toArray Q need r1 r2 l (s.put o.dst v)) : AB1 c L.toArray Q need r1 r2 (i :: l) s := fun g a w hs => by
  obtain ⟨x, h1, h2⟩ := h g a w hs
  exact ⟨o, x, by simpa using hi, .inl ⟨by simp [Region.wanted, hg], h2⟩, Below.refl _ _, QQ_noP hp _ _, hN g _ w (hs.put o.dst (dok_spec hd) h1)⟩
theorem AB1.rp {v : V} (hi : L[i]? = some o) (hg : o.guard = none) (hd : dok s o = true) (hp : noP Q) (h : RP c o s v) (hN : AB1 c L.toArray Q need r1 r2 l (s.put o.dst v)) : AB1 c L.toArray Q need r1 r2 (i :: l) s := AB1.rd hi hg hd hp h.rd hN
theorem AB1.rdy {v : V} {j : Nat} {b : Bool} (hi : L[i]? = some o) (hg : o.guard = some (j, b)) (hy : yld L.toArray s j = some b) (hd : dok s o = true) (hp : noP Q) (h : RD c o s v) (hN : AB1 c L.toArray Q need r1 r2 l (s.put o.dst v)) : AB1 c L.toArray Q need r1 r2 (i :: l) s := fun g a w hs => by
  obtain ⟨x, h1, h2⟩ := h g a w hs
  exact ⟨o, x, by simpa using hi, .inl ⟨by simp [Region.wanted, hg, yld_spec hy hs], h2⟩, Below.refl _ _, QQ_noP hp _ _, hN g _ w (hs.put o.dst (dok_spec hd) h1)⟩
theorem AB1.rpy {v : V} {j : Nat} {b : Bool} (hi : L[i]? = some o) (hg : o.guard = some (j, b)) (hy : yld L.toArray s j = some b) (hd : dok s o = true) (hp : noP Q) (h : RP c o s v) (hN : AB1 c L.toArray Q need r1 r2 l (s.put o.dst v)) : AB1 c L.toArray Q need r1 r2 (i :: l) s := AB1.rdy hi hg hy hd hp h.rd hN
theorem AB1.no {j : Nat} {b b' : Bool} (hi : L[i]? = some o) (hg : o.guard = some (j, b)) (hy : yld L.toArray s j = some b') (hb : (b' == b) = false) (hd : dok s o = true) (hp : noP Q) (hN : AB1 c L.toArray Q need r1 r2 l (s.put o.dst .junk)) : AB1 c L.toArray Q need r1 r2 (i :: l) s := fun g a w hs =>
  ⟨o, undef, by simpa using hi, .inr ⟨by simp only [Region.wanted, hg, yld_spec hy hs]; simpa using hb, rfl⟩, Below.refl _ _, QQ_noP hp _ _, hN g _ w (hs.put o.dst (dok_spec hd) (.junk _))⟩
theorem AB1.nil (h1 : AD2 c L.toArray Q need r1 s) (h2 : AD2 c L.toArray Q need r2 s) : AB1 c L.toArray Q need r1 r2 [] s := fun g a w hs => ⟨h1 w g a w hs (Below.refl _ _), h2 w g a w hs (Below.refl _ _)⟩
/-- A new object r has been made since the region began: what is written to it harms nobody. -/
def AQ (r : Nat) (c : Cx) (ops : Array Oper) (Q : Exit → S → Prop) (need : Nat → Bool) (l : List (Nat × Bool)) (s : S) : Prop := ∀ W g a w, Sim c g s a w → Below W.heap.size W w → W.heap.size ≤ (g r).1 → ASeq c.P ops (QQ c Q) (Below W.heap.size W) need l a w
variable {l : List (Nat × Bool)} {r : Nat}
theorem AD2.new {r : Nat} {X : S} (hi : L[i]? = some o) (hg : o.guard = none) (h : StepG c o s r (fun s' => s' = X)) (hN : AQ r c L.toArray Q need l X) : AD2 c L.toArray Q need ((i, false) :: l) s := fun W g a w hs hb =>
  wpOp_of (by simpa using hi) hg (h g a w hs _ _ fun g' s' a' w' h1 h2 h3 _ h5 => by
    subst h1
    have hb' := hb.trans (h3.mono hb.size)
    exact ⟨fun _ => hb', hN W g' a' w' h2 hb' (Nat.le_trans hb.size h5)⟩)
theorem AQ.stepK (hi : L[i]? = some o) (hg : o.guard = none) (h : StepK c o s (AQ r c L.toArray Q need l)) : AQ r c L.toArray Q need ((i, false) :: l) s := fun W g a w hs hb hr =>
  wpOp_of (by simpa using hi) hg (h g a w hs _ _ fun s' a' w' h1 h2 h3 => ⟨fun _ => hb.trans (h3.mono hb.size), h1 W g a' w' h2 (hb.trans (h3.mono hb.size)) hr⟩)
theorem AQ.stepKy {j : Nat} {b : Bool} (hi : L[i]? = some o) (hg : o.guard = some (j, b)) (hy : yld L.toArray s j = some b) (h : StepK c o s (AQ r c L.toArray Q need l)) : AQ r c L.toArray Q need ((i, false) :: l) s := fun W g a w hs hb hr =>
  wpOp_ofy (by simpa using hi) (by simp [Region.wanted, hg, yld_spec hy hs]) (h g a w hs _ _ fun s' a' w' h1 h2 h3 => ⟨fun _ => hb.trans (h3.mono hb.size), h1 W g a' w' h2 (hb.trans (h3.mono hb.size)) hr⟩)
theorem AQ.call {post : V → Prop} (hi : L[i]? = some o) (hg : o.guard = none) (h : StepK c o s (fun s' => ∃ v, post v ∧ v.pure ∧ s' = s.put o.dst v)) (hN : ∀ v, post v → v.pure → AQ r c L.toArray Q need l (s.put o.dst v)) : AQ r c L.toArray Q need ((i, false) :: l) s :=
  AQ.stepK hi hg fun g a w hs K Q' hK => h g a w hs K Q' fun s' a' w' ⟨v, h1, h2, e⟩ h3 h4 => hK s' a' w' (by subst e; exact hN v h1 h2) h3 h4
theorem AQ.rd1 {v : V} (hi : L[i]? = some o) (hg : o.guard = none) (hd : dok s o = true) (h : RD c o s v) (hN : AQ r c L.toArray Q need l (s.put o.dst v)) : AQ r c L.toArray Q need ((i, false) :: l) s := AQ.stepK hi hg (h.stepK hd hN)
theorem AQ.rp1 {v : V} (hi : L[i]? = some o) (hg : o.guard = none) (hd : dok s o = true) (h : RP c o s v) (hN : AQ r c L.toArray Q need l (s.put o.dst v)) : AQ r c L.toArray Q need ((i, false) :: l) s := AQ.rd1 hi hg hd h.rd hN
theorem AQ.rp {v : V} (hi : L[i]? = some o) (hg : o.guard = none) (hd : dok s o = true) (hp : noP Q) (h : RP c o s v) (hN : AQ r c L.toArray Q need l (s.put o.dst v)) : AQ r c L.toArray Q need ((i, true) :: l) s := fun W g a w hs hb hr => by
  obtain ⟨x, h1, h2⟩ := h g a w hs
  exact ⟨o, x, by simpa using hi, .inl ⟨by simp [Region.wanted, hg], fun w' _ => h2 w'⟩, hb, QQ_noP hp _ _, hN W g _ w (hs.put o.dst (dok_spec hd) h1) hb hr⟩
theorem AQ.st {row row' : Row} (hi : L[i]? = some o) (hg : o.guard = none) (h : StepS c o s r row' ∧ row.nil = false ∧ fnd s.H r = some row) (hN : AQ r c L.toArray Q need l { s with H := (r, row') :: s.H }) : AQ r c L.toArray Q need ((i, false) :: l) s := fun W g a w hs hb hr =>
  wpOp_of (by simpa using hi) hg (h.1 g a w hs _ _ fun a' w' h2 h3 => by
    have hb' : Below W.heap.size W w' := ⟨by rw [← hb.os, h2.below.os, hs.below.os], by rw [← hb.tape, h2.below.tape, hs.below.tape], by rw [← hb.output, h2.below.output, hs.below.output], by rw [h3.1]; exact hb.size, fun k hk => (h3.2 k (by omega)).trans (hb.block k hk)⟩
    exact ⟨fun _ => hb', hN W g a' w' h2 hb' hr⟩)
theorem AQ.nil (h : Q .normal s) : AQ r c L.toArray Q need [] s := fun W g a w hs _ _ => ⟨g, s, h, hs⟩
end
end Go.Proofs.YtlgnjehfojogmaaDoor
namespace Go.Proofs.YtlgnjehfojogmaaDoor
open Go.RowKit
set_option linter.unusedSimpArgs false
set_option linter.unusedVariables false

theorem reps_nil {w : World} {q : Nat → Prop} {g : Nat → Nat × Nat} : VReps w q g [] [] := ⟨rfl, by simp⟩
theorem reps_cons {w : World} {q : Nat → Prop} {g : Nat → Nat × Nat} {v : V} {x : Value} {vs : List V} {xs : List Value} (h : VRep w q g v x) (hs : VReps w q g vs xs) : VReps w q g (v :: vs) (x :: xs) :=
  ⟨by simp [hs.1], fun j u y hu hy => by
    cases j with
    | zero => simp at hu hy; subst hu hy; exact h
    | succ j => exact hs.2 j u y (by simpa using hu) (by simpa using hy)⟩
end Go.Proofs.YtlgnjehfojogmaaDoor
namespace Go.Proofs.YtlgnjehfojogmaaDoor
open Go.RowKit
set_option linter.unusedSimpArgs false
set_option linter.unusedVariables false
set_option maxRecDepth 100000

section
variable {c : Cx} {s : S} {o : Oper}
variable {Q : Exit → S → Prop} {L : List Oper} {need : Nat → Bool} {l : List (Nat × Bool)} {i r : Nat}
theorem AE1.rxy {v : V} {j : Nat} {b : Bool} (hi : L[i]? = some o) (hg : o.guard = some (j, b)) (hy : yld L.toArray s j = some b) (hd : dok s o = true) (hp : noP Q) (h : RX c o s r v) (hN : AE1 c L.toArray Q need r l (s.put o.dst v)) : AE1 c L.toArray Q need r ((i, true) :: l) s := fun e g a w hs he hl => by
  obtain ⟨x, h1, h2⟩ := h e g a w hs he
  exact ⟨o, x, by simpa using hi, .inl ⟨by simp [Region.wanted, hg, yld_spec hy hs], h2⟩, BX.refl _, QQ_noP hp _ _, hN e g _ w (hs.put o.dst (dok_spec hd) h1) he.put hl⟩
theorem AE1.rpy {v : V} {j : Nat} {b : Bool} (hi : L[i]? = some o) (hg : o.guard = some (j, b)) (hy : yld L.toArray s j = some b) (hd : dok s o = true) (hp : noP Q) (h : RP c o s v) (hN : AE1 c L.toArray Q need r l (s.put o.dst v)) : AE1 c L.toArray Q need r ((i, true) :: l) s := AE1.rxy hi hg hy hd hp h.rx hN
theorem AE1.no {j : Nat} {b b' : Bool} (hi : L[i]? = some o) (hg : o.guard = some (j, b)) (hy : yld L.toArray s j = some b') (hb : (b' == b) = false) (hd : dok s o = true) (hp : noP Q) (hN : AE1 c L.toArray Q need r l (s.put o.dst .junk)) : AE1 c L.toArray Q need r ((i, true) :: l) s := fun e g a w hs he hl =>
  ⟨o, undef, by simpa using hi, .inr ⟨by simp only [Region.wanted, hg, yld_spec hy hs]; simpa using hb, rfl⟩, BX.refl _, QQ_noP hp _ _, hN e g _ w (hs.put o.dst (dok_spec hd) (.junk _)) he.put hl⟩
theorem AE1.noV {j : Nat} {b b' : Bool} (hi : L[i]? = some o) (hg : o.guard = some (j, b)) (hy : yld L.toArray s j = some b') (hb : (b' == b) = false) (hd : dok s o = true) (hp : noP Q) (hN : AE1 c L.toArray Q need r l (s.put o.dst (.d (.p undef)))) : AE1 c L.toArray Q need r ((i, true) :: l) s := fun e g a w hs he hl =>
  ⟨o, undef, by simpa using hi, .inr ⟨by simp only [Region.wanted, hg, yld_spec hy hs]; simpa using hb, rfl⟩, BX.refl _, QQ_noP hp _ _, hN e g _ w (hs.put o.dst (dok_spec hd) (.d _ _ (.p _))) he.put hl⟩
theorem AE1.noU {j : Nat} {b : Bool} (hi : L[i]? = some o) (hg : o.guard = some (j, b)) (hy : und L.toArray s j) (hd : dok s o = true) (hp : noP Q) (hN : AE1 c L.toArray Q need r l (s.put o.dst (.d (.p undef)))) : AE1 c L.toArray Q need r ((i, true) :: l) s := fun e g a w hs he hl =>
  ⟨o, undef, by simpa using hi, .inr ⟨by simp only [Region.wanted, hg, und_spec hy hs]; simp, rfl⟩, BX.refl _, QQ_noP hp _ _, hN e g _ w (hs.put o.dst (dok_spec hd) (.d _ _ (.p _))) he.put hl⟩
end
end Go.Proofs.YtlgnjehfojogmaaDoor
namespace Go.Proofs.YtlgnjehfojogmaaDoor
open Go.RowKit
set_option linter.unusedSimpArgs false
set_option linter.unusedVariables false
section
variable {c : Cx} {s : S} {o : Oper}
end
end Go.Proofs.YtlgnjehfojogmaaDoor
namespace Go.Proofs.YtlgnjehfojogmaaDoor
open Go.RowKit
set_option linter.unusedSimpArgs false
set_option linter.unusedVariables false

section
variable {c : Cx} {s : S} {o : Oper}
theorem st_enter (l : List Nat) {ts : List V} {f : FuncId} {fn : Func} {code : Code} {n : Nat} {rs : List ResultVar} {ars : List V} {N : S → Prop} (hts : l.map (fun i => fnd s.T i) = ts.map some) (hf : Is c.P f fn code n rs) (hn : ars.length ≤ n) (hd : dok s o = true)
    (hex : ∀ g a w, Sim c g s a w → ∃ xs : List Value, (execOp a.eval o).run c.P w = .ok (.enter f xs.toArray) w ∧ VReps w (qt c s.H g) g ars xs)
    (h : ∀ kx, AW ⟨c.P, c.w0, c.out, kx, []⟩ code (QI c.P rs s.n l o.dst N) ⟨n, enum 0 ars, s.H, ts ++ s.K⟩) : Step c o s N := by
  intro g a w hs K Q hK
  obtain ⟨xs, hrun, harl, harg⟩ := hex g a w hs
  have hll : l.length = ts.length := by simpa using congrArg List.length hts
  have hlt : ∀ (j i : Nat) (v : V), l[j]? = some i → ts[j]? = some v → fnd s.T i = some v := by
    intro j i v h1 h2
    have h3 := congrArg (fun l => l[j]?) hts
    simp only [List.getElem?_map, h1, h2, Option.map_some, Option.some.injEq] at h3
    exact h3
  have hlt' : ∀ (j i : Nat), l[j]? = some i → ∃ v x, ts[j]? = some v ∧ fnd s.T i = some v ∧ a.tmps[i]? = some x ∧ VRep w (qt c s.H g) g v x := by
    intro j i h1
    have hj : j < ts.length := by rw [← hll]; exact (List.getElem?_eq_some_iff.1 h1).1
    have h2 := hlt j i ts[j] h1 (List.getElem?_eq_getElem hj)
    obtain ⟨x, h3, h4⟩ := hs.tmp i _ h2
    exact ⟨_, x, List.getElem?_eq_getElem hj, h2, h3, h4⟩
  have hsim : Sim ⟨c.P, c.w0, c.out, l.map (fun i => a.tmps.getD i undef) ++ c.kx, []⟩ g ⟨n, enum 0 ars, s.H, ts ++ s.K⟩ { tmps := xs.toArray ++ Array.replicate (fn.ntmps - xs.toArray.size) undef, defers := [] } w := by
    refine ⟨?_, rfl, ?_, hs.nul, hs.obj, ?_, hs.inj, hs.base, hs.low, hs.below⟩
    · simp [hf.ntmps]; omega
    · intro i v hv
      obtain ⟨_, h2⟩ := fnd_enum _ 0 i v hv
      simp only [Nat.sub_zero] at h2
      have hi : i < xs.length := by
        have := (List.getElem?_eq_some_iff.1 h2).1
        omega
      refine ⟨xs[i], ?_, ?_⟩
      · rw [hf.ntmps]
        exact enter_get (List.getElem?_eq_getElem hi) (by omega)
      · exact harg i v _ h2 (List.getElem?_eq_getElem hi)
    · intro j v x h1 h2
      by_cases hj : j < ts.length
      · rw [List.getElem?_append_left hj] at h1
        rw [List.getElem?_append_left (by simp; omega)] at h2
        simp only [List.getElem?_map] at h2
        cases h3 : l[j]? with
        | none => rw [h3] at h2; cases h2
        | some i =>
          rw [h3] at h2
          simp only [Option.map_some, Option.some.injEq] at h2
          obtain ⟨v', x', h4, h5, h6, h7⟩ := hlt' j i h3
          rw [h4] at h1
          simp only [Option.some.injEq] at h1
          subst h1
          have : x = x' := by rw [← h2]; simp [Array.getD_eq_getD_getElem?, h6]
          subst this
          exact h7
      · rw [List.getElem?_append_right (by omega)] at h1
        rw [List.getElem?_append_right (by simp; omega)] at h2
        refine hs.keep (j - ts.length) v x h1 ?_
        simpa [hll] using h2
  unfold Oper.wp
  rw [hrun]
  simp only [Oper.upon]
  refine calls_of_wp hf.func hf.body (wp_mono (h (l.map (fun i => a.tmps.getD i undef) ++ c.kx) g _ w hsim) fun e a1 w1 hq => ?_)
  obtain ⟨g1, s1, h1, h2⟩ := hq
  have fin : (∃ vs, resL c.P s1 rs vs ∧ N (S.put ⟨s.n, l.zip s1.K, s1.H, s1.K.drop l.length⟩ o.dst (tupOf vs))) →
      a1.defers = [] ∧ ∃ v, (results fn a1.tmps).run c.P w1 = .ok v w1 ∧ K (a.put o.dst v) w1 := by
    rintro ⟨vs, k1, k2⟩
    obtain ⟨x, k3, k4⟩ := run_results (c := ⟨c.P, c.w0, c.out, l.map (fun i => a.tmps.getD i undef) ++ c.kx, []⟩) hf.results h2 k1
    refine ⟨h2.defers, x, k4, ?_⟩
    refine hK g1 _ _ _ k2 (Sim.put (s := ⟨s.n, l.zip s1.K, s1.H, s1.K.drop l.length⟩) (c := c) ?_ o.dst (dok_spec (s := s) hd) k3)
    refine ⟨hs.size, hs.defers, ?_, h2.nul, h2.obj, ?_, h2.inj, h2.base, h2.low, h2.below⟩
    · intro i v hv
      obtain ⟨j, h3, h4⟩ := fnd_zip _ _ i v hv
      obtain ⟨v', x', h5, h6, h7, h8⟩ := hlt' j i h3
      refine ⟨x', h7, h2.keep j v x' h4 ?_⟩
      have hj : j < l.length := (List.getElem?_eq_some_iff.1 h3).1
      simp only
      rw [List.getElem?_append_left (by simpa using hj)]
      simp [h3, Array.getD_eq_getD_getElem?, h7]
    · intro j v x h3 h4
      refine h2.keep (l.length + j) v x (by simpa using h3) ?_
      simp only
      rw [List.getElem?_append_right (by simp)]
      simpa using h4
  cases e with
  | normal => exact fin h1
  | ret => exact fin h1
  | _ => exact h1.elim
end

/-- How a call ends that worked on its caller's objects: result, objects, kept values. -/
def QP (P : Program) (rs : List ResultVar) (post : V → List (Nat × Row) → List V → Prop) : Exit → S → Prop
  | .normal, s => ∃ vs, resL P s rs vs ∧ post (tupOf vs) s.H s.K
  | .ret, s => ∃ vs, resL P s rs vs ∧ post (tupOf vs) s.H s.K
  | _, _ => False
/-- How the caller goes on. -/
def back (s : S) (l : List Nat) (d : Option Tmp) (v : V) (H : List (Nat × Row)) (K : List V) : S := S.put ⟨s.n, l.zip K, H, K.drop l.length⟩ d v
/-- A call of function f with the objects H and the kept values K. -/
def PC (P : Program) (f : FuncId) (args : List V) (H : List (Nat × Row)) (K : List V) (post : V → List (Nat × Row) → List V → Prop) : Prop :=
  ∀ (c : Cx) (s : S) (o : Oper) (fx : Operand) (xs : Array Operand) (tys : Array TypeId) (l : List Nat) (ts : List V), c.P = P → o.op = .call { callee := .value fx, args := xs, argTypes := tys } → s.ev fx = some (.fn f []) → xs.toList.map s.ev = args.map some →
    l.map (fun i => fnd s.T i) = ts.map some → s.H = H → ts ++ s.K = K → dok s o = true → Step c o s (fun s' => ∃ v H' K', post v H' K' ∧ s' = back s l o.dst v H' K')
/-- A call of a method through an interface value that holds v of type t. -/
def PM (P : Program) (t : TypeId) (v : V) (name : String) (args : List V) (H : List (Nat × Row)) (K : List V) (post : V → List (Nat × Row) → List V → Prop) : Prop :=
  ∀ (c : Cx) (s : S) (o : Oper) (rx : Operand) (xs : Array Operand) (tys : Array TypeId) (l : List Nat) (ts : List V), c.P = P → o.op = .call { callee := .invoke rx name, args := xs, argTypes := tys } → s.ev rx = some (.ifc t v) → xs.toList.map s.ev = args.map some →
    l.map (fun i => fnd s.T i) = ts.map some → s.H = H → ts ++ s.K = K → dok s o = true → Step c o s (fun s' => ∃ v H' K', post v H' K' ∧ s' = back s l o.dst v H' K')

theorem QP.toQI {P : Program} {rs : List ResultVar} {post : V → List (Nat × Row) → List V → Prop} {s : S} {l : List Nat} {d : Option Tmp} {e : Exit} {s1 : S} (h : QP P rs post e s1) : QI P rs s.n l d (fun s' => ∃ v H' K', post v H' K' ∧ s' = back s l d v H' K') e s1 := by
  cases e with
  | normal => obtain ⟨vs, h1, h2⟩ := h; exact ⟨vs, h1, _, _, _, h2, rfl⟩
  | ret => obtain ⟨vs, h1, h2⟩ := h; exact ⟨vs, h1, _, _, _, h2, rfl⟩
  | _ => exact h.elim
theorem PC.intro {P : Program} {f : FuncId} {fn : Func} {code : Code} {n : Nat} {rs : List ResultVar} {args : List V} {H : List (Nat × Row)} {K : List V} {post : V → List (Nat × Row) → List V → Prop} (hf : Is P f fn code n rs) (hn : args.length ≤ n)
    (h : ∀ w0 out kx, AW ⟨P, w0, out, kx, []⟩ code (QP P rs post) ⟨n, enum 0 args, H, K⟩) : PC P f args H K post := by
  intro c s o fx xs tys l ts hP ho hfx hargs hts hH hK hd
  subst hP hH hK
  refine st_enter l hts hf hn hd (fun g a w hs => ?_) (fun kx => (h c.w0 c.out kx).mono fun e s1 hq => hq.toQI)
  obtain ⟨cs, hfv, hcl, _⟩ := fn_eval hs hfx
  obtain rfl : cs = [] := by cases cs with | nil => rfl | cons => simp at hcl
  exact ⟨_, by rw [exec_call (caps := []) hf ho hfv, List.append_nil], args_eval hs hargs⟩
theorem exec_invoke1 {c : Cx} {o : Oper} {ρ : Operand → Value} {rx : Operand} {name : String} {xs : Array Operand} {ts : Array TypeId} {f : FuncId} {fn : Func} {code : Code} {n : Nat} {rs : List ResultVar} {t : TypeId} {v v' : Value} {w : World} (hf : Is c.P f fn code n rs) (ho : o.op = .call { callee := .invoke rx name, args := xs, argTypes := ts })
    (hfx : ρ rx = .iface t v) (hm : (method (c.P.types.size + Made.depth) t v name).run c.P w = .ok (f, v') w) : (execOp ρ o).run c.P w = .ok (.enter f (v' :: xs.toList.map ρ).toArray) w := by
  have hb : fn.body.isNone = false := by rw [hf.body]; rfl
  have hn := hf.name
  simp only [execOp, ho, resolve, hfx, Sem.run_bind, Sem.run_pure, Result.andThen_ok, invoke]
  have h0 : (#[Value.iface t v] ++ xs.map ρ)[0]? = some (.iface t v) := by simp [Array.getElem?_append_left]
  rw [h0]
  simp only [callMethod, Sem.run_bind, run_program, Result.andThen_ok, hm]
  simp only [callFunc, Sem.run_bind, run_program, Result.andThen_ok, hf.func]
  simp at hn
  have hb' : ¬ fn.body = none := by rw [hf.body]; simp
  simp [hn, hb', hb, ← Array.toList_map]
  rw [List.take_of_length_le (by simp)]
theorem ifc_eval {c : Cx} {s : S} {g : Nat → Nat × Nat} {a : Act} {w : World} (hs : Sim c g s a w) {rx : Operand} {t : TypeId} {v : V} (hx : s.ev rx = some (.ifc t v)) : ∃ x, a.eval rx = .iface t x ∧ VRep w (qt c s.H g) g v x := by
  have h := hs.ev hx
  generalize a.eval rx = u at h
  cases h with | ifc _ _ x h => exact ⟨x, rfl, h⟩
theorem reps_cons' {w : World} {q : Nat → Prop} {g : Nat → Nat × Nat} {v : V} {x : Value} {vs : List V} {xs : List Value} (h : VRep w q g v x) (hs : VReps w q g vs xs) : VReps w q g (v :: vs) (x :: xs) :=
  ⟨by simp [hs.1], fun j u y hu hy => by
    cases j with
    | zero => simp at hu hy; subst hu hy; exact h
    | succ j => exact hs.2 j u y (by simpa using hu) (by simpa using hy)⟩
/-- A method of what the pointer points to. -/
theorem PM.val {P : Program} {t : TypeId} {r k : Nat} {name : String} {f : FuncId} {fn : Func} {code : Code} {n : Nat} {rs : List ResultVar} {args : List V} {H : List (Nat × Row)} {K : List V} {post : V → List (Nat × Row) → List V → Prop} {row : Row} {v : V} (hf : Is P f fn code n rs) (hn : args.length + 1 ≤ n)
    {md : Mode} (hm : ∀ p w, (method (P.types.size + Made.depth) t (.pointer (some p)) name).run P w = (Sem.load md p (fun v => .pure (f, v))).run P w)
    (hr : fnd H r = some row) (hnl : row.nil = false) (hv : row.cells[k]? = some v)
    (h : ∀ w0 out kx, AW ⟨P, w0, out, kx, []⟩ code (QP P rs post) ⟨n, enum 0 (v :: args), H, K⟩) : PM P t (.ref r k) name args H K post := by
  intro c s o rx xs tys l ts hP ho hrx hargs hts hH hK hd
  subst hP hH hK
  refine st_enter l hts hf (by simpa using hn) hd (fun g a w hs => ?_) (fun kx => (h c.w0 c.out kx).mono fun e s1 hq => hq.toQI)
  obtain ⟨x, h1, h2⟩ := ifc_eval hs hrx
  cases h2
  obtain ⟨arr, h3, _, h4⟩ := hs.obj r row hr hnl
  obtain ⟨y, h5, h6⟩ := h4 k v hv
  have hcell : w.cell? ⟨(g r).1, k, none⟩ = some y := (cell_of_row w _ _ _ _ _ h3).trans h5
  refine ⟨_, exec_invoke1 (v' := y) hf ho h1 ?_, reps_cons' h6 (args_eval hs hargs)⟩
  rw [hm]
  simp [Sem.run, hcell]
theorem PM.mono {P : Program} {t : TypeId} {v : V} {name : String} {args : List V} {H : List (Nat × Row)} {K : List V} {post post' : V → List (Nat × Row) → List V → Prop} (h : PM P t v name args H K post) (hp : ∀ v H K, post v H K → post' v H K) : PM P t v name args H K post' :=
  fun c s o rx xs tys l ts h1 h2 h3 h4 h5 h6 h7 h8 g a w hs K' Q' hK => h c s o rx xs tys l ts h1 h2 h3 h4 h5 h6 h7 h8 g a w hs K' Q' fun g' s' a' w' ⟨u, H', K2, k1, k2⟩ k3 => hK g' s' a' w' ⟨u, H', K2, hp _ _ _ k1, k2⟩ k3

section
variable {c : Cx} {s : S} {o : Oper} {Q : Exit → S → Prop} {ops : Array Oper} {rest : List Oper}
theorem AL.pc {P : Program} {f : FuncId} {args : List V} {H : List (Nat × Row)} {K : List V} {post : V → List (Nat × Row) → List V → Prop} {fx : Operand} {xs : Array Operand} {tys : Array TypeId} (l : List Nat) {ts : List V} (h : PC P f args H K post) (hg : o.guard = none) (hP : c.P = P) (ho : o.op = .call { callee := .value fx, args := xs, argTypes := tys }) (hfx : s.ev fx = some (.fn f [])) (hargs : xs.toList.map s.ev = args.map some)
    (hts : l.map (fun i => fnd s.T i) = ts.map some) (hH : s.H = H) (hK : ts ++ s.K = K) (hd : dok s o = true) (hN : ∀ v H' K', post v H' K' → AL c ops rest Q (back s l o.dst v H' K')) : AL c ops (o :: rest) Q s :=
  AL.step hg fun g a w hs K' Q' hK' => h c s o fx xs tys l ts hP ho hfx hargs hts hH hK hd g a w hs K' Q' fun g' s' a' w' ⟨v, H', K2, h1, h2⟩ h3 => hK' g' s' a' w' (by subst h2; exact hN _ _ _ h1) h3
/-- Objects and kept values that lie below: none of them is one of the heap's. -/
structure Lw (H : List (Nat × Row)) (K : List V) : Prop where
  obj : ∀ x ∈ H, x.1 < 900 ∧ V.lowL 901 x.2.cells = true
  keep : V.lowL 901 K = true
theorem Lw.all {H : List (Nat × Row)} {K : List V} (h : Lw H K) : ∀ r, 901 ≤ r → H.all (fun x => x.1 != r && !V.hasL r x.2.cells) = true := fun r hr => by
  rw [List.all_eq_true]
  intro x hx
  obtain ⟨h1, h2⟩ := h.obj x hx
  rw [V.lowL_has hr _ h2]
  simp; omega
theorem Lw.has {H : List (Nat × Row)} {K : List V} (h : Lw H K) : ∀ r, 901 ≤ r → V.hasL r K = false := fun r hr => V.lowL_has hr _ h.keep
theorem Lw.fnd {H : List (Nat × Row)} {K : List V} (h : Lw H K) : ∀ r, 900 ≤ r → Go.Proofs.YtlgnjehfojogmaaDoor.fnd H r = none := fun r hr => by
  cases hh : Go.Proofs.YtlgnjehfojogmaaDoor.fnd H r with
  | none => rfl
  | some row => have := (h.obj _ (fnd_mem hh)).1; simp only at this; omega
theorem Lw.forgetK {H : List (Nat × Row)} {K : List V} (h : Lw H K) : ∀ r, 901 ≤ r → K.map (junkIf r) = K := fun r hr => by
  have h1 := V.hasL_false.1 (h.has r hr)
  have : ∀ (l : List V), (∀ v ∈ l, v.has r = false) → l.map (junkIf r) = l := by
    intro l
    induction l with
    | nil => intro _; rfl
    | cons v l ih =>
      intro hl
      rw [List.map_cons, ih fun v hv => hl v (by simp [hv]), junkIf, if_neg (by rw [hl v (by simp)]; simp)]
  exact this K h1
theorem Lw.forgetH {H : List (Nat × Row)} {K : List V} (h : Lw H K) : ∀ r, 901 ≤ r → (H.filter (fun x => x.1 != r)).map (fun x => (x.1, { x.2 with cells := if V.hasL r x.2.cells then x.2.cells.map (junkIf r) else x.2.cells })) = H := fun r hr => by
  have : ∀ (l : List (Nat × Row)), (∀ x ∈ l, x.1 < 900 ∧ V.lowL 901 x.2.cells = true) → (l.filter (fun x => x.1 != r)).map (fun x => (x.1, { x.2 with cells := if V.hasL r x.2.cells then x.2.cells.map (junkIf r) else x.2.cells })) = l := by
    intro l
    induction l with
    | nil => intro _; rfl
    | cons x l ih =>
      intro hl
      obtain ⟨h1, h2⟩ := hl x (by simp)
      rw [List.filter_cons, if_pos (by simp; omega), List.map_cons, ih fun x hx => hl x (by simp [hx]), V.lowL_has hr _ h2]
      simp
  exact this H h.obj
/-- The objects as a call wants them: the variable, its slice, all others. -/
theorem Less.hp {s : S} {T : List (Nat × V)} {b r : Row} {H0 : List (Nat × Row)} (hT : LT s T) (h1 : fnd s.H 900 = some b) (h2 : fnd s.H 901 = some r) (h3 : ∀ k row, fnd H0 k = some row → fnd s.H k = some row) : Less ⟨s.n, T, (900, b) :: (901, r) :: H0, s.K⟩ s := by
  refine ⟨rfl, fun i v h => hT.get i v h, fun k row h => ⟨row, ?_, rfl, rfl, rfl, fun j v hv => ⟨v, hv, .refl _⟩⟩, fun j v h => ⟨v, h, .refl _⟩⟩
  simp only [fnd] at h
  split at h
  · rename_i e
    simp only [beq_iff_eq] at e
    subst e
    rw [h1]; exact h
  · split at h
    · rename_i e
      simp only [beq_iff_eq] at e
      subst e
      rw [h2]; exact h
    · exact h3 k row h
theorem LH.of {s : S} {l : List (Nat × Row)} (h : LH s l) : ∀ k row, fnd l k = some row → fnd s.H k = some row := h.get
theorem Lw.low {H : List (Nat × Row)} {K : List V} (h : Lw H K) {T : List (Nat × Row)} (hT : T.all (fun x => decide (900 ≤ x.1)) = true) : ∀ k row, Go.Proofs.YtlgnjehfojogmaaDoor.fnd H k = some row → Go.Proofs.YtlgnjehfojogmaaDoor.fnd (T ++ H) k = some row := fun k row hk => by
  have hlt : k < 900 := (h.obj _ (fnd_mem hk)).1
  induction T with
  | nil => exact hk
  | cons x T ih =>
    simp only [List.all_cons, Bool.and_eq_true, decide_eq_true_eq] at hT
    obtain ⟨i, y⟩ := x
    simp only at hT
    simp only [List.cons_append, Go.Proofs.YtlgnjehfojogmaaDoor.fnd]
    rw [if_neg (by simp; omega)]
    exact ih hT.2
theorem Lw.keepL {H : List (Nat × Row)} {K : List V} (h : Lw H K) (ts : List V) (ht : V.lowL 901 ts = true) : Lw H (ts ++ K) := ⟨h.obj, by
  have : ∀ (l : List V), V.lowL 901 l = true → V.lowL 901 (l ++ K) = true := by
    intro l
    induction l with
    | nil => intro _; exact h.keep
    | cons v l ih =>
      intro hl
      simp only [V.lowL, Bool.and_eq_true] at hl
      simp only [List.cons_append, V.lowL, Bool.and_eq_true]
      exact ⟨hl.1, ih hl.2⟩
  exact this ts ht⟩
theorem S.clean_hp {n r : Nat} {T : List (Nat × V)} {L H0 : List (Nat × Row)} {K : List V} (hl : Lw H0 K) (hr : 901 ≤ r) (hT : T.all (fun x => !x.2.has r) = true) (hL : L.all (fun x => x.1 != r && !V.hasL r x.2.cells) = true) : S.clean ⟨n, T, L ++ H0, K⟩ r = true := by
  simp only [S.clean, List.all_append, hT, hL, hl.all r hr, hl.has r hr]
  rfl
/-- As QP, from a state that may know more. -/
def QPW (P : Program) (rs : List ResultVar) (post : V → List (Nat × Row) → List V → Prop) : Exit → S → Prop
  | .normal, s => ∃ s', Less s' s ∧ QP P rs post .normal s'
  | .ret, s => ∃ s', Less s' s ∧ QP P rs post .ret s'
  | _, _ => False
theorem AW.weaken {P : Program} {rs : List ResultVar} {post : V → List (Nat × Row) → List V → Prop} {x : Code} (h : AW c x (QPW P rs post) s) : AW c x (QP P rs post) s := fun g a w hs => wp_mono (h g a w hs) fun e a' w' hq => by
  obtain ⟨g', s1, h1, h3⟩ := hq
  cases e <;> first | (obtain ⟨s2, h4, h5⟩ := h1; exact ⟨g', s2, h5, h3.less h4⟩) | exact h1.elim
end
end Go.Proofs.YtlgnjehfojogmaaDoor
namespace Go.Proofs.YtlgnjehfojogmaaDoor
open Go.RowKit
set_option linter.unusedSimpArgs false
set_option linter.unusedVariables false

section
variable {P : Program} {ops : Array Oper} {Q : Exit → Act → World → Prop} {md : Region.Mode} {T : World → Prop} {need : Nat → Bool}
def anyF (P : Program) (md : Region.Mode) (ops : Array Oper) (Q : Exit → Act → World → Prop) (T : World → Prop) (need : Nat → Bool) : Nat → Array Bool → Act → World → Prop
  | 0, listed, a, w => Region.ready md ops listed = [] ∧ Q .normal a w
  | n + 1, listed, a, w => (Region.ready md ops listed = [] → Q .normal a w) ∧
      ∀ i ∈ Region.ready md ops listed, wpOp P ops Q i (fun a' w' => (need i = true → T w → T w') ∧ anyF P md ops Q T need n (listed.setIfInBounds i true) a' w') a w
theorem any_of_anyF : ∀ (n : Nat) (listed : Array Bool) (a : Act) (w : World), anyF P md ops Q T need n listed a w → wpAny P md ops Q n listed a w
  | 0, _, _, _, h => h
  | n + 1, _, _, _, h => ⟨h.1, fun i hi => wpOp_mono (fun a' w' h' => any_of_anyF n _ a' w' h'.2) (h.2 i hi)⟩
theorem not_listed {listed : Array Bool} {i : Nat} (hr : i ∈ Region.ready md ops listed) : listed.getD i false = false := by
  have hil := (mem_ready.1 hr).1
  rw [Array.getD_eq_getD_getElem?] at hil ⊢
  cases hl : listed[i]? with
  | none => rw [hl] at hil; cases hil
  | some b => rw [hl] at hil; exact hil
theorem anyF_early {k i N : Nat} {oi : Oper} {v : Value} {S : World → Prop} (hk : (k = 2 ∧ S = fun _ => True) ∨ (k = 1 ∧ S = T ∧ ∀ j, j ≠ i → j < ops.size → need j = true ∨ reachB md ops N j i = true)) (hi : ops[i]? = some oi) (hsel : ∀ (j : Nat) (o : Oper) cs b, ops[j]? = some o → o.op ≠ .select cs b)
    (hQ : ∀ c a w, Q (.panic c) (a.put oi.dst v) w → Q (.panic c) a w) (n : Nat) :
    ∀ (listed : Array Bool) (a : Act) (w : World), closedL md ops listed →
      (∀ j oj, ops[j]? = some oj → j ≠ i → listed.getD j true = false → (∀ e ∈ oj.after, Region.binds md e = true → e.on ≠ i) → oi.apart ops oj = true) →
      i ∈ Region.ready md ops listed → YieldsIf P ops S oi v a → S w →
      anyF P md ops Q T need n (listed.setIfInBounds i true) (a.put oi.dst v) w → anyF P md ops Q T need (n + 1) listed a w := by
  induction n with
  | zero =>
    intro listed a w hcl hfree hr hy hS H
    refine ⟨fun h => by rw [h] at hr; exact absurd hr List.not_mem_nil, fun j hj => ?_⟩
    by_cases hji : j = i
    · subst hji
      exact hy.wpOp hi hS ⟨fun _ h => h, H⟩
    · have hm := ready_mono hj hji
      rw [H.1] at hm
      exact absurd hm List.not_mem_nil
  | succ n ih =>
    intro listed a w hcl hfree hr hy hS H
    refine ⟨fun h => by rw [h] at hr; exact absurd hr List.not_mem_nil, fun j hj => ?_⟩
    by_cases hji : j = i
    · subst hji
      exact hy.wpOp hi hS ⟨fun _ h => h, H⟩
    · have hij : i ≠ j := fun h => hji h.symm
      have hnext := H.2 j (ready_mono hj hji)
      obtain ⟨hjl, oj, hoj, hdone⟩ := mem_ready.1 hj
      have hil' := not_listed hr
      have hno : ∀ e ∈ oj.after, Region.binds md e = true → e.on ≠ i := by
        intro e he hb hei
        have hd := hdone e he hb
        rw [hei, hil'] at hd
        cases hd
      have hstep := wpOp_putIf hoj (hfree j oj hoj hji hjl hno) (fun cs b => hsel i oi cs b hi) (fun cs b => hsel j oj cs b hoj) hQ hy hnext
      refine wpOp_mono (fun a' w' h3 => ?_) hstep
      obtain ⟨hy', hS', hrest⟩ := h3
      have hSw : S w' := by
        rcases hk with ⟨_, rfl⟩ | ⟨_, rfl, hz⟩
        · trivial
        · refine hS' ?_ hS
          rcases hz j hji (Array.getElem?_eq_some_iff.1 hoj).1 with h | h
          · exact h
          · have := reach_ready hcl h hj
            rw [hil'] at this
            cases this
      refine ⟨hS', ih _ a' w' (closed_set hcl hj) ?_ (ready_mono hr hij) hy' hSw ?_⟩
      · intro k ok hk hki hkl hkn
        refine hfree k ok hk hki ?_ hkn
        by_cases hjk : j = k
        · subst hjk
          exact hjl
        · rwa [getD_set_ne true hjk] at hkl
      · rw [Array.setIfInBounds_comm _ _ hji]
        exact hrest
def ASeqF (P : Program) (ops : Array Oper) (Q : Exit → Act → World → Prop) (T : World → Prop) (need : Nat → Bool) : List (Nat × Nat) → Act → World → Prop
  | [], a, w => Q .normal a w
  | (i, 0) :: r, a, w => wpOp P ops Q i (fun a' w' => (need i = true → T w → T w') ∧ ASeqF P ops Q T need r a' w') a w
  | (i, 1) :: r, a, w => ∃ oi x, ops[i]? = some oi ∧ YieldsIf P ops T oi x a ∧ T w ∧ (∀ c a w, Q (.panic c) (a.put oi.dst x) w → Q (.panic c) a w) ∧ ASeqF P ops Q T need r (a.put oi.dst x) w
  | (i, _ + 2) :: r, a, w => ∃ oi x, ops[i]? = some oi ∧ YieldsIf P ops (fun _ => True) oi x a ∧ (∀ c a w, Q (.panic c) (a.put oi.dst x) w → Q (.panic c) a w) ∧ ASeqF P ops Q T need r (a.put oi.dst x) w
def okF (md : Region.Mode) (ops : Array Oper) (need : Nat → Bool) (N : Nat) : List (Nat × Nat) → Array Bool → Bool
  | [], listed => (Region.ready md ops listed).isEmpty
  | (i, 0) :: r, listed => (Region.ready md ops listed == [i]) && okF md ops need N r (listed.setIfInBounds i true)
  | (i, 1) :: r, listed => (Region.ready md ops listed).contains i && Region.free md ops listed i && ((List.range ops.size).all fun j => j == i || need j || reachB md ops N j i) && okF md ops need N r (listed.setIfInBounds i true)
  | (i, _ + 2) :: r, listed => (Region.ready md ops listed).contains i && Region.free md ops listed i && okF md ops need N r (listed.setIfInBounds i true)
theorem anyF_of {N : Nat} (hsel : Region.noSelect ops = true) : ∀ (l : List (Nat × Nat)) (listed : Array Bool) (a : Act) (w : World), closedL md ops listed → okF md ops need N l listed = true → ASeqF P ops Q T need l a w → anyF P md ops Q T need l.length listed a w
  | [], listed, a, w, _, hok, h => ⟨by simpa [okF] using hok, h⟩
  | (i, 0) :: r, listed, a, w, hcl, hok, h => by
    simp only [okF, Bool.and_eq_true, beq_iff_eq] at hok
    obtain ⟨h1, h2⟩ := hok
    have hr : i ∈ Region.ready md ops listed := by rw [h1]; exact List.mem_singleton.2 rfl
    refine ⟨fun h0 => (by rw [h0] at h1; cases h1), fun j hj => ?_⟩
    rw [h1] at hj
    obtain rfl := List.mem_singleton.1 hj
    exact wpOp_mono (fun a' w' h' => ⟨h'.1, anyF_of hsel r _ a' w' (closed_set hcl hr) h2 h'.2⟩) h
  | (i, 1) :: r, listed, a, w, hcl, hok, h => by
    simp only [okF, Bool.and_eq_true, List.all_eq_true, List.mem_range, Bool.or_eq_true, beq_iff_eq] at hok
    obtain ⟨⟨⟨h1, h2⟩, h3⟩, h4⟩ := hok
    obtain ⟨oi, x, g1, g2, g3, g4, g5⟩ := h
    have hr : i ∈ Region.ready md ops listed := by simpa using h1
    refine anyF_early (k := 1) (N := N) (S := T) (.inr ⟨rfl, rfl, fun j hj hlt => ?_⟩) g1 (Region.noSelect_spec hsel) g4 r.length listed a w hcl (Region.free_spec g1 h2) hr g2 g3 (anyF_of hsel r _ _ w (closed_set hcl hr) h4 g5)
    rcases h3 j hlt with (h | h) | h
    · exact absurd h hj
    · exact .inl h
    · exact .inr h
  | (i, m + 2) :: r, listed, a, w, hcl, hok, h => by
    simp only [okF, Bool.and_eq_true] at hok
    obtain ⟨⟨h1, h2⟩, h4⟩ := hok
    obtain ⟨oi, x, g1, g2, g4, g5⟩ := h
    have hr : i ∈ Region.ready md ops listed := by simpa using h1
    exact anyF_early (k := 2) (N := N) (S := fun _ => True) (.inl ⟨rfl, rfl⟩) g1 (Region.noSelect_spec hsel) g4 r.length listed a w hcl (Region.free_spec g1 h2) hr g2 trivial (anyF_of hsel r _ _ w (closed_set hcl hr) h4 g5)
end

section
variable {c : Cx} {s : S} {Q : Exit → S → Prop} {ops : Array Oper} {L : List Oper} {need : Nat → Bool} {l : List (Nat × Nat)} {i : Nat} {o : Oper}
/-- First reads, then what makes new memory, then anything. -/
def AF1 (c : Cx) (ops : Array Oper) (Q : Exit → S → Prop) (need : Nat → Bool) (l : List (Nat × Nat)) (s : S) : Prop := ∀ g a w, Sim c g s a w → ASeqF c.P ops (QQ c Q) (Below w.heap.size w) need l a w
def AF2 (c : Cx) (ops : Array Oper) (Q : Exit → S → Prop) (need : Nat → Bool) (l : List (Nat × Nat)) (s : S) : Prop := ∀ W g a w, Sim c g s a w → Below W.heap.size W w → ASeqF c.P ops (QQ c Q) (Below W.heap.size W) need l a w
def AF3 (c : Cx) (ops : Array Oper) (Q : Exit → S → Prop) (need : Nat → Bool) (l : List (Nat × Nat)) (s : S) : Prop := ∀ (T : World → Prop) g a w, Sim c g s a w → ASeqF c.P ops (QQ c Q) T need l a w
theorem AW.drawF {id : Nat} {l : List Oper} (order : List (Nat × Nat)) (need : Nat → Bool) (N : Nat) (hm : c.P.follows .mixedOrders = true) (hsel : Region.noSelect l.toArray = true) (hlen : order.length = l.length)
    (hok : okF .any l.toArray need N order (Array.replicate l.length false) = true) (h : AF1 c l.toArray Q need order s) : AW c (.region id l.toArray true) Q s := by
  intro g a w hs
  refine wp_region_any hm ?_
  have hs' : Sim c g s a w.drew := hs.move (Below.drew (Below.refl _ _))
  have := any_of_anyF _ _ _ _ (anyF_of (P := c.P) (Q := QQ c Q) (T := Below w.drew.heap.size w.drew) (need := need) (md := .any) hsel order (Array.replicate l.length false) a w.drew (by
    intro j oj _ hl
    rw [Array.getD_eq_getD_getElem?, Array.getElem?_replicate] at hl
    split at hl <;> simp at hl) hok (h g a _ hs'))
  rw [hlen] at this
  simpa using this
theorem AF1.rd {v : V} (hi : L[i]? = some o) (hg : o.guard = none) (hd : dok s o = true) (hp : noP Q) (h : RD c o s v) (hN : AF1 c L.toArray Q need l (s.put o.dst v)) : AF1 c L.toArray Q need ((i, 1) :: l) s := fun g a w hs => by
  obtain ⟨x, h1, h2⟩ := h g a w hs
  exact ⟨o, x, by simpa using hi, .inl ⟨by simp [Region.wanted, hg], h2⟩, Below.refl _ _, QQ_noP hp _ _, hN g _ w (hs.put o.dst (dok_spec hd) h1)⟩
theorem AF1.rdy {v : V} {j : Nat} {b : Bool} (hi : L[i]? = some o) (hg : o.guard = some (j, b)) (hy : yld L.toArray s j = some b) (hd : dok s o = true) (hp : noP Q) (h : RD c o s v) (hN : AF1 c L.toArray Q need l (s.put o.dst v)) : AF1 c L.toArray Q need ((i, 1) :: l) s := fun g a w hs => by
  obtain ⟨x, h1, h2⟩ := h g a w hs
  exact ⟨o, x, by simpa using hi, .inl ⟨by simp [Region.wanted, hg, yld_spec hy hs], h2⟩, Below.refl _ _, QQ_noP hp _ _, hN g _ w (hs.put o.dst (dok_spec hd) h1)⟩
theorem AF1.rp {v : V} (hi : L[i]? = some o) (hg : o.guard = none) (hd : dok s o = true) (hp : noP Q) (h : RP c o s v) (hN : AF1 c L.toArray Q need l (s.put o.dst v)) : AF1 c L.toArray Q need ((i, 2) :: l) s := fun g a w hs => by
  obtain ⟨x, h1, h2⟩ := h g a w hs
  exact ⟨o, x, by simpa using hi, .inl ⟨by simp [Region.wanted, hg], fun w' _ => h2 w'⟩, QQ_noP hp _ _, hN g _ w (hs.put o.dst (dok_spec hd) h1)⟩
theorem AF1.go (h : AF2 c L.toArray Q need l s) : AF1 c L.toArray Q need l s := fun g a w hs => h w g a w hs (Below.refl _ _)
theorem AF1.nil (h : Q .normal s) : AF1 c L.toArray Q need [] s := fun g a w hs => ⟨g, s, h, hs⟩
theorem AF2.rp {v : V} (hi : L[i]? = some o) (hg : o.guard = none) (hd : dok s o = true) (hp : noP Q) (h : RP c o s v) (hN : AF2 c L.toArray Q need l (s.put o.dst v)) : AF2 c L.toArray Q need ((i, 2) :: l) s := fun W g a w hs hb => by
  obtain ⟨x, h1, h2⟩ := h g a w hs
  exact ⟨o, x, by simpa using hi, .inl ⟨by simp [Region.wanted, hg], fun w' _ => h2 w'⟩, QQ_noP hp _ _, hN W g _ w (hs.put o.dst (dok_spec hd) h1) hb⟩
theorem AF2.stepM (hi : L[i]? = some o) (hg : o.guard = none) (h : StepM c o s (AF2 c L.toArray Q need l)) : AF2 c L.toArray Q need ((i, 0) :: l) s := fun W g a w hs hb =>
  wpOp_of (by simpa using hi) hg (h g a w hs _ _ fun g' s' a' w' h1 h2 h3 => ⟨fun _ _ => hb.trans (h3.mono hb.size), h1 W g' a' w' h2 (hb.trans (h3.mono hb.size))⟩)
theorem AF2.sm {X : S} (hi : L[i]? = some o) (hg : o.guard = none) (h : StepM c o s (fun s' => s' = X)) (hN : AF2 c L.toArray Q need l X) : AF2 c L.toArray Q need ((i, 0) :: l) s :=
  AF2.stepM hi hg fun g a w hs K Q' hK => h g a w hs K Q' fun g' s' a' w' e h1 h2 => hK g' s' a' w' (by subst e; exact hN) h1 h2
theorem AF2.call {post : V → Prop} (hi : L[i]? = some o) (hg : o.guard = none) (h : StepM c o s (fun s' => ∃ v, post v ∧ v.pure ∧ s' = s.put o.dst v)) (hN : ∀ v, post v → v.pure → AF2 c L.toArray Q need l (s.put o.dst v)) : AF2 c L.toArray Q need ((i, 0) :: l) s :=
  AF2.stepM hi hg fun g a w hs K Q' hK => h g a w hs K Q' fun g' s' a' w' ⟨v, h1, h2, e⟩ h3 h4 => hK g' s' a' w' (by subst e; exact hN v h1 h2) h3 h4
theorem AF2.rd1 {v : V} (hi : L[i]? = some o) (hg : o.guard = none) (hd : dok s o = true) (h : RD c o s v) (hN : AF2 c L.toArray Q need l (s.put o.dst v)) : AF2 c L.toArray Q need ((i, 0) :: l) s :=
  AF2.stepM hi hg (h.stepM hd hN)
theorem AF2.rp1 {v : V} (hi : L[i]? = some o) (hg : o.guard = none) (hd : dok s o = true) (h : RP c o s v) (hN : AF2 c L.toArray Q need l (s.put o.dst v)) : AF2 c L.toArray Q need ((i, 0) :: l) s := AF2.rd1 hi hg hd h.rd hN
theorem AF2.go (h : AF3 c L.toArray Q need l s) : AF2 c L.toArray Q need l s := fun W g a w hs _ => h _ g a w hs
theorem AF2.nil (h : Q .normal s) : AF2 c L.toArray Q need [] s := fun W g a w hs _ => ⟨g, s, h, hs⟩
theorem AF3.rp {v : V} (hi : L[i]? = some o) (hg : o.guard = none) (hd : dok s o = true) (hp : noP Q) (h : RP c o s v) (hN : AF3 c L.toArray Q need l (s.put o.dst v)) : AF3 c L.toArray Q need ((i, 2) :: l) s := fun T g a w hs => by
  obtain ⟨x, h1, h2⟩ := h g a w hs
  exact ⟨o, x, by simpa using hi, .inl ⟨by simp [Region.wanted, hg], fun w' _ => h2 w'⟩, QQ_noP hp _ _, hN T g _ w (hs.put o.dst (dok_spec hd) h1)⟩
theorem AF3.step (hi : L[i]? = some o) (hg : o.guard = none) (hn : need i = false) (h : Step c o s (AF3 c L.toArray Q need l)) : AF3 c L.toArray Q need ((i, 0) :: l) s := fun T g a w hs =>
  wpOp_of (by simpa using hi) hg (h g a w hs _ _ fun g' s' a' w' h1 h2 => ⟨fun h0 => (by rw [hn] at h0; cases h0), h1 T g' a' w' h2⟩)
theorem AF3.st {X : S} (hi : L[i]? = some o) (hg : o.guard = none) (hn : need i = false) (h : Step c o s (fun s' => s' = X)) (hN : AF3 c L.toArray Q need l X) : AF3 c L.toArray Q need ((i, 0) :: l) s :=
  AF3.step hi hg hn fun g a w hs K Q' hK => h g a w hs K Q' fun g' s' a' w' e h1 => hK g' s' a' w' (by subst e; exact hN) h1
theorem AF3.rd1 {v : V} (hi : L[i]? = some o) (hg : o.guard = none) (hn : need i = false) (hd : dok s o = true) (h : RD c o s v) (hN : AF3 c L.toArray Q need l (s.put o.dst v)) : AF3 c L.toArray Q need ((i, 0) :: l) s :=
  AF3.step hi hg hn (h.stepM hd hN).step
theorem AF3.rp1 {v : V} (hi : L[i]? = some o) (hg : o.guard = none) (hn : need i = false) (hd : dok s o = true) (h : RP c o s v) (hN : AF3 c L.toArray Q need l (s.put o.dst v)) : AF3 c L.toArray Q need ((i, 0) :: l) s := AF3.rd1 hi hg hn hd h.rd hN
theorem AF3.sm {X : S} (hi : L[i]? = some o) (hg : o.guard = none) (hn : need i = false) (h : StepM c o s (fun s' => s' = X)) (hN : AF3 c L.toArray Q need l X) : AF3 c L.toArray Q need ((i, 0) :: l) s := AF3.st hi hg hn h.step hN
theorem AF3.nil (h : Q .normal s) : AF3 c L.toArray Q need [] s := fun T g a w hs => ⟨g, s, h, hs⟩
end
end Go.Proofs.YtlgnjehfojogmaaDoor
namespace Go.Proofs.YtlgnjehfojogmaaDoor
open Go.RowKit
set_option linter.unusedSimpArgs false
set_option linter.unusedVariables false
section
variable {c : Cx} {s : S} {o : Oper} {t t' : TypeId} {x y : Operand} {m n : Int}
theorem rp_addZ (z : Int) (ho : o.op = .binOp .add t x y t') (hx : s.ev x = some (.i m)) (hy : s.ev y = some (.i n)) (hz : m + n = z) (h : -9223372036854775808 ≤ z ∧ z ≤ 9223372036854775807) : RP c o s (.i z) := by subst hz; exact rp_add ho hx hy h
end
section
variable {c : Cx} {s : S} {o : Oper} {Q : Exit → S → Prop} {L : List Oper} {need : Nat → Bool} {i : Nat} {r : List (Nat × Nat)}
theorem AF3.pc {P : Program} {f : FuncId} {args : List V} {H : List (Nat × Row)} {K : List V} {post : V → List (Nat × Row) → List V → Prop} {fx : Operand} {xs : Array Operand} {tys : Array TypeId} (hi : L[i]? = some o) (hn : need i = false) (l : List Nat) {ts : List V} (h : PC P f args H K post) (hg : o.guard = none) (hP : c.P = P) (ho : o.op = .call { callee := .value fx, args := xs, argTypes := tys }) (hfx : s.ev fx = some (.fn f [])) (hargs : xs.toList.map s.ev = args.map some)
    (hts : l.map (fun i => fnd s.T i) = ts.map some) (hH : s.H = H) (hK : ts ++ s.K = K) (hd : dok s o = true) (hN : ∀ v H' K', post v H' K' → AF3 c L.toArray Q need r (back s l o.dst v H' K')) : AF3 c L.toArray Q need ((i, 0) :: r) s :=
  AF3.step hi hg hn fun g a w hs K' Q' hK' => h c s o fx xs tys l ts hP ho hfx hargs hts hH hK hd g a w hs K' Q' fun g' s' a' w' ⟨v, H', K2, h1, h2⟩ h3 => hK' g' s' a' w' (by subst h2; exact hN _ _ _ h1) h3
end
end Go.Proofs.YtlgnjehfojogmaaDoor
namespace Go.Proofs.YtlgnjehfojogmaaDoor
open Go.RowKit
set_option linter.unusedSimpArgs false
set_option linter.unusedVariables false
set_option maxRecDepth 100000

/-- Where the piece begins that is open at i, pieces being parted by c; the pieces before it. -/
def frm (c : UInt8) (t : List UInt8) : Nat → Nat
 | 0 => 0
 | i + 1 => if t[i]? = some c then i + 1 else frm c t i
def pcs (c : UInt8) (t : List UInt8) : Nat → List (List UInt8)
 | 0 => []
 | i + 1 => if t[i]? = some c then pcs c t i ++ [(t.take i).drop (frm c t i)] else pcs c t i
theorem frm_le (c : UInt8) (t : List UInt8) : ∀ i, frm c t i ≤ i
 | 0 => Nat.le_refl 0
 | i + 1 => by
  unfold frm
  have := frm_le c t i
  split <;> omega
theorem pcs_len (c : UInt8) (t : List UInt8) : ∀ i, (pcs c t i).length ≤ i
 | 0 => Nat.le_refl 0
 | i + 1 => by
  unfold pcs
  have := pcs_len c t i
  split
  ·simp; omega
  ·omega
def strsD (l : List (List UInt8)) : D := .sl 1 16 (l.map fun b => [.p (.string (bs b))])
def strsC (l : List (List UInt8)) : List V := l.map fun b => .s (bs b)
@[simp] theorem hasL_strsC (r : Nat) (l : List (List UInt8)) : V.hasL r (strsC l) = false := V.hasL_false.2 fun d hd => by
 obtain ⟨x, _, rfl⟩ := List.mem_map.1 hd
 rfl
@[simp] theorem strsC_len (l : List (List UInt8)) : (strsC l).length = l.length := by simp [strsC]
section
variable {c : Cx} {s : S} {o : Oper}
theorem bs_sub (l : List UInt8) (i j : Nat) (h : j ≤ l.length) : (bs l).extract i j = bs ((l.take j).drop i) := bs_ext (by rw [Lib.extract_data, bs_list, bs_list, List.drop_take])
theorem rp_slice_strb {t : TypeId} {x y z : Operand} {l : List UInt8} {i j : Nat} {m n : Int} (hu : c.P.underlying t = some .string) (ho : o.op = .slice t x (some y) (some z) none) (hx : s.ev x = some (.s (bs l))) (hy : s.ev y = some (.i m)) (hz : s.ev z = some (.i n)) (hi : m = (i : Int)) (hj : n = (j : Int)) (h1 : i ≤ j) (h2 : j ≤ l.length) : RP c o s (.s (bs ((l.take j).drop i))) := fun g a w hs => by
 refine ⟨.string (bs ((l.take j).drop i)), .d _ _ (.p _), fun w' => ?_⟩
 subst hi hj
 have hr := run_slice_string_if (P := c.P) w' t (bs l) .i64 .i64 (i : Int) (j : Int) hu
 rw [if_pos ⟨by omega, by rw [bs_size]; omega⟩, if_pos ⟨by omega, by omega⟩, Int.toNat_natCast, Int.toNat_natCast, bs_sub l i j h2] at hr
 simp only [execOp, ho, VRep.p_eq (hs.ev hx), VRep.p_eq (hs.ev hy), VRep.p_eq (hs.ev hz), Option.map_some, Option.map_none, Sem.run_bind, run_sliceAt_string _ t _ _ _ _ hu, hr, Result.andThen_ok]
 rfl
end
set_option maxHeartbeats 1000000 in
theorem am_RLines (t : List UInt8) (ht : t.length ≤ 20000) : Fn Tryd.prog 21 [.s (bs t)] (fun v => v = .tup [.d (strsD (pcs 10 t t.length)), .b (decide (frm 10 t t.length = t.length))]) := by
 obtain ⟨n, hn⟩ : ∃ n, t.length = n := ⟨_, rfl⟩
 have hsz : (bs t).size = n := by rw [bs_size]; exact hn
 rw [hn] at ht ⊢
 refine Fn.intro (n := 31) ⟨Tryd.func21, rfl, rfl, rfl, rfl⟩ (by simp [V.pure, V.has, V.hasL]) (by simp) fun w0 out => ?_
 refine AW.seq ?_
 refine AW.region ?_
 refine AL.rp rfl rfl (rp_assign rfl rfl) ?_
 refine AL.rp rfl rfl (rp_assign rfl rfl) ?_
 refine AL.nil ?_
 try simp only [thenS, S.put, enum, List.nil_append, List.cons_append, List.append_nil, Nat.zero_add, Nat.reduceAdd]
 refine AW.seq ?_
 refine AW.region ?_
 refine AL.rp rfl rfl (rp_assign rfl rfl) ?_
 refine AL.nil ?_
 try simp only [thenS, S.put]
 refine AW.seq ?_
 refine AW.region ?_
 refine AL.rp rfl rfl (rp_assign rfl rfl) ?_
 refine AL.nil ?_
 try simp only [thenS, S.put]
 refine AW.seq ?_
 refine AW.seq ?_
 refine AW.region ?_
 refine AL.rp rfl rfl (rp_assign rfl rfl) ?_
 refine AL.nil ?_
 try simp only [thenS, S.put]
 refine AW.block ?_
 refine AW.adopt 4 30 1 9 rfl (by simp [S.clean, V.has, V.hasL]) ?_
 refine AW.loop (fun s' => ∃ (i : Nat) (z : Bool), i ≤ n ∧ (z = (pcs 10 t i).isEmpty) ∧ s' = ⟨31, [(0, .s (bs t)), (4, .own 30 1 (pcs 10 t i).length z), (5, .i (frm 10 t i)), (6, .i i)], [(30, ⟨9, strsC (pcs 10 t i), z, 1⟩)], []⟩) (fun s' => n - s'.nat 6) ⟨_, ?_, 0, true, by omega, rfl, rfl⟩ ?_
 ·exact (Less.of rfl (by repeat (first | exact trivial | refine ⟨⟨_, rfl, Wk.refl _⟩, ?_⟩ | refine ⟨⟨_, rfl, Wk.nil _ _⟩, ?_⟩ | refine ⟨⟨_, rfl, Wk.junk _⟩, ?_⟩)) (by repeat (first | exact trivial | refine ⟨rfl, ?_⟩)) rfl)
 rintro s' ⟨i, z, hi, hz, rfl⟩
 have hf := frm_le 10 t i
 have hp := pcs_len 10 t i
 by_cases hlt : i < n
 ·obtain ⟨b, hb⟩ := get_lt hn hlt
  have hb' : (bs t).data.toList[i]? = some b := hb
  by_cases h10 : b.toNat = 10
  ·have e : t[i]? = some 10 := by rw [hb]; congr 1; exact UInt8.toNat_inj.1 h10
   have e1 : frm 10 t (i + 1) = i + 1 := by show (if t[i]? = some 10 then i + 1 else _) = _; rw [if_pos e]
   have e2 : pcs 10 t (i + 1) = pcs 10 t i ++ [(t.take i).drop (frm 10 t i)] := by show (if t[i]? = some 10 then _ else _) = _; rw [if_pos e]
   have hpos : ((i : Nat) : Int) + 1 = ((i + 1 : Nat) : Int) := by omega
   refine AW.seq ?_
   refine AW.seq ?_
   refine AW.region ?_
   refine AL.rp rfl rfl (rp_move rfl rfl) ?_
   refine AL.rp rfl rfl (rp_move rfl rfl) ?_
   (first | (refine AL.rp rfl rfl (rp_len_map Tryd.underlying9 rfl rfl (by assumption)) ?_) | (refine AL.rp rfl rfl (rp_len_own Tryd.underlying9 rfl rfl) ?_) | (refine AL.rp rfl rfl (rp_len_sl Tryd.underlying9 rfl rfl) ?_) | (refine AL.rp rfl rfl (rp_len_nil Tryd.underlying9 rfl rfl) ?_) | (refine AL.rp rfl rfl (rp_len_str Tryd.underlying9 rfl rfl) ?_))
   (first | (refine AL.rp rfl rfl (rp_lssT rfl rfl rfl (by first | assumption | omega | (dsimp only; omega))) ?_) | (refine AL.rp rfl rfl (rp_lssF rfl rfl rfl (by first | assumption | omega | (dsimp only; omega))) ?_) | (refine AL.rp rfl rfl (rp_lss rfl rfl rfl) ?_))
   refine AL.nil ?_
   try simp only [thenS, S.put]
   refine AW.condT rfl ?_
   refine AW.skip ?_
   try simp only [thenS]
   refine AW.seq ?_
   refine AW.block ?_
   refine AW.seq ?_
   refine AW.region ?_
   refine AL.rp rfl rfl (rp_move rfl rfl) ?_
   refine AL.rp rfl rfl (rp_move rfl rfl) ?_
   refine AL.rp rfl rfl (rp_index_str Tryd.underlying9 rfl rfl rfl (by first | rfl | omega) (by assumption)) ?_
   (first | (refine AL.rp rfl rfl (rp_eqlT rfl rfl rfl (by first | assumption | omega | (dsimp only; omega))) ?_) | (refine AL.rp rfl rfl (rp_eqlF rfl rfl rfl (by first | assumption | omega | (dsimp only; omega))) ?_) | (refine AL.rp rfl rfl (rp_eql rfl rfl rfl) ?_))
   refine AL.nil ?_
   try simp only [thenS, S.put]
   refine AW.condT rfl ?_
   refine AW.seq ?_
   refine AW.region ?_
   refine AL.rp rfl rfl (rp_move rfl rfl) ?_
   refine AL.rp rfl rfl (rp_move rfl rfl) ?_
   refine AL.rp rfl rfl (rp_move rfl rfl) ?_
   refine AL.rp rfl rfl (rp_move rfl rfl) ?_
   refine AL.rp rfl rfl (rp_slice_strb Tryd.underlying9 rfl rfl rfl rfl rfl rfl (by omega) (by omega)) ?_
   refine AL.sm rfl (sm_slice (vs := [(0, _)]) (zs := [.d (.p (.string ⟨#[]⟩))]) 22 Tryd.underlying53 inf9 rfl rfl (by decide) (by decide) (by decide) rfl rfl rfl rfl (by first | rfl | simp [S.clean, S.put, S.newObj, S.forget, V.has, V.hasL, junkIf, setL, V.cs, hasL_i, hasL_d, hasL_b, hasL_s, hasL_n, hasL_rep, hasL_flat, hasL_append, -List.map_set]) (by first | rfl | simp [S.clean, S.put, S.newObj, S.forget, V.has, V.hasL, junkIf, setL, V.cs, hasL_i, hasL_d, hasL_b, hasL_s, hasL_n, hasL_rep, hasL_flat, hasL_append, -List.map_set]) rfl) ?_
   refine AL.st rfl (st_appendF Tryd.underlying53 inf9 rfl (by decide) rfl rfl rfl rfl rfl rfl (by first | assumption | rfl | (simp; done)) (by first | rfl | simp [S.clean, S.put, S.newObj, S.forget, V.has, V.hasL, junkIf, setL, V.cs, hasL_i, hasL_d, hasL_b, hasL_s, hasL_n, hasL_rep, hasL_flat, hasL_append, -List.map_set]) rfl rfl rfl rfl rfl (by first | rfl | simp [S.clean, S.put, S.newObj, S.forget, V.has, V.hasL, junkIf, setL, V.cs, hasL_i, hasL_d, hasL_b, hasL_s, hasL_n, hasL_rep, hasL_flat, hasL_append, -List.map_set]) rfl (by decide) (by omega) (by omega) rfl) ?_
   simp only [S.forget, S.put, S.newObj, junkIf, V.has, V.hasL, hasL_i, hasL_b, hasL_s, hasL_d, hasL_n, hasL_rep, hasL_flat, hasL_append, List.map_cons, List.map_nil, List.filter_cons, List.filter_nil, Nat.reduceBNe, Nat.reduceBEq, eq_self, bne_self_eq_false,  Bool.not_true, Bool.not_false, Bool.or_false, Bool.or_true, Bool.false_or, Bool.true_or, if_true, if_false, Bool.false_eq_true, ite_true, ite_false, ↓reduceIte, beq_self_eq_true, Nat.reduceEqDiff]
   refine AL.rp rfl rfl (rp_assign rfl rfl) ?_
   refine AL.nil ?_
   try simp only [thenS, S.put, S.newObj, setL, V.cs, List.length_cons, List.length_nil, List.take_succ_cons, List.take_zero, List.drop_succ_cons, List.drop_zero, List.drop_nil, List.nil_append, List.cons_append, List.append_nil, Nat.zero_add, Nat.reduceAdd, List.map_cons, List.map_nil, List.set_cons_zero, List.set_cons_succ]
   refine AW.region ?_
   refine AL.rp rfl rfl (rp_move rfl rfl) ?_
   refine AL.rp rfl rfl (rp_add rfl rfl rfl (by first | omega | (dsimp only; omega))) ?_
   refine AL.rp rfl rfl (rp_assign rfl rfl) ?_
   refine AL.nil ?_
   try simp only [thenS, S.put]
   refine AW.region ?_
   refine AL.rp rfl rfl (rp_move rfl rfl) ?_
   refine AL.rp rfl rfl (rp_add rfl rfl rfl (by first | omega | (dsimp only; omega))) ?_
   refine AL.rp rfl rfl (rp_assign rfl rfl) ?_
   refine AL.nil ?_
   try simp only [thenS, S.put]
   refine ⟨⟨31, [(0, .s (bs t)), (4, .own 30 1 ((pcs 10 t i).length + 1) false), (5, .i (i + 1 : Nat)), (6, .i (i + 1 : Nat))], [(30, ⟨9, strsC (pcs 10 t i) ++ [.s (bs ((t.take i).drop (frm 10 t i)))], false, 1⟩)], []⟩, (Less.of rfl (by repeat (first | exact trivial | refine ⟨⟨_, rfl, Wk.refl _⟩, ?_⟩ | refine ⟨⟨_, rfl, Wk.nil _ _⟩, ?_⟩ | refine ⟨⟨_, rfl, Wk.junk _⟩, ?_⟩)) (by repeat (first | exact trivial | refine ⟨rfl, ?_⟩)) rfl), ⟨i + 1, false, by omega, by rw [e2]; simp, ?_⟩, ?_⟩
   ·rw [e1, e2]
    simp [strsC]
   ·simp [S.nat, fnd]; omega
  ·have e : ¬ t[i]? = some 10 := by
    rw [hb]
    intro h
    cases h
    exact h10 rfl
   have e1 : frm 10 t (i + 1) = frm 10 t i := by show (if t[i]? = some 10 then i + 1 else _) = _; rw [if_neg e]
   have e2 : pcs 10 t (i + 1) = pcs 10 t i := by show (if t[i]? = some 10 then _ else _) = _; rw [if_neg e]
   refine AW.seq ?_
   refine AW.seq ?_
   refine AW.region ?_
   refine AL.rp rfl rfl (rp_move rfl rfl) ?_
   refine AL.rp rfl rfl (rp_move rfl rfl) ?_
   (first | (refine AL.rp rfl rfl (rp_len_map Tryd.underlying9 rfl rfl (by assumption)) ?_) | (refine AL.rp rfl rfl (rp_len_own Tryd.underlying9 rfl rfl) ?_) | (refine AL.rp rfl rfl (rp_len_sl Tryd.underlying9 rfl rfl) ?_) | (refine AL.rp rfl rfl (rp_len_nil Tryd.underlying9 rfl rfl) ?_) | (refine AL.rp rfl rfl (rp_len_str Tryd.underlying9 rfl rfl) ?_))
   (first | (refine AL.rp rfl rfl (rp_lssT rfl rfl rfl (by first | assumption | omega | (dsimp only; omega))) ?_) | (refine AL.rp rfl rfl (rp_lssF rfl rfl rfl (by first | assumption | omega | (dsimp only; omega))) ?_) | (refine AL.rp rfl rfl (rp_lss rfl rfl rfl) ?_))
   refine AL.nil ?_
   try simp only [thenS, S.put]
   refine AW.condT rfl ?_
   refine AW.skip ?_
   try simp only [thenS]
   refine AW.seq ?_
   refine AW.block ?_
   refine AW.seq ?_
   refine AW.region ?_
   refine AL.rp rfl rfl (rp_move rfl rfl) ?_
   refine AL.rp rfl rfl (rp_move rfl rfl) ?_
   refine AL.rp rfl rfl (rp_index_str Tryd.underlying9 rfl rfl rfl (by first | rfl | omega) (by assumption)) ?_
   (first | (refine AL.rp rfl rfl (rp_eqlT rfl rfl rfl (by first | assumption | omega | (dsimp only; omega))) ?_) | (refine AL.rp rfl rfl (rp_eqlF rfl rfl rfl (by first | assumption | omega | (dsimp only; omega))) ?_) | (refine AL.rp rfl rfl (rp_eql rfl rfl rfl) ?_))
   refine AL.nil ?_
   try simp only [thenS, S.put]
   refine AW.condF rfl ?_
   refine AW.skip ?_
   try simp only [thenS]
   refine AW.region ?_
   refine AL.rp rfl rfl (rp_move rfl rfl) ?_
   refine AL.rp rfl rfl (rp_add rfl rfl rfl (by first | omega | (dsimp only; omega))) ?_
   refine AL.rp rfl rfl (rp_assign rfl rfl) ?_
   refine AL.nil ?_
   try simp only [thenS, S.put]
   refine ⟨_, ?_, ⟨i + 1, z, by omega, by rw [e2]; exact hz, rfl⟩, ?_⟩
   ·rw [e1, e2]
    exact (Less.of rfl (by repeat (first | exact trivial | refine ⟨⟨_, rfl, Wk.refl _⟩, ?_⟩ | refine ⟨⟨_, rfl, Wk.nil _ _⟩, ?_⟩ | refine ⟨⟨_, rfl, Wk.junk _⟩, ?_⟩)) (by repeat (first | exact trivial | refine ⟨rfl, ?_⟩)) rfl)
   ·simp [S.nat, fnd]; omega
 ·obtain rfl : i = n := by omega
  refine AW.freeze 4 16 ((pcs 10 t i).map fun b => [.p (.string (bs b))]) rfl rfl rfl (by rw [List.length_map]) (by omega) (rows1 rfl) ?_
  refine AW.seq ?_
  refine AW.seq ?_
  refine AW.region ?_
  refine AL.rp rfl rfl (rp_move rfl rfl) ?_
  refine AL.rp rfl rfl (rp_move rfl rfl) ?_
  (first | (refine AL.rp rfl rfl (rp_len_map Tryd.underlying9 rfl rfl (by assumption)) ?_) | (refine AL.rp rfl rfl (rp_len_own Tryd.underlying9 rfl rfl) ?_) | (refine AL.rp rfl rfl (rp_len_sl Tryd.underlying9 rfl rfl) ?_) | (refine AL.rp rfl rfl (rp_len_nil Tryd.underlying9 rfl rfl) ?_) | (refine AL.rp rfl rfl (rp_len_str Tryd.underlying9 rfl rfl) ?_))
  (first | (refine AL.rp rfl rfl (rp_lssT rfl rfl rfl (by first | assumption | omega | (dsimp only; omega))) ?_) | (refine AL.rp rfl rfl (rp_lssF rfl rfl rfl (by first | assumption | omega | (dsimp only; omega))) ?_) | (refine AL.rp rfl rfl (rp_lss rfl rfl rfl) ?_))
  refine AL.nil ?_
  try simp only [thenS, S.put]
  refine AW.condF rfl ?_
  refine AW.exit ?_
  try simp only [thenS, inBlockS, ↓reduceIte, Nat.reduceEqDiff]
  refine AW.seq ?_
  refine AW.region ?_
  refine AL.rp rfl rfl (rp_move rfl rfl) ?_
  refine AL.rp rfl rfl (rp_move rfl rfl) ?_
  refine AL.rp rfl rfl (rp_move rfl rfl) ?_
  (first | (refine AL.rp rfl rfl (rp_len_map Tryd.underlying9 rfl rfl (by assumption)) ?_) | (refine AL.rp rfl rfl (rp_len_own Tryd.underlying9 rfl rfl) ?_) | (refine AL.rp rfl rfl (rp_len_sl Tryd.underlying9 rfl rfl) ?_) | (refine AL.rp rfl rfl (rp_len_nil Tryd.underlying9 rfl rfl) ?_) | (refine AL.rp rfl rfl (rp_len_str Tryd.underlying9 rfl rfl) ?_))
  (first | (refine AL.rp rfl rfl (rp_eqlT rfl rfl rfl (by first | assumption | omega | (dsimp only; omega))) ?_) | (refine AL.rp rfl rfl (rp_eqlF rfl rfl rfl (by first | assumption | omega | (dsimp only; omega))) ?_) | (refine AL.rp rfl rfl (rp_eql rfl rfl rfl) ?_))
  refine AL.rp rfl rfl (rp_assign rfl rfl) ?_
  refine AL.rp rfl rfl (rp_assign rfl rfl) ?_
  refine AL.nil ?_
  try simp only [thenS, S.put]
  refine AW.ret ?_
  refine ⟨[_, _], ⟨rfl, rfl, trivial⟩, ?_, by simp [tupOf, V.pure, V.has, V.hasL]⟩
  have hd : decide ((frm 10 t i : Int) = (((bs t).size : Nat) : Int)) = decide (frm 10 t i = i) := by
   rw [hsz, decide_eq_decide]
   omega
  rw [hd]
  rfl
/-- As frm and pcs, where the text's end ends a piece too. -/
def frmE (c : UInt8) (t : List UInt8) : Nat → Nat
 | 0 => 0
 | i + 1 => if i = t.length ∨ t[i]? = some c then i + 1 else frmE c t i
def pcsE (c : UInt8) (t : List UInt8) : Nat → List (List UInt8)
 | 0 => []
 | i + 1 => if i = t.length ∨ t[i]? = some c then pcsE c t i ++ [(t.take i).drop (frmE c t i)] else pcsE c t i
theorem frmE_le (c : UInt8) (t : List UInt8) : ∀ i, frmE c t i ≤ i
 | 0 => Nat.le_refl 0
 | i + 1 => by
  unfold frmE
  have := frmE_le c t i
  split <;> omega
theorem pcsE_len (c : UInt8) (t : List UInt8) : ∀ i, (pcsE c t i).length ≤ i
 | 0 => Nat.le_refl 0
 | i + 1 => by
  unfold pcsE
  have := pcsE_len c t i
  split
  ·simp; omega
  ·omega
set_option maxHeartbeats 1000000 in
theorem am_RParts (t : List UInt8) (ht : t.length ≤ 20000) : Fn Tryd.prog 22 [.s (bs t)] (fun v => v = .d (strsD (pcsE 32 t (t.length + 1)))) := by
 obtain ⟨n, hn⟩ : ∃ n, t.length = n := ⟨_, rfl⟩
 have hsz : (bs t).size = n := by rw [bs_size]; exact hn
 rw [hn] at ht ⊢
 refine Fn.intro (n := 32) ⟨Tryd.func22, rfl, rfl, rfl, rfl⟩ (by simp [V.pure, V.has, V.hasL]) (by simp) fun w0 out => ?_
 refine AW.seq ?_
 refine AW.region ?_
 refine AL.rp rfl rfl (rp_assign rfl rfl) ?_
 refine AL.nil ?_
 try simp only [thenS, S.put, enum, List.nil_append, List.cons_append, List.append_nil, Nat.zero_add, Nat.reduceAdd]
 refine AW.seq ?_
 refine AW.region ?_
 refine AL.rp rfl rfl (rp_assign rfl rfl) ?_
 refine AL.nil ?_
 try simp only [thenS, S.put]
 refine AW.seq ?_
 refine AW.region ?_
 refine AL.rp rfl rfl (rp_assign rfl rfl) ?_
 refine AL.nil ?_
 try simp only [thenS, S.put]
 refine AW.seq ?_
 refine AW.seq ?_
 refine AW.region ?_
 refine AL.rp rfl rfl (rp_assign rfl rfl) ?_
 refine AL.nil ?_
 try simp only [thenS, S.put]
 refine AW.block ?_
 refine AW.adopt 3 30 1 9 rfl (by simp [S.clean, V.has, V.hasL]) ?_
 refine AW.loop (fun s' => ∃ (i : Nat) (z : Bool), i ≤ n + 1 ∧ (z = (pcsE 32 t i).isEmpty) ∧ s' = ⟨32, [(0, .s (bs t)), (3, .own 30 1 (pcsE 32 t i).length z), (4, .i (frmE 32 t i)), (5, .i i)], [(30, ⟨9, strsC (pcsE 32 t i), z, 1⟩)], []⟩) (fun s' => n + 1 - s'.nat 5) ⟨_, ?_, 0, true, by omega, rfl, rfl⟩ ?_
 ·exact (Less.of rfl (by repeat (first | exact trivial | refine ⟨⟨_, rfl, Wk.refl _⟩, ?_⟩ | refine ⟨⟨_, rfl, Wk.nil _ _⟩, ?_⟩ | refine ⟨⟨_, rfl, Wk.junk _⟩, ?_⟩)) (by repeat (first | exact trivial | refine ⟨rfl, ?_⟩)) rfl)
 rintro s' ⟨i, z, hi, hz, rfl⟩
 have hf := frmE_le 32 t i
 have hp := pcsE_len 32 t i
 have app : (i = t.length ∨ t[i]? = some 32) → frmE 32 t (i + 1) = i + 1 ∧ pcsE 32 t (i + 1) = pcsE 32 t i ++ [(t.take i).drop (frmE 32 t i)] := fun e =>
  ⟨by show (if i = t.length ∨ t[i]? = some 32 then i + 1 else _) = _; rw [if_pos e], by show (if i = t.length ∨ t[i]? = some 32 then _ else _) = _; rw [if_pos e]⟩
 by_cases hlt : i < n
 ·obtain ⟨b, hb⟩ := get_lt hn hlt
  have hb' : (bs t).data.toList[i]? = some b := hb
  have hle : i ≤ n := by omega
  have hne : ¬ i = n := by omega
  by_cases h10 : b.toNat = 32
  ·obtain ⟨e1, e2⟩ := app (.inr (by rw [hb]; congr 1; exact UInt8.toNat_inj.1 h10))
   refine AW.seq ?_
   refine AW.seq ?_
   refine AW.region ?_
   refine AL.rp rfl rfl (rp_move rfl rfl) ?_
   refine AL.rp rfl rfl (rp_move rfl rfl) ?_
   (first | (refine AL.rp rfl rfl (rp_len_map Tryd.underlying9 rfl rfl (by assumption)) ?_) | (refine AL.rp rfl rfl (rp_len_own Tryd.underlying9 rfl rfl) ?_) | (refine AL.rp rfl rfl (rp_len_sl Tryd.underlying9 rfl rfl) ?_) | (refine AL.rp rfl rfl (rp_len_nil Tryd.underlying9 rfl rfl) ?_) | (refine AL.rp rfl rfl (rp_len_str Tryd.underlying9 rfl rfl) ?_))
   (first | (refine AL.rp rfl rfl (rp_leqT rfl rfl rfl (by first | assumption | omega | (dsimp only; omega))) ?_) | (refine AL.rp rfl rfl (rp_leqF rfl rfl rfl (by first | assumption | omega | (dsimp only; omega))) ?_) | (refine AL.rp rfl rfl (rp_leq rfl rfl rfl) ?_))
   refine AL.nil ?_
   try simp only [thenS, S.put]
   refine AW.condT rfl ?_
   refine AW.skip ?_
   try simp only [thenS]
   refine AW.seq ?_
   refine AW.block ?_
   refine AW.seq ?_
   refine AW.region ?_
   refine AL.rp rfl rfl (rp_move rfl rfl) ?_
   refine AL.rp rfl rfl (rp_move rfl rfl) ?_
   (first | (refine AL.rp rfl rfl (rp_len_map Tryd.underlying9 rfl rfl (by assumption)) ?_) | (refine AL.rp rfl rfl (rp_len_own Tryd.underlying9 rfl rfl) ?_) | (refine AL.rp rfl rfl (rp_len_sl Tryd.underlying9 rfl rfl) ?_) | (refine AL.rp rfl rfl (rp_len_nil Tryd.underlying9 rfl rfl) ?_) | (refine AL.rp rfl rfl (rp_len_str Tryd.underlying9 rfl rfl) ?_))
   (first | (refine AL.rp rfl rfl (rp_eqlT rfl rfl rfl (by first | assumption | omega | (dsimp only; omega))) ?_) | (refine AL.rp rfl rfl (rp_eqlF rfl rfl rfl (by first | assumption | omega | (dsimp only; omega))) ?_) | (refine AL.rp rfl rfl (rp_eql rfl rfl rfl) ?_))
   refine AL.rp rfl rfl (rp_move rfl rfl) ?_
   (first | (refine AL.noV rfl rfl rfl rfl ?_) | (refine AL.noU rfl ⟨_, rfl, rfl⟩ rfl ?_) | (refine AL.rpy rfl rfl rfl (rp_move rfl rfl) ?_))
   (first | (refine AL.noV rfl rfl rfl rfl ?_) | (refine AL.noU rfl ⟨_, rfl, rfl⟩ rfl ?_) | (refine AL.rpy rfl rfl rfl (rp_move rfl rfl) ?_))
   (first | (refine AL.noV rfl rfl rfl rfl ?_) | (refine AL.noU rfl ⟨_, rfl, rfl⟩ rfl ?_) | (refine AL.rpy rfl rfl rfl (rp_index_str Tryd.underlying9 rfl rfl rfl (by first | rfl | omega) (by assumption)) ?_))
   (first | (refine AL.noV rfl rfl rfl rfl ?_) | (refine AL.noU rfl ⟨_, rfl, rfl⟩ rfl ?_) | (refine AL.rpy rfl rfl rfl (rp_eqlT rfl rfl rfl (by first | assumption | omega | (dsimp only; omega))) ?_) | (refine AL.rpy rfl rfl rfl (rp_eqlF rfl rfl rfl (by first | assumption | omega | (dsimp only; omega))) ?_) | (refine AL.rpy rfl rfl rfl (rp_eql rfl rfl rfl) ?_))
   refine AL.rp rfl rfl (rp_pick rfl rfl rfl) ?_
   refine AL.nil ?_
   try simp only [thenS, S.put]
   refine AW.condT rfl ?_
   refine AW.seq ?_
   refine AW.region ?_
   refine AL.rp rfl rfl (rp_move rfl rfl) ?_
   refine AL.rp rfl rfl (rp_move rfl rfl) ?_
   refine AL.rp rfl rfl (rp_move rfl rfl) ?_
   refine AL.rp rfl rfl (rp_move rfl rfl) ?_
   refine AL.rp rfl rfl (rp_slice_strb Tryd.underlying9 rfl rfl rfl rfl rfl rfl (by omega) (by omega)) ?_
   refine AL.sm rfl (sm_slice (vs := [(0, _)]) (zs := [.d (.p (.string ⟨#[]⟩))]) 27 Tryd.underlying53 inf9 rfl rfl (by decide) (by decide) (by decide) rfl rfl rfl rfl (by first | rfl | simp [S.clean, S.put, S.newObj, S.forget, V.has, V.hasL, junkIf, setL, V.cs, hasL_i, hasL_d, hasL_b, hasL_s, hasL_n, hasL_rep, hasL_flat, hasL_append, -List.map_set]) (by first | rfl | simp [S.clean, S.put, S.newObj, S.forget, V.has, V.hasL, junkIf, setL, V.cs, hasL_i, hasL_d, hasL_b, hasL_s, hasL_n, hasL_rep, hasL_flat, hasL_append, -List.map_set]) rfl) ?_
   refine AL.st rfl (st_appendF Tryd.underlying53 inf9 rfl (by decide) rfl rfl rfl rfl rfl rfl (by first | assumption | rfl | (simp; done)) (by first | rfl | simp [S.clean, S.put, S.newObj, S.forget, V.has, V.hasL, junkIf, setL, V.cs, hasL_i, hasL_d, hasL_b, hasL_s, hasL_n, hasL_rep, hasL_flat, hasL_append, -List.map_set]) rfl rfl rfl rfl rfl (by first | rfl | simp [S.clean, S.put, S.newObj, S.forget, V.has, V.hasL, junkIf, setL, V.cs, hasL_i, hasL_d, hasL_b, hasL_s, hasL_n, hasL_rep, hasL_flat, hasL_append, -List.map_set]) rfl (by decide) (by omega) (by omega) rfl) ?_
   simp only [S.forget, S.put, S.newObj, junkIf, V.has, V.hasL, hasL_i, hasL_b, hasL_s, hasL_d, hasL_n, hasL_rep, hasL_flat, hasL_append, List.map_cons, List.map_nil, List.filter_cons, List.filter_nil, Nat.reduceBNe, Nat.reduceBEq, eq_self, bne_self_eq_false,  Bool.not_true, Bool.not_false, Bool.or_false, Bool.or_true, Bool.false_or, Bool.true_or, if_true, if_false, Bool.false_eq_true, ite_true, ite_false, ↓reduceIte, beq_self_eq_true, Nat.reduceEqDiff]
   refine AL.rp rfl rfl (rp_assign rfl rfl) ?_
   refine AL.nil ?_
   try simp only [thenS, S.put, S.newObj, setL, V.cs, List.length_cons, List.length_nil, List.take_succ_cons, List.take_zero, List.drop_succ_cons, List.drop_zero, List.drop_nil, List.nil_append, List.cons_append, List.append_nil, Nat.zero_add, Nat.reduceAdd, List.map_cons, List.map_nil, List.set_cons_zero, List.set_cons_succ]
   refine AW.region ?_
   refine AL.rp rfl rfl (rp_move rfl rfl) ?_
   refine AL.rp rfl rfl (rp_add rfl rfl rfl (by first | omega | (dsimp only; omega))) ?_
   refine AL.rp rfl rfl (rp_assign rfl rfl) ?_
   refine AL.nil ?_
   try simp only [thenS, S.put]
   refine AW.region ?_
   refine AL.rp rfl rfl (rp_move rfl rfl) ?_
   refine AL.rp rfl rfl (rp_add rfl rfl rfl (by first | omega | (dsimp only; omega))) ?_
   refine AL.rp rfl rfl (rp_assign rfl rfl) ?_
   refine AL.nil ?_
   try simp only [thenS, S.put]
   refine ⟨⟨32, [(0, .s (bs t)), (3, .own 30 1 ((pcsE 32 t i).length + 1) false), (4, .i (i + 1 : Nat)), (5, .i (i + 1 : Nat))], [(30, ⟨9, strsC (pcsE 32 t i) ++ [.s (bs ((t.take i).drop (frmE 32 t i)))], false, 1⟩)], []⟩, (Less.of rfl (by repeat (first | exact trivial | refine ⟨⟨_, rfl, Wk.refl _⟩, ?_⟩ | refine ⟨⟨_, rfl, Wk.nil _ _⟩, ?_⟩ | refine ⟨⟨_, rfl, Wk.junk _⟩, ?_⟩)) (by repeat (first | exact trivial | refine ⟨rfl, ?_⟩)) rfl), ⟨i + 1, false, by omega, by rw [e2]; simp, ?_⟩, ?_⟩
   ·rw [e1, e2]
    simp [strsC]
   ·simp [S.nat, fnd]; omega
  ·have e : ¬ (i = t.length ∨ t[i]? = some 32) := by
    rw [hb, hn]
    rintro (h | h)
    ·exact hne h
    ·cases h
     exact h10 rfl
   have e1 : frmE 32 t (i + 1) = frmE 32 t i := by show (if i = t.length ∨ t[i]? = some 32 then i + 1 else _) = _; rw [if_neg e]
   have e2 : pcsE 32 t (i + 1) = pcsE 32 t i := by show (if i = t.length ∨ t[i]? = some 32 then _ else _) = _; rw [if_neg e]
   refine AW.seq ?_
   refine AW.seq ?_
   refine AW.region ?_
   refine AL.rp rfl rfl (rp_move rfl rfl) ?_
   refine AL.rp rfl rfl (rp_move rfl rfl) ?_
   (first | (refine AL.rp rfl rfl (rp_len_map Tryd.underlying9 rfl rfl (by assumption)) ?_) | (refine AL.rp rfl rfl (rp_len_own Tryd.underlying9 rfl rfl) ?_) | (refine AL.rp rfl rfl (rp_len_sl Tryd.underlying9 rfl rfl) ?_) | (refine AL.rp rfl rfl (rp_len_nil Tryd.underlying9 rfl rfl) ?_) | (refine AL.rp rfl rfl (rp_len_str Tryd.underlying9 rfl rfl) ?_))
   (first | (refine AL.rp rfl rfl (rp_leqT rfl rfl rfl (by first | assumption | omega | (dsimp only; omega))) ?_) | (refine AL.rp rfl rfl (rp_leqF rfl rfl rfl (by first | assumption | omega | (dsimp only; omega))) ?_) | (refine AL.rp rfl rfl (rp_leq rfl rfl rfl) ?_))
   refine AL.nil ?_
   try simp only [thenS, S.put]
   refine AW.condT rfl ?_
   refine AW.skip ?_
   try simp only [thenS]
   refine AW.seq ?_
   refine AW.block ?_
   refine AW.seq ?_
   refine AW.region ?_
   refine AL.rp rfl rfl (rp_move rfl rfl) ?_
   refine AL.rp rfl rfl (rp_move rfl rfl) ?_
   (first | (refine AL.rp rfl rfl (rp_len_map Tryd.underlying9 rfl rfl (by assumption)) ?_) | (refine AL.rp rfl rfl (rp_len_own Tryd.underlying9 rfl rfl) ?_) | (refine AL.rp rfl rfl (rp_len_sl Tryd.underlying9 rfl rfl) ?_) | (refine AL.rp rfl rfl (rp_len_nil Tryd.underlying9 rfl rfl) ?_) | (refine AL.rp rfl rfl (rp_len_str Tryd.underlying9 rfl rfl) ?_))
   (first | (refine AL.rp rfl rfl (rp_eqlT rfl rfl rfl (by first | assumption | omega | (dsimp only; omega))) ?_) | (refine AL.rp rfl rfl (rp_eqlF rfl rfl rfl (by first | assumption | omega | (dsimp only; omega))) ?_) | (refine AL.rp rfl rfl (rp_eql rfl rfl rfl) ?_))
   refine AL.rp rfl rfl (rp_move rfl rfl) ?_
   (first | (refine AL.noV rfl rfl rfl rfl ?_) | (refine AL.noU rfl ⟨_, rfl, rfl⟩ rfl ?_) | (refine AL.rpy rfl rfl rfl (rp_move rfl rfl) ?_))
   (first | (refine AL.noV rfl rfl rfl rfl ?_) | (refine AL.noU rfl ⟨_, rfl, rfl⟩ rfl ?_) | (refine AL.rpy rfl rfl rfl (rp_move rfl rfl) ?_))
   (first | (refine AL.noV rfl rfl rfl rfl ?_) | (refine AL.noU rfl ⟨_, rfl, rfl⟩ rfl ?_) | (refine AL.rpy rfl rfl rfl (rp_index_str Tryd.underlying9 rfl rfl rfl (by first | rfl | omega) (by assumption)) ?_))
   (first | (refine AL.noV rfl rfl rfl rfl ?_) | (refine AL.noU rfl ⟨_, rfl, rfl⟩ rfl ?_) | (refine AL.rpy rfl rfl rfl (rp_eqlT rfl rfl rfl (by first | assumption | omega | (dsimp only; omega))) ?_) | (refine AL.rpy rfl rfl rfl (rp_eqlF rfl rfl rfl (by first | assumption | omega | (dsimp only; omega))) ?_) | (refine AL.rpy rfl rfl rfl (rp_eql rfl rfl rfl) ?_))
   refine AL.rp rfl rfl (rp_pick rfl rfl rfl) ?_
   refine AL.nil ?_
   try simp only [thenS, S.put]
   refine AW.condF rfl ?_
   refine AW.skip ?_
   try simp only [thenS]
   refine AW.region ?_
   refine AL.rp rfl rfl (rp_move rfl rfl) ?_
   refine AL.rp rfl rfl (rp_add rfl rfl rfl (by first | omega | (dsimp only; omega))) ?_
   refine AL.rp rfl rfl (rp_assign rfl rfl) ?_
   refine AL.nil ?_
   try simp only [thenS, S.put]
   refine ⟨_, ?_, ⟨i + 1, z, by omega, by rw [e2]; exact hz, rfl⟩, ?_⟩
   ·rw [e1, e2]
    exact (Less.of rfl (by repeat (first | exact trivial | refine ⟨⟨_, rfl, Wk.refl _⟩, ?_⟩ | refine ⟨⟨_, rfl, Wk.nil _ _⟩, ?_⟩ | refine ⟨⟨_, rfl, Wk.junk _⟩, ?_⟩)) (by repeat (first | exact trivial | refine ⟨rfl, ?_⟩)) rfl)
   ·simp [S.nat, fnd]; omega
 ·by_cases he : i = n
  ·subst he
   obtain ⟨e1, e2⟩ := app (.inl hn.symm)
   have hle : i ≤ i := Nat.le_refl i
   refine AW.seq ?_
   refine AW.seq ?_
   refine AW.region ?_
   refine AL.rp rfl rfl (rp_move rfl rfl) ?_
   refine AL.rp rfl rfl (rp_move rfl rfl) ?_
   (first | (refine AL.rp rfl rfl (rp_len_map Tryd.underlying9 rfl rfl (by assumption)) ?_) | (refine AL.rp rfl rfl (rp_len_own Tryd.underlying9 rfl rfl) ?_) | (refine AL.rp rfl rfl (rp_len_sl Tryd.underlying9 rfl rfl) ?_) | (refine AL.rp rfl rfl (rp_len_nil Tryd.underlying9 rfl rfl) ?_) | (refine AL.rp rfl rfl (rp_len_str Tryd.underlying9 rfl rfl) ?_))
   (first | (refine AL.rp rfl rfl (rp_leqT rfl rfl rfl (by first | assumption | omega | (dsimp only; omega))) ?_) | (refine AL.rp rfl rfl (rp_leqF rfl rfl rfl (by first | assumption | omega | (dsimp only; omega))) ?_) | (refine AL.rp rfl rfl (rp_leq rfl rfl rfl) ?_))
   refine AL.nil ?_
   try simp only [thenS, S.put]
   refine AW.condT rfl ?_
   refine AW.skip ?_
   try simp only [thenS]
   refine AW.seq ?_
   refine AW.block ?_
   refine AW.seq ?_
   refine AW.region ?_
   refine AL.rp rfl rfl (rp_move rfl rfl) ?_
   refine AL.rp rfl rfl (rp_move rfl rfl) ?_
   (first | (refine AL.rp rfl rfl (rp_len_map Tryd.underlying9 rfl rfl (by assumption)) ?_) | (refine AL.rp rfl rfl (rp_len_own Tryd.underlying9 rfl rfl) ?_) | (refine AL.rp rfl rfl (rp_len_sl Tryd.underlying9 rfl rfl) ?_) | (refine AL.rp rfl rfl (rp_len_nil Tryd.underlying9 rfl rfl) ?_) | (refine AL.rp rfl rfl (rp_len_str Tryd.underlying9 rfl rfl) ?_))
   (first | (refine AL.rp rfl rfl (rp_eqlT rfl rfl rfl (by first | assumption | omega | (dsimp only; omega))) ?_) | (refine AL.rp rfl rfl (rp_eqlF rfl rfl rfl (by first | assumption | omega | (dsimp only; omega))) ?_) | (refine AL.rp rfl rfl (rp_eql rfl rfl rfl) ?_))
   refine AL.rp rfl rfl (rp_move rfl rfl) ?_
   (first | (refine AL.noV rfl rfl rfl rfl ?_) | (refine AL.noU rfl ⟨_, rfl, rfl⟩ rfl ?_) | (refine AL.rpy rfl rfl rfl (rp_move rfl rfl) ?_))
   (first | (refine AL.noV rfl rfl rfl rfl ?_) | (refine AL.noU rfl ⟨_, rfl, rfl⟩ rfl ?_) | (refine AL.rpy rfl rfl rfl (rp_move rfl rfl) ?_))
   (first | (refine AL.noV rfl rfl rfl rfl ?_) | (refine AL.noU rfl ⟨_, rfl, rfl⟩ rfl ?_) | (refine AL.rpy rfl rfl rfl (rp_index_str Tryd.underlying9 rfl rfl rfl (by first | rfl | omega) (by assumption)) ?_))
   (first | (refine AL.noV rfl rfl rfl rfl ?_) | (refine AL.noU rfl ⟨_, rfl, rfl⟩ rfl ?_) | (refine AL.rpy rfl rfl rfl (rp_eqlT rfl rfl rfl (by first | assumption | omega | (dsimp only; omega))) ?_) | (refine AL.rpy rfl rfl rfl (rp_eqlF rfl rfl rfl (by first | assumption | omega | (dsimp only; omega))) ?_) | (refine AL.rpy rfl rfl rfl (rp_eql rfl rfl rfl) ?_))
   refine AL.rp rfl rfl (rp_pick rfl rfl rfl) ?_
   refine AL.nil ?_
   try simp only [thenS, S.put]
   refine AW.condT rfl ?_
   refine AW.seq ?_
   refine AW.region ?_
   refine AL.rp rfl rfl (rp_move rfl rfl) ?_
   refine AL.rp rfl rfl (rp_move rfl rfl) ?_
   refine AL.rp rfl rfl (rp_move rfl rfl) ?_
   refine AL.rp rfl rfl (rp_move rfl rfl) ?_
   refine AL.rp rfl rfl (rp_slice_strb Tryd.underlying9 rfl rfl rfl rfl rfl rfl (by omega) (by omega)) ?_
   refine AL.sm rfl (sm_slice (vs := [(0, _)]) (zs := [.d (.p (.string ⟨#[]⟩))]) 27 Tryd.underlying53 inf9 rfl rfl (by decide) (by decide) (by decide) rfl rfl rfl rfl (by first | rfl | simp [S.clean, S.put, S.newObj, S.forget, V.has, V.hasL, junkIf, setL, V.cs, hasL_i, hasL_d, hasL_b, hasL_s, hasL_n, hasL_rep, hasL_flat, hasL_append, -List.map_set]) (by first | rfl | simp [S.clean, S.put, S.newObj, S.forget, V.has, V.hasL, junkIf, setL, V.cs, hasL_i, hasL_d, hasL_b, hasL_s, hasL_n, hasL_rep, hasL_flat, hasL_append, -List.map_set]) rfl) ?_
   refine AL.st rfl (st_appendF Tryd.underlying53 inf9 rfl (by decide) rfl rfl rfl rfl rfl rfl (by first | assumption | rfl | (simp; done)) (by first | rfl | simp [S.clean, S.put, S.newObj, S.forget, V.has, V.hasL, junkIf, setL, V.cs, hasL_i, hasL_d, hasL_b, hasL_s, hasL_n, hasL_rep, hasL_flat, hasL_append, -List.map_set]) rfl rfl rfl rfl rfl (by first | rfl | simp [S.clean, S.put, S.newObj, S.forget, V.has, V.hasL, junkIf, setL, V.cs, hasL_i, hasL_d, hasL_b, hasL_s, hasL_n, hasL_rep, hasL_flat, hasL_append, -List.map_set]) rfl (by decide) (by omega) (by omega) rfl) ?_
   simp only [S.forget, S.put, S.newObj, junkIf, V.has, V.hasL, hasL_i, hasL_b, hasL_s, hasL_d, hasL_n, hasL_rep, hasL_flat, hasL_append, List.map_cons, List.map_nil, List.filter_cons, List.filter_nil, Nat.reduceBNe, Nat.reduceBEq, eq_self, bne_self_eq_false,  Bool.not_true, Bool.not_false, Bool.or_false, Bool.or_true, Bool.false_or, Bool.true_or, if_true, if_false, Bool.false_eq_true, ite_true, ite_false, ↓reduceIte, beq_self_eq_true, Nat.reduceEqDiff]
   refine AL.rp rfl rfl (rp_assign rfl rfl) ?_
   refine AL.nil ?_
   try simp only [thenS, S.put, S.newObj, setL, V.cs, List.length_cons, List.length_nil, List.take_succ_cons, List.take_zero, List.drop_succ_cons, List.drop_zero, List.drop_nil, List.nil_append, List.cons_append, List.append_nil, Nat.zero_add, Nat.reduceAdd, List.map_cons, List.map_nil, List.set_cons_zero, List.set_cons_succ]
   refine AW.region ?_
   refine AL.rp rfl rfl (rp_move rfl rfl) ?_
   refine AL.rp rfl rfl (rp_add rfl rfl rfl (by first | omega | (dsimp only; omega))) ?_
   refine AL.rp rfl rfl (rp_assign rfl rfl) ?_
   refine AL.nil ?_
   try simp only [thenS, S.put]
   refine AW.region ?_
   refine AL.rp rfl rfl (rp_move rfl rfl) ?_
   refine AL.rp rfl rfl (rp_add rfl rfl rfl (by first | omega | (dsimp only; omega))) ?_
   refine AL.rp rfl rfl (rp_assign rfl rfl) ?_
   refine AL.nil ?_
   try simp only [thenS, S.put]
   refine ⟨⟨32, [(0, .s (bs t)), (3, .own 30 1 ((pcsE 32 t i).length + 1) false), (4, .i (i + 1 : Nat)), (5, .i (i + 1 : Nat))], [(30, ⟨9, strsC (pcsE 32 t i) ++ [.s (bs ((t.take i).drop (frmE 32 t i)))], false, 1⟩)], []⟩, (Less.of rfl (by repeat (first | exact trivial | refine ⟨⟨_, rfl, Wk.refl _⟩, ?_⟩ | refine ⟨⟨_, rfl, Wk.nil _ _⟩, ?_⟩ | refine ⟨⟨_, rfl, Wk.junk _⟩, ?_⟩)) (by repeat (first | exact trivial | refine ⟨rfl, ?_⟩)) rfl), ⟨i + 1, false, by omega, by rw [e2]; simp, ?_⟩, ?_⟩
   ·rw [e1, e2]
    simp [strsC]
   ·simp [S.nat, fnd]
  ·obtain rfl : i = n + 1 := by omega
   refine AW.freeze 3 16 ((pcsE 32 t (n + 1)).map fun b => [.p (.string (bs b))]) rfl rfl rfl (by rw [List.length_map]) (by omega) (rows1 rfl) ?_
   refine AW.seq ?_
   refine AW.seq ?_
   refine AW.region ?_
   refine AL.rp rfl rfl (rp_move rfl rfl) ?_
   refine AL.rp rfl rfl (rp_move rfl rfl) ?_
   (first | (refine AL.rp rfl rfl (rp_len_map Tryd.underlying9 rfl rfl (by assumption)) ?_) | (refine AL.rp rfl rfl (rp_len_own Tryd.underlying9 rfl rfl) ?_) | (refine AL.rp rfl rfl (rp_len_sl Tryd.underlying9 rfl rfl) ?_) | (refine AL.rp rfl rfl (rp_len_nil Tryd.underlying9 rfl rfl) ?_) | (refine AL.rp rfl rfl (rp_len_str Tryd.underlying9 rfl rfl) ?_))
   (first | (refine AL.rp rfl rfl (rp_leqT rfl rfl rfl (by first | assumption | omega | (dsimp only; omega))) ?_) | (refine AL.rp rfl rfl (rp_leqF rfl rfl rfl (by first | assumption | omega | (dsimp only; omega))) ?_) | (refine AL.rp rfl rfl (rp_leq rfl rfl rfl) ?_))
   refine AL.nil ?_
   try simp only [thenS, S.put]
   refine AW.condF rfl ?_
   refine AW.exit ?_
   try simp only [thenS, inBlockS, ↓reduceIte, Nat.reduceEqDiff]
   refine AW.seq ?_
   refine AW.region ?_
   refine AL.rp rfl rfl (rp_move rfl rfl) ?_
   refine AL.rp rfl rfl (rp_assign rfl rfl) ?_
   refine AL.nil ?_
   try simp only [thenS, S.put]
   refine AW.ret ?_
   exact ⟨[_], ⟨rfl, trivial⟩, rfl, by simp [tupOf, V.pure, V.has, V.hasL]⟩
end Go.Proofs.YtlgnjehfojogmaaDoor
namespace Go.Proofs.YtlgnjehfojogmaaDoor
open Go.RowKit
set_option linter.unusedSimpArgs false
set_option linter.unusedVariables false
set_option maxRecDepth 100000

section
variable {c : Cx} {s : S} {o : Oper}
theorem rp_sub8 {t t' : TypeId} {x y : Operand} {m n : Int} (ho : o.op = .binOp .sub t x y t') (hx : s.ev x = some (.d (.p (.int .u8 m)))) (hy : s.ev y = some (.d (.p (.int .u8 n)))) (h : 0 ≤ m - n ∧ m - n ≤ 255) : RP c o s (.d (.p (.int .u8 (m - n)))) :=
 rp_bin ho hx hy fun w => by
  have : IntKind.u8.wrap (m - n) = m - n := by rw [wrap8]; omega
  simp [eqGuard, binOp, Op.intArith, this]
end
theorem digit_some {b : UInt8} (h : 48 ≤ b.toNat ∧ b.toNat ≤ 57) : Lib.digitVal b = some (b.toNat - 48) := by unfold Lib.digitVal; rw [if_pos h]
theorem digit_none {b : UInt8} (h : ¬ (48 ≤ b.toNat ∧ b.toNat ≤ 57)) : Lib.digitVal b = none := by unfold Lib.digitVal; rw [if_neg h]
theorem dec_none {l : List UInt8} {k : Nat} {b : UInt8} (hb : l[k]? = some b) (h : ¬ (48 ≤ b.toNat ∧ b.toNat ≤ 57)) : Lib.decFrom 0 l = none := by
 cases hd : Lib.decFrom 0 l with
 | none => rfl
 | some n =>
  obtain ⟨d, hd'⟩ := Lib.digit_of_decFrom l 0 n hd k b hb
  rw [digit_none h] at hd'
  cases hd'
theorem b48 {b : UInt8} : b.toNat = 48 ↔ b = 48 := by
 constructor
 ·intro h; exact UInt8.toNat_inj.1 h
 ·rintro rfl; rfl
end Go.Proofs.YtlgnjehfojogmaaDoor
