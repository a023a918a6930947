/- Part 3 of what the law CertainMakes rests on. -/
import Derived.ProofKit
import Derived.OpenShut
import Derived.ShutString
import Derived.ChangeOld
import Derived.SizedLaws
import Derived.Deep.Slices
import Derived.Lib.SmallJoins
import Derived.Test.YthiknkcigcglkaaDoorPkCe1
import Derived.Test.YthiknkcigcglkaaDoorPkCe2
namespace Go.Proofs.YthiknkcigcglkaaDoor
open Go.RowKit
set_option linter.unusedSimpArgs false
set_option linter.unusedVariables false
set_option maxRecDepth 100000
set_option maxHeartbeats 8000000
open Go.ChangeShapes Go.WideShapes Go.ChangeAt Go.RowKit Go.Deep Go.Joins
def lk {α : Type} : List (Nat × α) → Nat → Option α
  | [], _ => none
  | p :: l, t => cond (Nat.beq p.1 t) (some p.2) (lk l t)
theorem lk_mem {α : Type} {P : Nat → α → Prop} : ∀ {L : List (Nat × α)} {t : Nat} {d : α}, (∀ p ∈ L, P p.1 p.2) → lk L t = some d → P t d
  | [], t, d, _, h => by cases h
  | p :: l, t, d, hL, h => by
    rw [lk] at h
    cases hb : Nat.beq p.1 t with
    | true =>
      rw [hb] at h
      simp only [cond_true, Option.some.injEq] at h
      rw [← Nat.eq_of_beq_eq_true hb, ← h]
      exact hL p List.mem_cons_self
    | false =>
      rw [hb] at h
      exact lk_mem (fun q hq => hL q (List.mem_cons_of_mem _ hq)) h
def uL : List (Nat × TypeDesc) := [(3, (TypeDesc.int IntKind.i64)),
  (60, (TypeDesc.struct #[{ name := "In", type := 3, offset := 0, embedded := false, tag := "", pkgPath := "", byteOffset := 0 }, { name := "Out", type := 3, offset := 1, embedded := false, tag := "", pkgPath := "", byteOffset := 8 }, { name := "Weight", type := 3, offset := 2, embedded := false, tag := "", pkgPath := "", byteOffset := 16 }, { name := "To", type := 3, offset := 3, embedded := false, tag := "", pkgPath := "", byteOffset := 24 }])),
  (31, (TypeDesc.slice 60)),
  (24, (TypeDesc.struct #[{ name := "Start", type := 3, offset := 0, embedded := false, tag := "", pkgPath := "", byteOffset := 0 }, { name := "States", type := 22, offset := 1, embedded := false, tag := "", pkgPath := "", byteOffset := 8 }])),
  (22, (TypeDesc.slice 33)),
  (33, (TypeDesc.struct #[{ name := "Final", type := 3, offset := 0, embedded := false, tag := "", pkgPath := "", byteOffset := 0 }, { name := "Arcs", type := 31, offset := 1, embedded := false, tag := "", pkgPath := "", byteOffset := 8 }])),
  (35, (TypeDesc.struct #[{ name := "Acceptor", type := 4, offset := 0, embedded := false, tag := "", pkgPath := "", byteOffset := 0 }, { name := "Full", type := 4, offset := 1, embedded := false, tag := "", pkgPath := "", byteOffset := 1 }, { name := "Certain", type := 4, offset := 2, embedded := false, tag := "", pkgPath := "", byteOffset := 2 }, { name := "Sorted", type := 4, offset := 3, embedded := false, tag := "", pkgPath := "", byteOffset := 3 }, { name := "Plain", type := 4, offset := 4, embedded := false, tag := "", pkgPath := "", byteOffset := 4 }])),
  (61, (TypeDesc.slice 3)),
  (4, TypeDesc.bool),
  (51, (TypeDesc.struct #[{ name := "in", type := 3, offset := 0, embedded := false, tag := "", pkgPath := "tropica/certain", byteOffset := 0 }, { name := "out", type := 3, offset := 1, embedded := false, tag := "", pkgPath := "tropica/certain", byteOffset := 8 }])),
  (39, (TypeDesc.struct #[{ name := "state", type := 3, offset := 0, embedded := false, tag := "", pkgPath := "tropica/certain", byteOffset := 0 }, { name := "left", type := 3, offset := 1, embedded := false, tag := "", pkgPath := "tropica/certain", byteOffset := 8 }])),
  (62, (TypeDesc.slice 61)),
  (47, (TypeDesc.map 51 57)),
  (45, (TypeDesc.slice 41)),
  (41, (TypeDesc.slice 39)),
  (57, (TypeDesc.map 3 3)),
  (77, (TypeDesc.struct #[{ name := "addr", type := 74, offset := 0, embedded := false, tag := "", pkgPath := "strings", byteOffset := 0 }, { name := "buf", type := 75, offset := 1, embedded := false, tag := "", pkgPath := "strings", byteOffset := 8 }])),
  (9, TypeDesc.string),
  (73, (TypeDesc.array 2 3)),
  (74, (TypeDesc.pointer 77)),
  (75, (TypeDesc.slice 5)),
  (49, (TypeDesc.slice 51)),
  (44, (TypeDesc.map 9 43)),
  (43, (TypeDesc.struct #[{ name := "at", type := 3, offset := 0, embedded := false, tag := "", pkgPath := "tropica/certain", byteOffset := 0 }])),
  (108, (TypeDesc.int IntKind.u64)),
  (72, (TypeDesc.map 73 3)),
  (113, TypeDesc.unsafePointer),
  (0, (TypeDesc.tuple #[])),
  (5, (TypeDesc.int IntKind.u8)),
  (86, (TypeDesc.int IntKind.u64)),
  (99, (TypeDesc.int IntKind.i64)),
  (100, (TypeDesc.tuple #[3, 99])),
  (83, (TypeDesc.tuple #[3, 4])),
  (106, (TypeDesc.int IntKind.u32)),
  (116, (TypeDesc.int IntKind.u64)),
  (120, (TypeDesc.pointer 3)),
  (131, (TypeDesc.pointer 116)),
  (132, (TypeDesc.tuple #[3, 3])),
  (97, (TypeDesc.pointer 5)),
  (40, (TypeDesc.slice 39)),
  (89, (TypeDesc.func #[39, 39] #[3] false)),
  (54, (TypeDesc.func #[51, 51] #[3] false)),
  (138, (TypeDesc.array 20 108))]
theorem uT {t : Nat} {d : TypeDesc} (h : lk uL t = some d) : Tryd.prog.underlying t = some d := by
  refine lk_mem (P := fun t d => Tryd.prog.underlying t = some d) ?_ h
  simp only [uL, List.forall_mem_cons]
  exact ⟨Tryd.underlying3, Tryd.underlying60, Tryd.underlying31, Tryd.underlying24, Tryd.underlying22, Tryd.underlying33, Tryd.underlying35, Tryd.underlying61, Tryd.underlying4, Tryd.underlying51, Tryd.underlying39, Tryd.underlying62, Tryd.underlying47, Tryd.underlying45, Tryd.underlying41, Tryd.underlying57, Tryd.underlying77, Tryd.underlying9, Tryd.underlying73, Tryd.underlying74, Tryd.underlying75, Tryd.underlying49, Tryd.underlying44, Tryd.underlying43, Tryd.underlying108, Tryd.underlying72, Tryd.underlying113, Tryd.underlying0, Tryd.underlying5, Tryd.underlying86, Tryd.underlying99, Tryd.underlying100, Tryd.underlying83, Tryd.underlying106, Tryd.underlying116, Tryd.underlying120, Tryd.underlying131, Tryd.underlying132, Tryd.underlying97, Tryd.underlying40, Tryd.underlying89, Tryd.underlying54, Tryd.underlying138, fun _ h => by cases h⟩
def iL : List (Nat × Nat × Nat × Value) := [(3, 1, 8, (Value.int IntKind.i64 0)),
  (60, 4, 32, (.agg #[Value.int IntKind.i64 0, Value.int IntKind.i64 0, Value.int IntKind.i64 0, Value.int IntKind.i64 0])),
  (24, 2, 32, (.agg #[Value.int IntKind.i64 0, Value.slice none 0 0])),
  (4, 1, 1, (Value.bool false)),
  (33, 2, 32, (.agg #[Value.int IntKind.i64 0, Value.slice none 0 0])),
  (22, 1, 24, (Value.slice none 0 0)),
  (51, 2, 16, (.agg #[Value.int IntKind.i64 0, Value.int IntKind.i64 0])),
  (35, 5, 5, (.agg #[Value.bool false, Value.bool false, Value.bool false, Value.bool false, Value.bool false])),
  (39, 2, 16, (.agg #[Value.int IntKind.i64 0, Value.int IntKind.i64 0])),
  (31, 1, 24, (Value.slice none 0 0)),
  (57, 1, 8, (Value.map none)),
  (43, 1, 8, (.agg #[Value.int IntKind.i64 0])),
  (61, 1, 24, (Value.slice none 0 0)),
  (41, 1, 24, (Value.slice none 0 0)),
  (73, 2, 16, (.agg #[Value.int IntKind.i64 0, Value.int IntKind.i64 0])),
  (75, 1, 24, (Value.slice none 0 0)),
  (74, 1, 8, (Value.pointer none)),
  (77, 2, 32, (.agg #[Value.pointer none, Value.slice none 0 0])),
  (5, 1, 1, (Value.int IntKind.u8 0))]
theorem iT {t sz bt : Nat} {z : Value} (h : lk iL t = some (sz, bt, z)) : Inf Tryd.prog t sz bt z := by
  refine lk_mem (P := fun t d => Inf Tryd.prog t d.1 d.2.1 d.2.2) ?_ h
  simp only [iL, List.forall_mem_cons]
  exact ⟨inf3, inf60, inf24, inf4, inf33, inf22, inf51, inf35, inf39, inf31, inf57, inf43, inf61, inf41, inf73, inf75, inf74, inf77, inf5, fun _ h => by cases h⟩
section
variable {c : Cx} {s : S} {o : Oper} {Q : Exit → S → Prop} {ops : Array Oper} {rest : List Oper}
theorem q9fr {t : TypeId} {x : Operand} {f r k k' : Nat} {fs : Array Field} {fd : Field} {sz bt : Nat} {z : Value} (hP : c.P = Tryd.prog) (ho : o.op = .fieldAddr t x f) (hx : s.ev x = some (.ref r k)) (hu : lk uL t = some (.struct fs))
    (hf : fs[f]? = some fd) (hi : lk iL fd.type = some (sz, bt, z)) (hsz : sz ≠ 0) (hk : k + fd.offset = k') : RP c o s (.ref r k') := rp_field_ref (by rw [hP]; exact uT hu) ho hx hf (by rw [hP]; exact iT hi) hsz hk
theorem q9fa {t : TypeId} {x : Operand} {f k : Nat} {row : List D} {fs : Array Field} {fd : Field} {sz bt : Nat} {z : Value} (hP : c.P = Tryd.prog) (ho : o.op = .fieldAddr t x f) (hx : s.ev x = some (.ad row)) (hu : lk uL t = some (.struct fs))
    (hf : fs[f]? = some fd) (hi : lk iL fd.type = some (sz, bt, z)) (hsz : sz ≠ 0) (hk : fd.offset = k) : RP c o s (.ad (row.drop k)) := rp_field_ad (by rw [hP]; exact uT hu) ho hx hf (by rw [hP]; exact iT hi) hsz hk
theorem q9lr {t : TypeId} {d : TypeDesc} {x : Operand} {r k : Nat} {row : Row} {v : V} (hP : c.P = Tryd.prog) (ho : o.op = .load t x) (hu : lk uL t = some d) (hd : isAggD d = false) (hx : s.ev x = some (.ref r k)) (hr : fnd s.H r = some row) (hn : row.nil = false) (hv : row.cells[k]? = some v) : RD c o s v := rd_load_ref (by rw [hP]; exact uT hu) hd ho hx hr hn hv
theorem q9la {t : TypeId} {d : TypeDesc} {x : Operand} {row : List D} {v : D} (hP : c.P = Tryd.prog) (ho : o.op = .load t x) (hu : lk uL t = some d) (hd : isAggD d = false) (hx : s.ev x = some (.ad row)) (hv : row[0]? = some v) : RD c o s (.d v) := rd_load_ad (by rw [hP]; exact uT hu) hd ho hx hv
theorem q9lsr {t : TypeId} {d : TypeDesc} {x : Operand} {r k sz bt : Nat} {z : Value} {row : Row} {l : List V} (hP : c.P = Tryd.prog) (ho : o.op = .load t x) (hu : lk uL t = some d) (hd : isAggD d = true) (hi : lk iL t = some (sz, bt, z)) (hx : s.ev x = some (.ref r k)) (hr : fnd s.H r = some row) (hn : row.nil = false)
    (hl : (row.cells.drop k).take sz = l) (hlen : l.length = sz) : RD c o s (.agg l) := rd_loads_ref (by rw [hP]; exact uT hu) hd (by rw [hP]; exact iT hi) ho hx hr hn hl hlen
theorem q9lsa {t : TypeId} {d : TypeDesc} {x : Operand} {sz bt : Nat} {z : Value} {row l : List D} (hP : c.P = Tryd.prog) (ho : o.op = .load t x) (hu : lk uL t = some d) (hd : isAggD d = true) (hi : lk iL t = some (sz, bt, z)) (hx : s.ev x = some (.ad row))
    (hl : row.take sz = l) (hlen : l.length = sz) : RD c o s (.agg (l.map V.d)) := rd_loads_ad (by rw [hP]; exact uT hu) hd (by rw [hP]; exact iT hi) ho hx hl hlen
theorem q9lo {t e : TypeId} {x : Operand} {r sz n : Nat} {z : Bool} (hP : c.P = Tryd.prog) (ho : o.op = .call { callee := .builtin .len, args := #[x], argTypes := #[t] }) (hu : lk uL t = some (.slice e)) (hx : s.ev x = some (.own r sz n z)) : RP c o s (.i (n : Int)) := rp_len_own (by rw [hP]; exact uT hu) ho hx
theorem q9xo {t e : TypeId} {x i : Operand} {r sz n bt k : Nat} {z : Value} {n' : Int} {kd : IntKind} (hP : c.P = Tryd.prog) (ho : o.op = .indexAddr t x i) (hu : lk uL t = some (.slice e)) (hi : lk iL e = some (sz, bt, z)) (hx : s.ev x = some (.own r sz n false)) (hy : s.ev i = some (.d (.p (.int kd n'))))
    (hk : n' = (k : Int)) (hlt : k < n) : RP c o s (.ref r (k * sz)) := rp_index_own (by rw [hP]; exact uT hu) (by rw [hP]; exact iT hi) ho hx hy hk hlt
theorem q9st {t : TypeId} {sz bt : Nat} {z : Value} {x y : Operand} {r k : Nat} {row : Row} {v : V} {l : List V} (hP : c.P = Tryd.prog) (ho : o.op = .store t x y) (hi : lk iL t = some (sz, bt, z)) (hd : o.dst = none) (hx : s.ev x = some (.ref r k)) (hy : s.ev y = some v) (hr : fnd s.H r = some row) (hn : row.nil = false)
    (hok : v.ok = true) (hl : v.cs.length = sz) (hfit : k + sz ≤ row.cells.length) (hset : setL row.cells k v.cs = l) : Step c o s (fun s' => s' = { s with H := (r, { row with cells := l }) :: s.H }) := st_store_any (by rw [hP]; exact iT hi) ho hd hx hy hr hn hok hl hfit hset
section
variable {α : Type}
theorem q9xm {t e : TypeId} {x i : Operand} {sz bt bt' k : Nat} {z : Value} {l : List α} {f : α → List D} {y : α} {n' : Int} {kd : IntKind} (hP : c.P = Tryd.prog) (ho : o.op = .indexAddr t x i) (hu : lk uL t = some (.slice e)) (hi : lk iL e = some (sz, bt, z)) (hx : s.ev x = some (.d (.sl sz bt' (l.map f)))) (hy : s.ev i = some (.d (.p (.int kd n'))))
    (hk : n' = (k : Int)) (hl : l[k]? = some y) : RP c o s (.ad (f y)) := rp_index_map (by rw [hP]; exact uT hu) (by rw [hP]; exact iT hi) ho hx hy hk hl
theorem q9lm {t e : TypeId} {x : Operand} {sz bt' n : Nat} {l : List α} {f : α → List D} (hP : c.P = Tryd.prog) (ho : o.op = .call { callee := .builtin .len, args := #[x], argTypes := #[t] }) (hu : lk uL t = some (.slice e)) (hx : s.ev x = some (.d (.sl sz bt' (l.map f)))) (hl : l.length = n) : RP c o s (.i (n : Int)) := rp_len_map (by rw [hP]; exact uT hu) ho hx hl
theorem q9ll {t : TypeId} {d : TypeDesc} {x : Operand} {r k : Nat} {row : Row} {l : List α} {f : α → V} {y : α} (hP : c.P = Tryd.prog) (ho : o.op = .load t x) (hu : lk uL t = some d) (hd : isAggD d = false) (hx : s.ev x = some (.ref r (k * 1))) (hr : fnd s.H r = some row) (hn : row.nil = false) (hf : row.cells = l.map f) (hl : l[k]? = some y) : RD c o s (f y) := rd_load_map (by rw [hP]; exact uT hu) hd ho hx hr hn hf hl
end
theorem AL.z {v : V} (hN : AL c ops rest Q (s.put o.dst v)) (h : RD c o s v := by first | exact (rp_move rfl rfl).rd | exact (rp_assign rfl rfl).rd | exact (q9fr rfl rfl rfl rfl rfl rfl (by decide) rfl).rd | exact (rp_extract rfl rfl rfl).rd | exact (rp_pick rfl rfl rfl).rd | exact q9lr rfl rfl rfl rfl rfl rfl rfl rfl | exact q9la rfl rfl rfl rfl rfl rfl | exact q9lsr rfl rfl rfl rfl rfl rfl rfl rfl rfl rfl | exact q9lsa rfl rfl rfl rfl rfl rfl rfl rfl | exact (q9fa rfl rfl rfl rfl rfl rfl (by decide) rfl).rd | exact (rp_add rfl rfl rfl (by first | omega | (dsimp only; omega))).rd | exact (rp_sub rfl rfl rfl (by first | omega | (dsimp only; omega))).rd | exact (rp_mul rfl rfl rfl (by first | omega | (dsimp only; omega))).rd | exact (q9lm rfl rfl rfl rfl (by assumption)).rd | exact (q9lo rfl rfl rfl rfl).rd | exact (q9xo rfl rfl rfl rfl rfl rfl rfl (by first | assumption | omega)).rd | exact (q9xm rfl rfl rfl rfl rfl rfl rfl (by assumption)).rd | exact q9ll rfl rfl rfl rfl rfl rfl rfl rfl (by assumption) | exact (rp_not rfl rfl).rd | exact (rp_lssT rfl rfl rfl (by first | assumption | omega | (dsimp only; omega))).rd | exact (rp_lssF rfl rfl rfl (by first | assumption | omega | (dsimp only; omega))).rd | exact (rp_leqT rfl rfl rfl (by first | assumption | omega | (dsimp only; omega))).rd | exact (rp_leqF rfl rfl rfl (by first | assumption | omega | (dsimp only; omega))).rd | exact (rp_gtrT rfl rfl rfl (by first | assumption | omega | (dsimp only; omega))).rd | exact (rp_gtrF rfl rfl rfl (by first | assumption | omega | (dsimp only; omega))).rd | exact (rp_geqT rfl rfl rfl (by first | assumption | omega | (dsimp only; omega))).rd | exact (rp_geqF rfl rfl rfl (by first | assumption | omega | (dsimp only; omega))).rd | exact (rp_eqlT rfl rfl rfl (by first | assumption | omega | (dsimp only; omega))).rd | exact (rp_eqlF rfl rfl rfl (by first | assumption | omega | (dsimp only; omega))).rd | exact (rp_neqT rfl rfl rfl (by first | assumption | omega | (dsimp only; omega))).rd | exact (rp_neqF rfl rfl rfl (by first | assumption | omega | (dsimp only; omega))).rd) (hg : o.guard = none := by exact rfl) (hd : dok s o = true := by exact rfl) : AL c ops (o :: rest) Q s := AL.rd hg hd h hN
theorem AL.y {X : S} (hN : AL c ops rest Q X) (h : Step c o s (fun s' => s' = X) := by exact q9st rfl rfl rfl rfl rfl rfl rfl rfl rfl rfl (by first | decide | (simp; done) | (simp; omega)) rfl) (hg : o.guard = none := by exact rfl) : AL c ops (o :: rest) Q s := AL.st hg h hN
theorem AL.zy {v : V} {j : Nat} {b : Bool} (hN : AL c ops rest Q (s.put o.dst v)) (hg : o.guard = some (j, b) := by exact rfl) (hy : yld ops s j = some b := by exact rfl) (hd : dok s o = true := by exact rfl) (h : RD c o s v := by first | exact (rp_move rfl rfl).rd | exact (rp_assign rfl rfl).rd | exact (q9fr rfl rfl rfl rfl rfl rfl (by decide) rfl).rd | exact (rp_extract rfl rfl rfl).rd | exact (rp_pick rfl rfl rfl).rd | exact q9lr rfl rfl rfl rfl rfl rfl rfl rfl | exact q9la rfl rfl rfl rfl rfl rfl | exact q9lsr rfl rfl rfl rfl rfl rfl rfl rfl rfl rfl | exact q9lsa rfl rfl rfl rfl rfl rfl rfl rfl | exact (q9fa rfl rfl rfl rfl rfl rfl (by decide) rfl).rd | exact (rp_add rfl rfl rfl (by first | omega | (dsimp only; omega))).rd | exact (rp_sub rfl rfl rfl (by first | omega | (dsimp only; omega))).rd | exact (rp_mul rfl rfl rfl (by first | omega | (dsimp only; omega))).rd | exact (q9lm rfl rfl rfl rfl (by assumption)).rd | exact (q9lo rfl rfl rfl rfl).rd | exact (q9xo rfl rfl rfl rfl rfl rfl rfl (by first | assumption | omega)).rd | exact (q9xm rfl rfl rfl rfl rfl rfl rfl (by assumption)).rd | exact q9ll rfl rfl rfl rfl rfl rfl rfl rfl (by assumption) | exact (rp_not rfl rfl).rd | exact (rp_lssT rfl rfl rfl (by first | assumption | omega | (dsimp only; omega))).rd | exact (rp_lssF rfl rfl rfl (by first | assumption | omega | (dsimp only; omega))).rd | exact (rp_leqT rfl rfl rfl (by first | assumption | omega | (dsimp only; omega))).rd | exact (rp_leqF rfl rfl rfl (by first | assumption | omega | (dsimp only; omega))).rd | exact (rp_gtrT rfl rfl rfl (by first | assumption | omega | (dsimp only; omega))).rd | exact (rp_gtrF rfl rfl rfl (by first | assumption | omega | (dsimp only; omega))).rd | exact (rp_geqT rfl rfl rfl (by first | assumption | omega | (dsimp only; omega))).rd | exact (rp_geqF rfl rfl rfl (by first | assumption | omega | (dsimp only; omega))).rd | exact (rp_eqlT rfl rfl rfl (by first | assumption | omega | (dsimp only; omega))).rd | exact (rp_eqlF rfl rfl rfl (by first | assumption | omega | (dsimp only; omega))).rd | exact (rp_neqT rfl rfl rfl (by first | assumption | omega | (dsimp only; omega))).rd | exact (rp_neqF rfl rfl rfl (by first | assumption | omega | (dsimp only; omega))).rd) : AL c ops (o :: rest) Q s := AL.rdy hg hy hd h hN
theorem AD1.z {L : List Oper} {need : Nat → Bool} {i : Nat} {l : List (Nat × Bool)} {v : V} (hN : AD1 c L.toArray Q need l (s.put o.dst v)) (hi : L[i]? = some o := by exact rfl) (hg : o.guard = none := by exact rfl) (hd : dok s o = true := by exact rfl) (hp : noP Q := by exact fun _ _ h => h) (h : RD c o s v := by first | exact (rp_move rfl rfl).rd | exact (rp_assign rfl rfl).rd | exact (q9fr rfl rfl rfl rfl rfl rfl (by decide) rfl).rd | exact (rp_extract rfl rfl rfl).rd | exact (rp_pick rfl rfl rfl).rd | exact q9lr rfl rfl rfl rfl rfl rfl rfl rfl | exact q9la rfl rfl rfl rfl rfl rfl | exact q9lsr rfl rfl rfl rfl rfl rfl rfl rfl rfl rfl | exact q9lsa rfl rfl rfl rfl rfl rfl rfl rfl | exact (q9fa rfl rfl rfl rfl rfl rfl (by decide) rfl).rd | exact (rp_add rfl rfl rfl (by first | omega | (dsimp only; omega))).rd | exact (rp_sub rfl rfl rfl (by first | omega | (dsimp only; omega))).rd | exact (rp_mul rfl rfl rfl (by first | omega | (dsimp only; omega))).rd | exact (q9lm rfl rfl rfl rfl (by assumption)).rd | exact (q9lo rfl rfl rfl rfl).rd | exact (q9xo rfl rfl rfl rfl rfl rfl rfl (by first | assumption | omega)).rd | exact (q9xm rfl rfl rfl rfl rfl rfl rfl (by assumption)).rd | exact q9ll rfl rfl rfl rfl rfl rfl rfl rfl (by assumption) | exact (rp_not rfl rfl).rd | exact (rp_lssT rfl rfl rfl (by first | assumption | omega | (dsimp only; omega))).rd | exact (rp_lssF rfl rfl rfl (by first | assumption | omega | (dsimp only; omega))).rd | exact (rp_leqT rfl rfl rfl (by first | assumption | omega | (dsimp only; omega))).rd | exact (rp_leqF rfl rfl rfl (by first | assumption | omega | (dsimp only; omega))).rd | exact (rp_gtrT rfl rfl rfl (by first | assumption | omega | (dsimp only; omega))).rd | exact (rp_gtrF rfl rfl rfl (by first | assumption | omega | (dsimp only; omega))).rd | exact (rp_geqT rfl rfl rfl (by first | assumption | omega | (dsimp only; omega))).rd | exact (rp_geqF rfl rfl rfl (by first | assumption | omega | (dsimp only; omega))).rd | exact (rp_eqlT rfl rfl rfl (by first | assumption | omega | (dsimp only; omega))).rd | exact (rp_eqlF rfl rfl rfl (by first | assumption | omega | (dsimp only; omega))).rd | exact (rp_neqT rfl rfl rfl (by first | assumption | omega | (dsimp only; omega))).rd | exact (rp_neqF rfl rfl rfl (by first | assumption | omega | (dsimp only; omega))).rd) : AD1 c L.toArray Q need ((i, true) :: l) s := AD1.rd hi hg hd hp h hN
theorem AD1.zy {L : List Oper} {need : Nat → Bool} {i : Nat} {l : List (Nat × Bool)} {v : V} {j : Nat} {b : Bool} (hN : AD1 c L.toArray Q need l (s.put o.dst v)) (hi : L[i]? = some o := by exact rfl) (hg : o.guard = some (j, b) := by exact rfl) (hy : yld L.toArray s j = some b := by exact rfl) (hd : dok s o = true := by exact rfl) (hp : noP Q := by exact fun _ _ h => h) (h : RD c o s v := by first | exact (rp_move rfl rfl).rd | exact (rp_assign rfl rfl).rd | exact (q9fr rfl rfl rfl rfl rfl rfl (by decide) rfl).rd | exact (rp_extract rfl rfl rfl).rd | exact (rp_pick rfl rfl rfl).rd | exact q9lr rfl rfl rfl rfl rfl rfl rfl rfl | exact q9la rfl rfl rfl rfl rfl rfl | exact q9lsr rfl rfl rfl rfl rfl rfl rfl rfl rfl rfl | exact q9lsa rfl rfl rfl rfl rfl rfl rfl rfl | exact (q9fa rfl rfl rfl rfl rfl rfl (by decide) rfl).rd | exact (rp_add rfl rfl rfl (by first | omega | (dsimp only; omega))).rd | exact (rp_sub rfl rfl rfl (by first | omega | (dsimp only; omega))).rd | exact (rp_mul rfl rfl rfl (by first | omega | (dsimp only; omega))).rd | exact (q9lm rfl rfl rfl rfl (by assumption)).rd | exact (q9lo rfl rfl rfl rfl).rd | exact (q9xo rfl rfl rfl rfl rfl rfl rfl (by first | assumption | omega)).rd | exact (q9xm rfl rfl rfl rfl rfl rfl rfl (by assumption)).rd | exact q9ll rfl rfl rfl rfl rfl rfl rfl rfl (by assumption) | exact (rp_not rfl rfl).rd | exact (rp_lssT rfl rfl rfl (by first | assumption | omega | (dsimp only; omega))).rd | exact (rp_lssF rfl rfl rfl (by first | assumption | omega | (dsimp only; omega))).rd | exact (rp_leqT rfl rfl rfl (by first | assumption | omega | (dsimp only; omega))).rd | exact (rp_leqF rfl rfl rfl (by first | assumption | omega | (dsimp only; omega))).rd | exact (rp_gtrT rfl rfl rfl (by first | assumption | omega | (dsimp only; omega))).rd | exact (rp_gtrF rfl rfl rfl (by first | assumption | omega | (dsimp only; omega))).rd | exact (rp_geqT rfl rfl rfl (by first | assumption | omega | (dsimp only; omega))).rd | exact (rp_geqF rfl rfl rfl (by first | assumption | omega | (dsimp only; omega))).rd | exact (rp_eqlT rfl rfl rfl (by first | assumption | omega | (dsimp only; omega))).rd | exact (rp_eqlF rfl rfl rfl (by first | assumption | omega | (dsimp only; omega))).rd | exact (rp_neqT rfl rfl rfl (by first | assumption | omega | (dsimp only; omega))).rd | exact (rp_neqF rfl rfl rfl (by first | assumption | omega | (dsimp only; omega))).rd) : AD1 c L.toArray Q need ((i, true) :: l) s := AD1.rdy hi hg hy hd hp h hN
theorem AW.sr {id : Nat} {l : List Oper} {y : Code} (h : AL c l.toArray l (thenS (AW c y Q) Q) s) : AW c (.seq (.region id l.toArray false) y) Q s := AW.seq (AW.region h)
end
theorem Less.a0 {s s' : S} (hT : LT s s'.T := by repeat (first | exact trivial | refine ⟨⟨_, rfl, Wk.refl _⟩, ?_⟩ | refine ⟨⟨_, rfl, Wk.nil _ _⟩, ?_⟩ | refine ⟨⟨_, rfl, Wk.junk _⟩, ?_⟩)) (hH : LH s s'.H := by repeat (first | exact trivial | refine ⟨rfl, ?_⟩)) (hn : s'.n = s.n := by exact rfl) (hK : s'.K = s.K := by exact rfl) : Less s' s := Less.of hn hT hH hK
theorem nz {α : Type} : (∀ (a : α) (l : List α), (a :: l).length = l.length + 1) ∧ (([] : List α).length = 0) ∧ (∀ (n : Nat) (a : α) (l : List α), (a :: l).take (n + 1) = a :: l.take n) ∧ (∀ l : List α, l.take 0 = []) ∧ (∀ (n : Nat) (a : α) (l : List α), (a :: l).drop (n + 1) = l.drop n) ∧ (∀ l : List α, l.drop 0 = l) ∧ (∀ n : Nat, ([] : List α).drop n = []) ∧ (∀ l : List α, [] ++ l = l) ∧ (∀ (a : α) (l m : List α), (a :: l) ++ m = a :: (l ++ m)) ∧ (∀ l : List α, l ++ [] = l) :=
  ⟨fun _ _ => rfl, rfl, fun _ _ _ => rfl, fun _ => rfl, fun _ _ _ => rfl, fun _ => rfl, fun _ => List.drop_nil, fun _ => rfl, fun _ _ _ => rfl, List.append_nil⟩
theorem nm {α β : Type} : (∀ (f : α → β) (a : α) (l : List α), (a :: l).map f = f a :: l.map f) ∧ (∀ f : α → β, ([] : List α).map f = []) := ⟨fun _ _ _ => rfl, fun _ => rfl⟩
theorem ns {α : Type} : (∀ (a b : α) (l : List α), (a :: l).set 0 b = b :: l) ∧ (∀ (n : Nat) (a b : α) (l : List α), (a :: l).set (n + 1) b = a :: l.set n b) := ⟨fun _ _ _ => rfl, fun _ _ _ _ => rfl⟩
theorem nd : (type_of% @thenS.eq_1) ∧ (type_of% @S.put.eq_1) ∧ (type_of% @S.newObj.eq_1) ∧ (∀ n : Nat, 0 + n = n) := ⟨@thenS.eq_1, @S.put.eq_1, @S.newObj.eq_1, Nat.zero_add⟩
theorem nh : (type_of% @hasL_i) ∧ (type_of% @hasL_b) ∧ (type_of% @hasL_s) ∧ (type_of% @hasL_d) ∧ (type_of% @hasL_n) ∧ (type_of% @hasL_rep) := ⟨@hasL_i, @hasL_b, @hasL_s, @hasL_d, @hasL_n, @hasL_rep⟩
theorem zT0 {p : Prop} (h : p := by first | rfl | simp [S.clean, S.put, S.newObj, S.forget, V.has, V.hasL, junkIf, setL, V.cs, hasL_i, hasL_d, hasL_b, hasL_s, hasL_n, hasL_rep, hasL_flat, hasL_append, -List.map_set]) : p := h
theorem zT1 {p : Prop} (h : p := by simp [S.clean, S.put, S.newObj, S.forget, V.has, V.hasL, junkIf, setL, V.cs, hasL_i, hasL_d, hasL_b, hasL_s, hasL_n, hasL_rep, hasL_flat, hasL_append, -List.map_set]) : p := h
theorem zT2 {p : Prop} (h : p := by simp [S.clean, V.has, V.hasL, V.cs, setL, hasL_i, hasL_n, hasL_d, hasL_flat]) : p := h
theorem zT3 {p : Prop} (h : p := by first | assumption | omega | (dsimp only; omega)) : p := h
theorem zT4 {p : Prop} (h : p := by first | decide | (simp; done) | (simp; omega)) : p := h
theorem zT5 {p : Prop} (h : p := by first | assumption | rfl | (simp; done)) : p := h
theorem zT6 {p : Prop} (h : p := by first | omega | (dsimp only; omega)) : p := h
theorem zT7 {p : Prop} (h : p := by first | decide | (simp; done)) : p := h
theorem zT8 {p : Prop} (h : p := by simp [V.pure, V.has, V.hasL]) : p := h
theorem zT9 {p : Prop} (h : p := by first | assumption | omega) : p := h
theorem zT10 {p : Prop} (h : p := by kernel_rfl) : p := h
theorem zT11 {p : Prop} (h : p := by assumption) : p := h
theorem zT12 {p : Prop} (h : p := by decide) : p := h
theorem zT13 {p : Prop} (h : p := by omega) : p := h
theorem zT14 {p : Prop} (h : p := by simp) : p := h
structure Ar where
  i : Int
  o : Int
  w : Int
  t : Int
structure St where
  fin : Int
  arcs : List Ar
structure Mach where
  start : Int
  states : List St
instance : Inhabited Ar := ⟨⟨0, 0, 0, 0⟩⟩
instance : Inhabited St := ⟨⟨0, []⟩⟩
instance : Inhabited Mach := ⟨⟨0, []⟩⟩
def arCells (a : Ar) : List Value := [.int .i64 a.i, .int .i64 a.o, .int .i64 a.w, .int .i64 a.t]
theorem arCells_len (a : Ar) : (arCells a).length = 4 := rfl
def ArcsAt (w : World) (v : Value) (l : List Ar) : Prop := SlAt w 4 32 arCells v l
def stCells (x : Int × Value × List Ar) : List Value := [.int .i64 x.1, x.2.1]
theorem stCells_len (x : Int × Value × List Ar) : (stCells x).length = 2 := rfl
def forget (x : Int × Value × List Ar) : St := ⟨x.1, x.2.2⟩
def StatesAt (w : World) (v : Value) (l : List St) : Prop :=
  ∃ ts : List (Int × Value × List Ar), l = ts.map (fun x => ⟨x.1, x.2.2⟩) ∧ SlAt w 2 32 stCells v ts ∧ ∀ x ∈ ts, ArcsAt w x.2.1 x.2.2
def MachAt (w : World) (v : Value) (m : Mach) : Prop := ∃ sv, v = .agg #[.int .i64 m.start, sv] ∧ StatesAt w sv m.states
theorem ArcsAt.at {w : World} {a : Option Addr} {len cap : Nat} {l : List Ar} (h : ArcsAt w (.slice a len cap) l) {i : Nat} (hi : i < len) :
    ∃ b o x, a = some ⟨b, o, none⟩ ∧ l[i]? = some x ∧ w.cell? ⟨b, o + i * 4, none⟩ = some (.int .i64 x.i) ∧ w.cell? ⟨b, o + i * 4 + 1, none⟩ = some (.int .i64 x.o) ∧
      w.cell? ⟨b, o + i * 4 + 2, none⟩ = some (.int .i64 x.w) ∧ w.cell? ⟨b, o + i * 4 + 3, none⟩ = some (.int .i64 x.t) := by
  obtain ⟨b, o, x, ha, hx, hc⟩ := SlAt.at h hi
  refine ⟨b, o, x, ha, hx, ?_, ?_, ?_, ?_⟩
  · simpa [arCells] using hc 0 (by omega)
  · simpa [arCells] using hc 1 (by omega)
  · simpa [arCells] using hc 2 (by omega)
  · simpa [arCells] using hc 3 (by omega)
theorem ArcsAt.mono {w w' : World} {v : Value} {l : List Ar} (h : ArcsAt w v l) (hb : Below w.heap.size w w') : ArcsAt w' v l := SlAt.mono h hb (by omega) arCells_len
theorem StatesAt.at {w : World} {a : Option Addr} {len cap : Nat} {l : List St} (h : StatesAt w (.slice a len cap) l) {i : Nat} (hi : i < len) :
    ∃ b o x av, a = some ⟨b, o, none⟩ ∧ l[i]? = some x ∧ w.cell? ⟨b, o + i * 2, none⟩ = some (.int .i64 x.fin) ∧ w.cell? ⟨b, o + i * 2 + 1, none⟩ = some av ∧ ArcsAt w av x.arcs := by
  obtain ⟨ts, rfl, hs, hall⟩ := h
  obtain ⟨b, o, x, ha, hx, hc⟩ := SlAt.at hs hi
  refine ⟨b, o, ⟨x.1, x.2.2⟩, x.2.1, ha, by simp [hx], ?_, ?_, hall x (List.mem_of_getElem? hx)⟩
  · simpa [stCells] using hc 0 (by omega)
  · simpa [stCells] using hc 1 (by omega)
theorem StatesAt.mono {w w' : World} {v : Value} {l : List St} (h : StatesAt w v l) (hb : Below w.heap.size w w') : StatesAt w' v l := by
  obtain ⟨ts, rfl, hs, hall⟩ := h
  exact ⟨ts, rfl, hs.mono hb (by omega) stCells_len, fun x hx => (hall x hx).mono hb⟩
theorem MachAt.mono {w w' : World} {v : Value} {m : Mach} (h : MachAt w v m) (hb : Below w.heap.size w w') : MachAt w' v m := by
  obtain ⟨sv, rfl, hs⟩ := h
  exact ⟨sv, rfl, hs.mono hb⟩
theorem _root_.Go.World.ownsRow.frame {w w' : World} {base : Nat} {e : TypeId} {sz : Nat} {v : Value} {n : Nat} {xs : List Value} (h : w.ownsRow base e sz v n xs) (hk : ∀ k, v.ownBlock = some k → w'.heap[k]? = w.heap[k]?) : w'.ownsRow base e sz v n xs := by
  obtain ⟨h1, h2⟩ := h
  refine ⟨h1, ?_⟩
  rcases h2 with h2 | ⟨g, cap, cur, rfl, hg, hh, r⟩
  · exact .inl h2
  · exact .inr ⟨g, cap, cur, rfl, hg, by rw [hk g rfl]; exact hh, r⟩
theorem _root_.Go.World.ownsRow.slice {w : World} {base : Nat} {e : TypeId} {sz : Nat} {v : Value} {n : Nat} {xs : List Value} (h : w.ownsRow base e sz v n xs) : ∃ a cap, v = .slice a n cap := by
  rcases h.2 with ⟨rfl, rfl⟩ | ⟨g, cap, cur, rfl, _⟩
  · exact ⟨_, _, rfl⟩
  · exact ⟨_, _, rfl⟩
/-- A slice of states that is being built: the states' row is owned, each state's arcs' row is owned, and no two of these rows lie in one block. -/
structure Bld (w : World) (base : Nat) (sv : Value) (ts : List (Int × Value × List Ar)) : Prop where
  own : w.ownsRow base 33 2 sv ts.length (ts.flatMap stCells)
  arcs : ∀ x ∈ ts, w.ownsRow base 60 4 x.2.1 x.2.2.length (x.2.2.flatMap arCells)
  small : ∀ x ∈ ts, x.2.2.length * 32 ≤ 140737488355328
  apart : ∀ x ∈ ts, ∀ k, x.2.1.ownBlock = some k → some k ≠ sv.ownBlock
  pair : ts.Pairwise (fun x y => ∀ k, x.2.1.ownBlock = some k → some k ≠ y.2.1.ownBlock)
section
variable {w w' : World} {base : Nat} {sv v' : Value} {ts : List (Int × Value × List Ar)}
theorem Bld.arcsAt (h : Bld w base sv ts) : ∀ x ∈ ts, ArcsAt w x.2.1 x.2.2 := fun x hx => SlAt.of_owns arCells_len (h.arcs x hx) (h.small x hx)
theorem Bld.nil (w : World) (base : Nat) : Bld w base (.slice none 0 0) [] := ⟨World.ownsRow_nil _ _ _ _, by simp, by simp, by simp, by simp⟩
theorem Bld.frame (h : Bld w base sv ts) (hk : ∀ k, base ≤ k → k < w.heap.size → w'.heap[k]? = w.heap[k]?) : Bld w' base sv ts :=
  ⟨h.own.frame fun k hk' => hk k (h.own.lt k hk').1 (h.own.lt k hk').2, fun x hx => (h.arcs x hx).frame fun k hk' => hk k ((h.arcs x hx).lt k hk').1 ((h.arcs x hx).lt k hk').2, h.small, h.apart, h.pair⟩
theorem Bld.below (h : Bld w base sv ts) (hb : Below w.heap.size w w') : Bld w' base sv ts := h.frame fun k _ hk => hb.block k hk
theorem Bld.push (h : Bld w base sv ts) (x : Int × Value × List Ar) (hx : w.ownsRow base 60 4 x.2.1 x.2.2.length (x.2.2.flatMap arCells)) (hs : x.2.2.length * 32 ≤ 140737488355328)
    (hap : ∀ k, x.2.1.ownBlock = some k → some k ≠ sv.ownBlock ∧ ∀ y ∈ ts, some k ≠ y.2.1.ownBlock)
    (hown : w'.ownsRow base 33 2 v' (ts.length + 1) ((ts ++ [x]).flatMap stCells)) (hv : ∃ g cap, v' = .slice (some ⟨g, 0, none⟩) (ts.length + 1) cap ∧ (sv.ownBlock = some g ∨ g = w.heap.size) ∧ g < w'.heap.size) (hg : w.grownBy w' sv.ownBlock) :
    Bld w' base v' (ts ++ [x]) := by
  have hall : ∀ y ∈ ts ++ [x], w.ownsRow base 60 4 y.2.1 y.2.2.length (y.2.2.flatMap arCells) ∧ (y.2.2.length * 32 ≤ 140737488355328) ∧ ∀ k, y.2.1.ownBlock = some k → some k ≠ sv.ownBlock := by
    intro y hy
    rcases List.mem_append.1 hy with hy | hy
    · exact ⟨h.arcs y hy, h.small y hy, h.apart y hy⟩
    · simp only [List.mem_singleton] at hy; subst hy; exact ⟨hx, hs, fun k hk => (hap k hk).1⟩
  refine ⟨by simpa using hown, fun y hy => (hall y hy).1.frame fun k hk => ?_, fun y hy => (hall y hy).2.1, fun y hy k hk => ?_, ?_⟩
  · exact hg.block k ((hall y hy).1.lt k hk).2 ((hall y hy).2.2 k hk)
  · have a3 := (hall y hy).2.2 k hk
    have a2 := ((hall y hy).1.lt k hk).2
    obtain ⟨g, cap, rfl, h1, _⟩ := hv
    simp only [Value.ownBlock, ne_eq, Option.some.injEq]
    rcases h1 with h1 | h1
    · intro e; subst e; exact a3 h1.symm
    · omega
  · rw [List.pairwise_append]
    refine ⟨h.pair, by simp, fun y hy z hz k hk => ?_⟩
    simp only [List.mem_singleton] at hz
    subst hz
    intro e
    exact (hap k e.symm).2 y hy hk.symm
theorem Bld.states (h : Bld w base sv ts) (hl : ts.length * 32 ≤ 140737488355328) : StatesAt w sv (ts.map fun x => ⟨x.1, x.2.2⟩) :=
  ⟨ts, rfl, SlAt.of_owns stCells_len h.own hl, h.arcsAt⟩
/-- A machine of new blocks from base on. -/
def MachNew (w : World) (base : Nat) (v : Value) (m : Mach) : Prop := ∃ sv ts, v = .agg #[.int .i64 m.start, sv] ∧ Bld w base sv ts ∧ ts.map (fun x => (⟨x.1, x.2.2⟩ : St)) = m.states ∧ ts.length * 32 ≤ 140737488355328
theorem MachNew.at {v : Value} {m : Mach} (h : MachNew w base v m) : MachAt w v m := by
  obtain ⟨sv, ts, rfl, hb, hm, hl⟩ := h
  exact ⟨sv, rfl, hm ▸ hb.states hl⟩
theorem MachNew.below {v : Value} {m : Mach} (h : MachNew w base v m) (hb : Below w.heap.size w w') : MachNew w' base v m := by
  obtain ⟨sv, ts, rfl, hB, hm, hl⟩ := h
  exact ⟨sv, ts, rfl, hB.below hb, hm, hl⟩
theorem MachNew.nil (w : World) (base : Nat) (n : Int) : MachNew w base (.agg #[.int .i64 n, .slice none 0 0]) ⟨n, []⟩ := ⟨_, [], rfl, Bld.nil _ _, rfl, by simp⟩
end
theorem own : ownKnob Tryd.prog.godebug = none := by kernel_rfl
theorem laidOut : laidOutB Tryd.prog = true := by kernel_rfl
/-- All that is read of d is within the form's reach. -/
def Fits {H : Type} (P : Program) (t : TypeId) (d : DataW H) : Prop := ∀ n ∈ d.weights P t, n ≤ reachBytes
section
variable {H : Type} {enc : TypeId × Value → H} {P : Program} {w : World} {base : Nat} {spare : Nat → Bool} {held : Bool}
theorem fits_arg {ts : List TypeId} {ds : List (DataW H)} (h : (DataW.weightsEach P ts ds).all (· ≤ reachBytes) = true) {j : Nat} {t : TypeId} {d : DataW H} (ht : ts[j]? = some t) (hd : ds[j]? = some d) : Fits P t d := by
  intro n hn
  have := List.all_eq_true.1 h _ (DataW.weights_mem_each ht hd n hn)
  simpa using this
theorem mem_weightsAll {e : TypeId} : ∀ {l : List (DataW H)} {x : DataW H}, x ∈ l → ∀ n ∈ x.weights P e, n ∈ DataW.weightsAll P e l
  | [], _, h, _, _ => by simp at h
  | y :: r, x, h, n, hn => by
    rw [DataW.weightsAll]
    rcases List.mem_cons.1 h with rfl | h'
    · exact List.mem_append_left _ hn
    · exact List.mem_append_right _ (mem_weightsAll h' n hn)
theorem fits_elem {t e : TypeId} {elems rest : List (DataW H)} (hu : P.underlying t = some (.slice e)) (h : Fits P t (.slice elems rest)) {x : DataW H} (hx : x ∈ elems) : Fits P e x := by
  intro n hn
  refine h n ?_
  rw [DataW.weights, hu]
  exact List.mem_cons_of_mem _ (List.mem_append_left _ (mem_weightsAll hx n hn))
theorem fits_len {t e : TypeId} {elems rest : List (DataW H)} (hu : P.underlying t = some (.slice e)) (h : Fits P t (.slice elems rest)) : (elems.length + rest.length) * P.bytesOf e ≤ reachBytes := by
  refine h _ ?_
  rw [DataW.weights, hu]
  exact List.mem_cons_self
theorem fits_field {t : TypeId} {fs : Array Field} {parts : List (DataW H)} (hu : P.underlying t = some (.struct fs)) (h : Fits P t (.agg parts)) {j : Nat} {f : Field} {d : DataW H} (hf : fs[j]? = some f) (hd : parts[j]? = some d) : Fits P f.type d := by
  intro n hn
  refine h n ?_
  rw [DataW.weights, hu]
  exact DataW.weights_mem_each (j := j) (by simp [hf]) hd n hn
/-- A slice that is read, element by element. -/
theorem open_sl {α : Type} [Inhabited α] {t e : TypeId} {fuel sz bytes : Nat} {v : Value} {d : DataW H} {p : List MemPlace} (ht : P.underlying t = some (.slice e)) (hc : P.cellsOf e = sz) (hsz : 0 < sz) (hb : P.bytesOf e = bytes) (cells : α → List Value) (Good : α → Prop)
    (elem : ∀ n cs y q, DataW.trod enc P w base spare held n e cs = some (y, q) → Fits P e y → cs.length = sz → ∃ x, cs = cells x ∧ Good x)
    (h : DataW.trod enc P w base spare held fuel t [v] = some (d, p)) (fit : Fits P t d) :
    ∃ l : List α, SlAt w sz bytes cells v l ∧ ∀ x ∈ l, Good x := by
  rcases open_slice ht h with ⟨hv, hx⟩ | ⟨a, len, cap, m, n, D, Pl, hv, _, hl, hm, hmm, hx, hel⟩
  · simp only [List.cons.injEq, and_true] at hv
    subst hv
    exact ⟨[], SlAt.nil _ _ _ _, by simp⟩
  · simp only [List.cons.injEq, and_true] at hv
    subst hv
    simp only [Prod.mk.injEq] at hx
    obtain ⟨rfl, _⟩ := hx
    have hlm : len ≤ m := by rw [hmm]; split <;> omega
    have key : ∀ i, i < len → ∃ x, (∀ j, j < sz → w.cell? ((a.add (i * sz)).add j) = (cells x)[j]?) ∧ (cells x).length = sz ∧ Good x := by
      intro i hi
      obtain ⟨cs, h1, h2⟩ := hel i (by omega)
      rw [hc] at h1
      obtain ⟨_, h3, h4⟩ := World.cells?_some h1
      obtain ⟨x, rfl, hg⟩ := elem n cs _ _ h2 (fits_elem ht fit (by simp; exact ⟨i, hi, rfl⟩)) h3
      exact ⟨x, h4, h3, hg⟩
    obtain ⟨f, hf⟩ := choose_lt key
    have hspot : 0 < len → a.spot = none := by
      intro h0
      obtain ⟨k1, k2, _⟩ := hf 0 h0
      have k3 := k1 0 hsz
      rw [List.getElem?_eq_getElem (by omega)] at k3
      simp only [Nat.zero_mul, Addr.add] at k3
      simp only [if_true] at k3
      cases hs : a.spot with
      | none => rfl
      | some s =>
        unfold World.cell? at k3
        rw [hs] at k3
        revert k3
        cases w.heap[a.block]? with
        | none => simp
        | some o => cases o <;> simp
    have hlen := fits_len ht fit
    simp only [List.length_map, List.length_range, hb] at hlen
    refine ⟨(List.range len).map f, ⟨some a, cap, by simp, ?_, ⟨(fun h => by cases h), by simpa using hl⟩, ?_⟩, ?_⟩
    · have h1 : len * bytes ≤ (len + (m - len)) * bytes := Nat.mul_le_mul_right _ (by omega)
      simp only [List.length_map, List.length_range]
      unfold reachBytes at hlen
      omega
    · intro i hi
      simp only [List.length_map, List.length_range] at hi
      refine ⟨a.block, a.off, f i, ?_, by simp [List.getElem?_map, List.getElem?_range hi], fun j hj => ?_⟩
      · have := hspot (by omega)
        cases a
        simp_all
      · have h1 := (hf i hi).1 j hj
        have ha : a = ⟨a.block, a.off, none⟩ := by
          have := hspot (by omega)
          cases a
          simp_all
        rw [ha, addr_add, addr_add] at h1
        exact h1
    · intro x hx
      obtain ⟨i, hi, rfl⟩ := List.mem_map.1 hx
      exact (hf i (by simpa using hi)).2.2
end
section
variable {H : Type} {enc : TypeId × Value → H} {w : World} {base : Nat} {spare : Nat → Bool} {held : Bool}
theorem elem_arc : ∀ n cs y q, DataW.trod enc Tryd.prog w base spare held n 60 cs = some (y, q) → Fits Tryd.prog 60 y → cs.length = 4 → ∃ x, cs = arCells x ∧ True := by
  intro n cs y q h _ hl
  obtain ⟨y0, y1, y2, y3, m, _, _, h0, h1, h2, h3⟩ := trod_struct4 Tryd.underlying60 h
  match cs, hl with
  | [c0, c1, c2, c3], _ =>
    have k : Tryd.prog.cellsOf 3 = 1 := by kernel_rfl
    simp only [k, List.drop_zero, List.drop_succ_cons, List.take_succ_cons, List.take_zero] at h0 h1 h2 h3
    obtain ⟨n0, e0, _, _⟩ := DataW.trod_int Tryd.underlying3 h0
    obtain ⟨n1, e1, _, _⟩ := DataW.trod_int Tryd.underlying3 h1
    obtain ⟨n2, e2, _, _⟩ := DataW.trod_int Tryd.underlying3 h2
    obtain ⟨n3, e3, _, _⟩ := DataW.trod_int Tryd.underlying3 h3
    simp only [List.cons.injEq, and_true] at e0 e1 e2 e3
    subst e0 e1 e2 e3
    exact ⟨⟨n0, n1, n2, n3⟩, rfl, trivial⟩
theorem elem_state : ∀ n cs y q, DataW.trod enc Tryd.prog w base spare held n 33 cs = some (y, q) → Fits Tryd.prog 33 y → cs.length = 2 → ∃ x, cs = stCells x ∧ ArcsAt w x.2.1 x.2.2 := by
  intro n cs y q h fit hl
  obtain ⟨y0, y1, m, hy, _, h0, h1⟩ := trod_struct2 Tryd.underlying33 h
  simp only [Prod.mk.injEq] at hy
  obtain ⟨rfl, _⟩ := hy
  match cs, hl with
  | [c0, c1], _ =>
    have k : Tryd.prog.cellsOf 3 = 1 := by kernel_rfl
    have k' : Tryd.prog.cellsOf 31 = 1 := by kernel_rfl
    simp only [k, k', List.drop_zero, List.drop_succ_cons, List.take_succ_cons, List.take_zero] at h0 h1
    obtain ⟨n0, e0, _, _⟩ := DataW.trod_int Tryd.underlying3 h0
    simp only [List.cons.injEq, and_true] at e0
    subst e0
    obtain ⟨l, h2, _⟩ := open_sl Tryd.underlying31 (by kernel_rfl) (by omega) (by kernel_rfl) arCells (fun _ => True) elem_arc h1 (fits_field (j := 1) Tryd.underlying33 fit rfl rfl)
    exact ⟨(n0, c1, l), rfl, h2⟩
theorem open_machine {v : Value} {d : DataW H} {p : List MemPlace} {r : Reach} {b0 : Nat} (hv : Value.okWide Tryd.prog w r b0 24 v) (h : DataW.Trod enc Tryd.prog w base spare held 24 v d p) (fit : Fits Tryd.prog 24 d) : ∃ m, MachAt w v m := by
  obtain ⟨v0, v1, y0, y1, n, rfl, rfl, _, h0, h1⟩ := open_agg2 Tryd.underlying24 (by kernel_rfl) (by kernel_rfl) hv h
  obtain ⟨n0, e0, _, _⟩ := DataW.trod_int Tryd.underlying3 h0
  simp only [List.cons.injEq, and_true] at e0
  subst e0
  obtain ⟨l, h2, h3⟩ := open_sl Tryd.underlying22 (by kernel_rfl) (by omega) (by kernel_rfl) stCells (fun x => ArcsAt w x.2.1 x.2.2) elem_state h1 (fits_field (j := 1) Tryd.underlying24 fit rfl rfl)
  exact ⟨⟨n0, l.map fun x => ⟨x.1, x.2.2⟩⟩, v1, rfl, l, rfl, h2, h3⟩
end
def D.one : D → Bool
  | .p x => x.oneCell'
  | .sl _ _ _ => true
  | .mp _ => true
  | .mm _ => true
theorem DRep.one {w : World} {q : Nat → Prop} {u : D} {x : Value} (h : DRep w q u x) (ho : u.one = true) : x.oneCell' = true := by
  cases h with
  | p => exact ho
  | sl => rfl
  | mp => rfl
  | mm => rfl
section
variable {c : Cx} {s : S} {o : Oper} {α : Type}
theorem rp_adds {t t' : TypeId} {x y : Operand} {a b : ByteArray} (ho : o.op = .binOp .add t x y t') (hx : s.ev x = some (.s a)) (hy : s.ev y = some (.s b)) (h : a.size + b.size ≤ 9223372036854775807) : RP c o s (.s (a ++ b)) :=
  rp_bin ho hx hy fun w => by
    have hm : IntKind.i64.max = 9223372036854775807 := by rfl
    have h1 : ¬ ((9223372036854775807 : Int) < (a.size : Int) + b.size) := by omega
    simp [eqGuard, binOp, Op.stringOp, hm]
    omega
theorem agg_p {w : World} {q : Nat → Prop} {g : Nat → Nat × Nat} {vs : List Value} {x : Value} (h : VRep w q g (.agg (vs.map fun y => .d (.p y))) x) : x = .agg vs.toArray := by
  generalize hl : vs.map (fun y => V.d (.p y)) = l at h
  cases h with
  | agg _ cs hlen hh =>
    subst hl
    congr 2
    apply List.ext_getElem?
    intro j
    simp only [List.length_map] at hlen
    by_cases hj : j < vs.length
    · have h1 := hh j (.d (.p vs[j])) cs[j] (by simp [hj]) (List.getElem?_eq_getElem (by omega))
      rw [List.getElem?_eq_getElem (show j < cs.length by omega), List.getElem?_eq_getElem hj, VRep.p_eq h1]
    · rw [List.getElem?_eq_none (by omega), List.getElem?_eq_none (by omega)]
/-- Two structs of plain values are held against each other. -/
theorem rp_bin_agg {op : BinOp} {t t' : TypeId} {x y : Operand} (us vs : List Value) {b : Bool} (ho : o.op = .binOp op t x y t') (hx : s.ev x = some (.agg (us.map fun y => .d (.p y)))) (hy : s.ev y = some (.agg (vs.map fun y => .d (.p y))))
    (hg : ∀ w, (eqGuard op t x y (.agg us.toArray) (.agg vs.toArray)).run c.P w = .ok () w) (hr : ∀ w, (binOp op t (.agg us.toArray) (.agg vs.toArray)).run c.P w = .ok (.bool b) w) : RP c o s (.b b) := fun g a w hs =>
  ⟨.bool b, .d _ _ (.p _), fun w' => by
    simp only [execOp, ho, agg_p (hs.ev hx), agg_p (hs.ev hy), Sem.run_bind, hg w', hr w', Result.andThen_ok]
    rfl⟩
/-- A copy of a slice: append onto nil. -/
theorem sm_clone {t e : TypeId} {x y : Operand} {sz bt bt' : Nat} {z : Value} {rows : List (List D)} (hu : c.P.underlying t = some (.slice e)) (hi : Inf c.P e sz bt z) (hzs : z.cells.size = sz) (hsz : 0 < sz) (hbb : bt ≤ bt') (hpos : 0 < bt)
    (ho : o.op = .call { callee := .builtin .append, args := #[x, y], argTypes := #[t, t] }) (hx : s.ev x = some .nil) (hy : s.ev y = some (.d (.sl sz bt' rows))) (hrow : ∀ r ∈ rows, r.length = sz ∧ ∀ u ∈ r, u.one = true) (hd : dok s o = true) : StepM c o s (fun s' => s' = s.put o.dst (.d (.sl sz bt' rows))) := by
  intro g a w hs K Q hK
  have hxv := VRep.p_eq (hs.ev hx)
  have h := hs.ev hy
  obtain ⟨i, hi1, hi2, hi3, hi4⟩ := hi.out
  obtain ⟨ad, cap, b, o', f, hyv, ha, hl, hc, hr⟩ : ∃ (ad : Option Addr) (cap b o' : Nat) (f : Nat → Nat → Value), a.eval y = .slice ad rows.length cap ∧ (rows ≠ [] → ad = some ⟨b, o', none⟩ ∧ qt c s.H g b ∧ b < w.heap.size) ∧ rows.length * bt' ≤ 140737488355328 ∧
      (∀ (i j : Nat) (row : List D) (u : D), rows[i]? = some row → row[j]? = some u → w.cell? ⟨b, o' + i * sz + j, none⟩ = some (f i j)) ∧ (∀ (i j : Nat) (row : List D) (u : D), rows[i]? = some row → row[j]? = some u → DRep w (qt c s.H g) u (f i j)) := by
    generalize a.eval y = v at h
    cases h with
    | d _ _ h => cases h with | sl _ _ _ ad cap b o' f _ ha hl hc hr => exact ⟨ad, cap, b, o', f, rfl, ha, hl, hc, hr⟩
  unfold Oper.wp
  by_cases h0 : rows = []
  · subst h0
    have hexec : (execOp a.eval o).run c.P w = .ok (.value (.slice none 0 0)) w := by
      simp only [execOp, ho, resolve, invoke, builtin, Sem.run_bind, Sem.run_pure, Result.andThen_ok, List.map_toArray, List.map_cons, List.map_nil, hxv, hyv]
      have : (Builtin.append_ #[t, t] o.type #[.slice none 0 0, .slice ad ([] : List (List D)).length cap]).run c.P w = .ok (.slice none 0 0) w := by
        simp [Builtin.append_, run_underlying hu, run_sizeOf hi, Builtin.lenOf]
        cases ad <;> simp [Builtin.firstCells, loadCells, loadCellsFrom]
      rw [this]
      rfl
    rw [hexec]
    exact hK g _ _ _ rfl (hs.put o.dst (dok_spec hd) (.d _ _ (.sl sz bt' [] none 0 0 0 (fun _ _ => undef) (Nat.le_refl 0) (fun h => absurd rfl h) (by simp) (by simp) (by simp)))) (Below.refl _ _)
  · obtain ⟨rfl, hq, hb⟩ := ha h0
    have hle : rows.length * bt ≤ rows.length * bt' := Nat.mul_le_mul_left _ hbb
    have hle2 : rows.length ≤ rows.length * bt := Nat.le_mul_of_pos_right _ hpos
    have hdm : ∀ k, k < rows.length * sz → k / sz < rows.length ∧ k % sz < sz ∧ k = k / sz * sz + k % sz := fun k hk =>
      ⟨by rw [Nat.div_lt_iff_lt_mul hsz]; exact hk, Nat.mod_lt _ hsz, by have := Nat.div_add_mod k sz; rw [Nat.mul_comm] at this; exact this.symm⟩
    have hget : ∀ k, k < rows.length * sz → ∃ row u, rows[k / sz]? = some row ∧ row[k % sz]? = some u ∧ u.one = true ∧ row ∈ rows := by
      intro k hk
      obtain ⟨h1, h2, _⟩ := hdm k hk
      have hm : rows[k / sz] ∈ rows := List.getElem_mem _
      have h3 := hrow _ hm
      refine ⟨rows[k / sz], rows[k / sz][k % sz]'(by omega), List.getElem?_eq_getElem h1, List.getElem?_eq_getElem (by omega), h3.2 _ (List.getElem_mem _), hm⟩
    obtain ⟨v', w', hrun, r1, r2, r3, r4⟩ := run_append_own_at (P := c.P) w w.heap.size t o.type e i z sz bt hu hi1 hi4 hi2 hi3 hzs hsz (.slice none 0 0) 0 [] (World.ownsRow_nil _ _ _ _) ⟨b, o', none⟩ rows.length cap ((List.range (rows.length * sz)).map fun k => f (k / sz) (k % sz)) (by simp) (by
        intro j u hu'
        rw [List.getElem?_map] at hu'
        by_cases hj : j < rows.length * sz
        · rw [List.getElem?_range hj] at hu'
          simp only [Option.map_some, Option.some.injEq] at hu'
          subst hu'
          obtain ⟨row, u, h1, h2, _, _⟩ := hget j hj
          rw [addr_add]
          have := hc _ _ row u h1 h2
          rw [Nat.add_assoc, ← (hdm j hj).2.2] at this
          exact this
        · rw [List.getElem?_eq_none (by simpa using hj)] at hu'; cases hu') (by
        intro u hu'
        obtain ⟨k, hk, rfl⟩ := List.mem_map.1 hu'
        obtain ⟨row, u, h1, h2, h3, _⟩ := hget k (by simpa using hk)
        exact (hr _ _ row u h1 h2).one h3) (by simp only [maxLen]; omega) (by rw [Nat.zero_add]; omega) (Nat.le_refl _)
    obtain ⟨q1, q2⟩ := r1
    rcases q2 with ⟨_, hz0⟩ | ⟨G, cap', cur, rfl, hG, q3, q4, q5, q6, q7⟩
    · have : rows.length = 0 := by omega
      exact absurd (List.eq_nil_of_length_eq_zero this) h0
    · have hbel : Below w.heap.size w w' := (Below.refl _ _).grown r2 (Nat.le_refl _) (fun k hk => by simp [Value.ownBlock] at hk)
      have hexec : (execOp a.eval o).run c.P w = .ok (.value (.slice (some ⟨G, 0, none⟩) (0 + rows.length) cap')) w' := by
        simp only [execOp, ho, resolve, invoke, builtin, Sem.run_bind, Sem.run_pure, Result.andThen_ok, List.map_toArray, List.map_cons, List.map_nil, hxv, hyv, hrun]
      rw [hexec]
      refine hK g _ _ _ rfl ((hs.move hbel).put o.dst (dok_spec hd) (.d _ _ ?_)) hbel
      rw [Nat.zero_add]
      refine .sl sz bt' rows (some ⟨G, 0, none⟩) cap' G 0 f (by omega) (fun _ => ⟨rfl, ⟨fun h => ?_, fun k row hk hn e' => ?_⟩, (Array.getElem?_eq_some_iff.1 q3).1⟩) hl ?_ ?_
      · have h1 := hs.low _ h
        have h2 := hs.below.size
        omega
      · obtain ⟨arr, h1, _⟩ := hs.obj k row hk hn
        have := (Array.getElem?_eq_some_iff.1 h1).1
        omega
      · intro i j row u h1 h2
        rw [Nat.zero_add, cell_of_row w' G _ _ _ _ q3]
        have hil : i < rows.length := (List.getElem?_eq_some_iff.1 h1).1
        have hjl : j < sz := by rw [← (hrow row (List.mem_of_getElem? h1)).1]; exact (List.getElem?_eq_some_iff.1 h2).1
        have hlt : i * sz + j < rows.length * sz := by
          have : (i + 1) * sz ≤ rows.length * sz := Nat.mul_le_mul_right _ hil
          rw [Nat.succ_mul] at this
          omega
        have h3 : (cur.toList.take ((0 + rows.length) * sz))[i * sz + j]? = some (f i j) := by
          rw [q7, List.nil_append, List.getElem?_map, List.getElem?_range hlt]
          simp only [Option.map_some, Option.some.injEq]
          have e1 : (i * sz + j) / sz = i := by
            rw [Nat.mul_comm, Nat.mul_add_div hsz, Nat.div_eq_of_lt hjl, Nat.add_zero]
          have e2 : (i * sz + j) % sz = j := by rw [Nat.mul_comm, Nat.mul_add_mod, Nat.mod_eq_of_lt hjl]
          rw [e1, e2]
        rw [List.getElem?_take_of_lt (by rw [Nat.zero_add]; exact hlt)] at h3
        simpa using h3
      · intro i j row u h1 h2
        exact (hr i j row u h1 h2).mono ⟨hbel.size, fun b o u _ h1 h2 => (hbel.cell (p := ⟨b, o, none⟩) h1).trans h2, Below.maps hbel⟩ (fun _ h _ => h)
/-- A cell that holds nil holds a slice that may grow. -/
theorem Sim.adoptH {g : Nat → Nat × Nat} {a : Act} {w : World} (hs : Sim c g s a w) {b j r sz : Nat} {ty : TypeId} {row : Row} (hb : fnd s.H b = some row) (hn : row.nil = false) (hj : row.cells[j]? = some .nil) (hr : s.clean r = true) : Sim c g ⟨s.n, s.T, (b, { row with cells := row.cells.set j (.own r sz 0 true) }) :: (r, ⟨ty, [], true, sz⟩) :: s.H, s.K⟩ a w := by
  have hbr : b ≠ r := (S.clean_obj hr hb).1
  have hfn : ∀ k row', fnd ((b, { row with cells := row.cells.set j (.own r sz 0 true) }) :: (r, (⟨ty, [], true, sz⟩ : Row)) :: s.H) k = some row' → k = b ∧ row' = { row with cells := row.cells.set j (.own r sz 0 true) } ∨ k ≠ b ∧ k = r ∧ row' = ⟨ty, [], true, sz⟩ ∨ k ≠ b ∧ k ≠ r ∧ fnd s.H k = some row' := by
    intro k row' hk
    by_cases e : k = b
    · subst e; simp [fnd] at hk; exact .inl ⟨rfl, hk.symm⟩
    · by_cases e' : k = r
      · subst e'; simp [fnd, e, Ne.symm e] at hk; exact .inr (.inl ⟨e, rfl, hk.symm⟩)
      · simp only [fnd, beq_iff_eq, Ne.symm e, Ne.symm e', if_false] at hk; exact .inr (.inr ⟨e, e', hk⟩)
  have hq : ∀ x, qt c s.H g x → x < w.heap.size → qt c ((b, { row with cells := row.cells.set j (.own r sz 0 true) }) :: (r, (⟨ty, [], true, sz⟩ : Row)) :: s.H) g x := by
    intro x hx _
    refine ⟨hx.1, fun k row' hk hkn => ?_⟩
    rcases hfn k row' hk with ⟨rfl, rfl⟩ | ⟨_, rfl, rfl⟩ | ⟨_, _, h⟩
    · exact hx.2 _ row hb hn
    · cases hkn
    · exact hx.2 k row' h hkn
  have hm : ∀ {v x}, VRep w (qt c s.H g) g v x → VRep w (qt c ((b, { row with cells := row.cells.set j (.own r sz 0 true) }) :: (r, (⟨ty, [], true, sz⟩ : Row)) :: s.H) g) g v x := fun hv => hv.mono Cells.rfl hq (fun _ _ => rfl)
  refine ⟨hs.size, hs.defers, ?_, ?_, ?_, ?_, ?_, ?_, hs.low, hs.below⟩
  · intro i v hv
    obtain ⟨x, h1, h2⟩ := hs.tmp i v hv
    exact ⟨x, h1, hm h2⟩
  · intro k row' hk hkn
    rcases hfn k row' hk with ⟨rfl, rfl⟩ | ⟨_, rfl, rfl⟩ | ⟨_, _, h⟩
    · simp only at hkn; rw [hn] at hkn; cases hkn
    · rfl
    · exact hs.nul k row' h hkn
  · intro k row' hk hkn
    rcases hfn k row' hk with ⟨rfl, rfl⟩ | ⟨_, rfl, rfl⟩ | ⟨_, _, h⟩
    · obtain ⟨arr, h1, h2, h3⟩ := hs.obj _ row hb hn
      refine ⟨arr, h1, h2, fun i v hv => ?_⟩
      simp only [List.getElem?_set] at hv
      split at hv
      · rename_i e
        subst e
        split at hv
        · simp only [Option.some.injEq] at hv
          subst hv
          obtain ⟨x, h4, h5⟩ := h3 j _ hj
          refine ⟨x, h4, ?_⟩
          rw [VRep.p_eq h5]
          exact .ownNil r sz
        · cases hv
      · obtain ⟨x, h4, h5⟩ := h3 i v hv
        exact ⟨x, h4, hm h5⟩
    · cases hkn
    · obtain ⟨arr, h1, h2, h3⟩ := hs.obj k row' h hkn
      refine ⟨arr, h1, h2, fun i v hv => ?_⟩
      obtain ⟨x, h4, h5⟩ := h3 i v hv
      exact ⟨x, h4, hm h5⟩
  · intro i v x h1 h2
    exact hm (hs.keep i v x h1 h2)
  · intro k k' row1 row2 h1 n1 h2 n2 h3
    rcases hfn k row1 h1 with ⟨rfl, rfl⟩ | ⟨_, rfl, rfl⟩ | ⟨e1, _, h⟩ <;> rcases hfn k' row2 h2 with ⟨rfl, rfl⟩ | ⟨_, rfl, rfl⟩ | ⟨e2, _, h'⟩
    · rfl
    · cases n2
    · exact hs.inj _ _ _ _ hb hn h' n2 h3
    · cases n1
    · cases n1
    · cases n1
    · exact hs.inj _ _ _ _ h n1 hb hn h3
    · cases n2
    · exact hs.inj _ _ _ _ h n1 h' n2 h3
  · intro k row' hk hkn
    rcases hfn k row' hk with ⟨rfl, rfl⟩ | ⟨_, rfl, rfl⟩ | ⟨_, _, h⟩
    · exact hs.base _ row hb hn
    · cases hkn
    · exact hs.base k _ h hkn
theorem AW.adoptH {Q : Exit → S → Prop} {code : Code} (b j r sz : Nat) (ty : TypeId) {row : Row} (hb : fnd s.H b = some row) (hn : row.nil = false) (hj : row.cells[j]? = some .nil) (hr : s.clean r = true)
    (h : AW c code Q ⟨s.n, s.T, (b, { row with cells := row.cells.set j (.own r sz 0 true) }) :: (r, ⟨ty, [], true, sz⟩) :: s.H, s.K⟩) : AW c code Q s := fun g a w hs => h g a w (hs.adoptH hb hn hj hr)
/-- A cell that holds a slice of the call's own holds plain data. -/
theorem Sim.freezeH {g : Nat → Nat × Nat} {a : Act} {w : World} (hs : Sim c g s a w) {b j r sz bt n : Nat} {f : Bool} {row0 row : Row} {rows : List (List D)} (hb : fnd s.H b = some row0) (hn0 : row0.nil = false) (hj : row0.cells[j]? = some (.own r sz n f)) (hbr : b ≠ r) (hr : fnd s.H r = some row) (hf : row.nil = f) (hlen : rows.length = n) (hn : n * bt ≤ 140737488355328)
    (hrows : ∀ (i j : Nat) (l : List D) (u : D), rows[i]? = some l → l[j]? = some u → row.cells[i * sz + j]? = some (.d u)) : Sim c g ⟨s.n, s.T, (b, { row0 with cells := row0.cells.set j (.d (.sl sz bt rows)) }) :: s.H.filter (fun x => x.1 != r), s.K⟩ a w := by
  have hfn : ∀ k row', fnd ((b, { row0 with cells := row0.cells.set j (.d (.sl sz bt rows)) }) :: s.H.filter (fun x => x.1 != r)) k = some row' → k = b ∧ row' = { row0 with cells := row0.cells.set j (.d (.sl sz bt rows)) } ∨ k ≠ b ∧ k ≠ r ∧ fnd s.H k = some row' := by
    intro k row' hk
    by_cases e : k = b
    · subst e; simp [fnd] at hk; exact .inl ⟨rfl, hk.symm⟩
    · simp only [fnd, beq_iff_eq, Ne.symm e, if_false] at hk
      have e' : k ≠ r := by rintro rfl; rw [fnd_filter_self] at hk; cases hk
      rw [fnd_filter r _ _ e'] at hk
      exact .inr ⟨e, e', hk⟩
  have hq : ∀ x, qt c s.H g x → x < w.heap.size → qt c ((b, { row0 with cells := row0.cells.set j (.d (.sl sz bt rows)) }) :: s.H.filter (fun x => x.1 != r)) g x := by
    intro x hx _
    refine ⟨hx.1, fun k row' hk hkn => ?_⟩
    rcases hfn k row' hk with ⟨rfl, rfl⟩ | ⟨_, _, h⟩
    · exact hx.2 _ row0 hb hn0
    · exact hx.2 k row' h hkn
  have hm : ∀ {v x}, VRep w (qt c s.H g) g v x → VRep w (qt c ((b, { row0 with cells := row0.cells.set j (.d (.sl sz bt rows)) }) :: s.H.filter (fun x => x.1 != r)) g) g v x := fun hv => hv.mono Cells.rfl hq (fun _ _ => rfl)
  refine ⟨hs.size, hs.defers, ?_, ?_, ?_, ?_, ?_, ?_, hs.low, hs.below⟩
  · intro i v hv
    obtain ⟨x, h1, h2⟩ := hs.tmp i v hv
    exact ⟨x, h1, hm h2⟩
  · intro k row' hk hkn
    rcases hfn k row' hk with ⟨rfl, rfl⟩ | ⟨_, _, h⟩
    · simp only at hkn; rw [hn0] at hkn; cases hkn
    · exact hs.nul k row' h hkn
  · intro k row' hk hkn
    rcases hfn k row' hk with ⟨rfl, rfl⟩ | ⟨_, _, h⟩
    · obtain ⟨arr, h1, h2, h3⟩ := hs.obj _ row0 hb hn0
      refine ⟨arr, h1, h2, fun i v hv => ?_⟩
      simp only [List.getElem?_set] at hv
      split at hv
      · rename_i e
        subst e
        split at hv
        · simp only [Option.some.injEq] at hv
          subst hv
          obtain ⟨x, h4, h5⟩ := h3 j _ hj
          refine ⟨x, h4, .d _ _ ?_⟩
          cases h5 with
          | own _ _ _ hle hcap =>
            obtain ⟨ar2, h6, _, h7⟩ := hs.obj r row hr hf
            subst hlen
            have hob : ¬ c.out (g r).1 := fun h => by
              have h8 := hs.low _ h
              have h9 := hs.base r row hr hf
              omega
            refine .sl sz bt rows _ _ (g r).1 0 (fun i j => ar2.getD (i * sz + j) undef) hle (fun _ => ⟨rfl, ⟨hob, fun k row' hk hkn e => ?_⟩, (Array.getElem?_eq_some_iff.1 h6).1⟩) hn ?_ ?_
            · rcases hfn k row' hk with ⟨rfl, rfl⟩ | ⟨_, k1, k2⟩
              · exact hbr (hs.inj _ r _ _ hb hn0 hr hf e)
              · exact k1 (hs.inj k r _ _ k2 hkn hr hf e)
            · intro i j l u hi hj
              obtain ⟨y, h8, h9⟩ := h7 _ _ (hrows i j l u hi hj)
              rw [Nat.zero_add, cell_of_row w _ _ _ _ _ h6, h8]
              simp [Array.getD_eq_getD_getElem?, h8]
            · intro i j l u hi hj
              obtain ⟨y, h8, h9⟩ := h7 _ _ (hrows i j l u hi hj)
              cases hm h9 with
              | d _ _ h10 => simpa [Array.getD_eq_getD_getElem?, h8] using h10
          | ownNil =>
            have : rows = [] := by simpa using hlen
            subst this
            exact .sl sz bt [] none 0 0 0 (fun _ _ => undef) (Nat.le_refl 0) (fun h => absurd rfl h) (by simp) (by simp) (by simp)
        · cases hv
      · obtain ⟨x, h4, h5⟩ := h3 i v hv
        exact ⟨x, h4, hm h5⟩
    · obtain ⟨arr, h1, h2, h3⟩ := hs.obj k row' h hkn
      refine ⟨arr, h1, h2, fun i v hv => ?_⟩
      obtain ⟨x, h4, h5⟩ := h3 i v hv
      exact ⟨x, h4, hm h5⟩
  · intro i v x h1 h2
    exact hm (hs.keep i v x h1 h2)
  · intro k k' row1 row2 h1 n1 h2 n2 h3
    rcases hfn k row1 h1 with ⟨rfl, rfl⟩ | ⟨e1, _, h⟩ <;> rcases hfn k' row2 h2 with ⟨rfl, rfl⟩ | ⟨e2, _, h'⟩
    · rfl
    · exact hs.inj _ _ _ _ hb hn0 h' n2 h3
    · exact hs.inj _ _ _ _ h n1 hb hn0 h3
    · exact hs.inj _ _ _ _ h n1 h' n2 h3
  · intro k row' hk hkn
    rcases hfn k row' hk with ⟨rfl, rfl⟩ | ⟨_, _, h⟩
    · exact hs.base _ row0 hb hn0
    · exact hs.base k _ h hkn
theorem AW.freezeH {Q : Exit → S → Prop} {code : Code} (b j bt : Nat) {r sz n : Nat} {f : Bool} {row0 row : Row} (rows : List (List D)) (hb : fnd s.H b = some row0) (hn0 : row0.nil = false) (hj : row0.cells[j]? = some (.own r sz n f)) (hbr : b ≠ r) (hr : fnd s.H r = some row) (hf : row.nil = f) (hlen : rows.length = n) (hn : n * bt ≤ 140737488355328)
    (hrows : ∀ (i j : Nat) (l : List D) (u : D), rows[i]? = some l → l[j]? = some u → row.cells[i * sz + j]? = some (.d u)) (h : AW c code Q ⟨s.n, s.T, (b, { row0 with cells := row0.cells.set j (.d (.sl sz bt rows)) }) :: s.H.filter (fun x => x.1 != r), s.K⟩) : AW c code Q s :=
  fun g a w hs => h g a w (hs.freezeH hb hn0 hj hbr hr hf hlen hn hrows)
theorem rowsF {l : List α} {enc : α → List D} {sz : Nat} (hsz : ∀ x, (enc x).length = sz) {cells : List V} (h : cells = l.flatMap (fun x => (enc x).map V.d)) : ∀ (i j : Nat) (l' : List D) (u : D), (l.map enc)[i]? = some l' → l'[j]? = some u → cells[i * sz + j]? = some (.d u) := by
  intro i j l' u h1 h2
  rw [List.getElem?_map] at h1
  cases h3 : l[i]? with
  | none => rw [h3] at h1; cases h1
  | some x =>
    rw [h3] at h1
    simp only [Option.map_some, Option.some.injEq] at h1
    subst h1 h
    induction l generalizing i with
    | nil => simp at h3
    | cons y l ih =>
      rw [List.flatMap_cons]
      cases i with
      | zero =>
        simp at h3
        subst h3
        rw [Nat.zero_mul, Nat.zero_add, List.getElem?_append_left (by simp; exact (List.getElem?_eq_some_iff.1 h2).1)]
        simp [h2]
      | succ i =>
        rw [List.getElem?_append_right (by simp [hsz]; rw [Nat.succ_mul]; omega)]
        simp only [List.length_map, hsz]
        rw [show (i + 1) * sz + j - sz = i * sz + j by rw [Nat.succ_mul]; omega]
        exact ih i (by simpa using h3)
theorem flat_len {l : List α} {f : α → List V} {sz : Nat} (hf : ∀ x, (f x).length = sz) : (l.flatMap f).length = l.length * sz := by
  induction l with
  | nil => simp
  | cons x l ih => simp [ih, hf, Nat.succ_mul, Nat.add_comm]
theorem st_appendF {t e : TypeId} {x y : Operand} {r r2 sz bt n m : Nat} {z : Value} {f : Bool} {row row2 : Row} {news : List V} (hu : c.P.underlying t = some (.slice e)) (hi : Inf c.P e sz bt z) (hzs : z.cells.size = sz) (hsz : 0 < sz)
    (ho : o.op = .call { callee := .builtin .append, args := #[x, y], argTypes := #[t, t] }) (hx : s.ev x = some (.own r sz n f)) (hr : fnd s.H r = some row) (hf : row.nil = f) (hrz : row.sz = sz) (hty : row.ty = e)
    (hl1 : row.cells.length = n * sz) (hc1 : V.hasL r row.cells = false) (hy : s.ev y = some (.own r2 sz m false)) (hr2 : fnd s.H r2 = some row2) (hf2 : row2.nil = false) (hnews : row2.cells.take (m * sz) = news) (hnl : news.length = m * sz) (hc2 : V.hasL r news = false) (hone : news.all V.one = true) (hm : 0 < m) (h63 : n + m ≤ 140737488355328) (hbt : (n + m) * bt ≤ 140737488355328) (hd : dok s o = true) :
    Step c o s (fun s' => s' = S.put ⟨s.n, (s.forget r).T, (r, ⟨e, row.cells ++ news, false, sz⟩) :: (s.forget r).H, (s.forget r).K⟩ o.dst (.own r sz (n + m) false)) :=
  st_append hu hi hzs hsz ho hx hr hf hrz hty (List.take_of_length_le (by omega)) hl1 hc1 hy hr2 hf2 hnews hnl hc2 hone hm h63 hbt hd
@[simp] theorem hasL_append (r : Nat) (l l' : List V) : V.hasL r (l ++ l') = (V.hasL r l || V.hasL r l') := by
  induction l with
  | nil => rfl
  | cons v l ih => simp [V.hasL, ih, Bool.or_assoc]
@[simp] theorem hasL_flat (r : Nat) (l : List α) (enc : α → List D) : V.hasL r (l.flatMap (fun x => (enc x).map V.d)) = false := by
  simp [V.hasL_false, V.has]
  intro v x _ u _ h
  subst h
  rfl
end
/-- A value as a callee sees it that only reads. -/
inductive Ro (s : S) : V → V → Prop
  | refl (v : V) (hv : v.pure) : Ro s v v
  | ref (r k : Nat) (row : Row) (l : List D) (hr : fnd s.H r = some row) (hn : row.nil = false) (hl : row.cells.drop k = l.map V.d) : Ro s (.ref r k) (.ad l)
  | own (r sz n bt : Nat) (f : Bool) (row : Row) (rows : List (List D)) (hr : fnd s.H r = some row) (hf : row.nil = f) (hlen : rows.length = n) (hn : n * bt ≤ 140737488355328)
      (hrows : ∀ (i j : Nat) (l : List D) (u : D), rows[i]? = some l → l[j]? = some u → row.cells[i * sz + j]? = some (.d u)) : Ro s (.own r sz n f) (.d (.sl sz bt rows))
  | fn (f : FuncId) (us vs : List V) (hl : us.length = vs.length) (h : ∀ (j : Nat) (u v : V), us[j]? = some u → vs[j]? = some v → Ro s u v) : Ro s (.fn f us) (.fn f vs)
inductive Ros (s : S) : List V → List V → Prop
  | nil : Ros s [] []
  | cons {u v : V} {us vs : List V} (h : Ro s u v) (hs : Ros s us vs) : Ros s (u :: us) (v :: vs)
theorem Ros.get {s : S} {us vs : List V} (h : Ros s us vs) : us.length = vs.length ∧ ∀ (j : Nat) (u v : V), us[j]? = some u → vs[j]? = some v → Ro s u v := by
  induction h with
  | nil => exact ⟨rfl, by simp⟩
  | cons h hs ih =>
    refine ⟨by simp [ih.1], fun j u v hu hv => ?_⟩
    cases j with
    | zero => simp at hu hv; subst hu hv; exact h
    | succ j => exact ih.2 j u v (by simpa using hu) (by simpa using hv)
theorem Ro.fns {s : S} {f : FuncId} {us vs : List V} (h : Ros s us vs) : Ro s (.fn f us) (.fn f vs) := .fn f us vs h.get.1 h.get.2
/-- A value that hangs on no memory. -/
def V.plain : V → Prop
  | .d (.p _) => True
  | .tup l => ∀ v ∈ l, ∃ x, v = .d (.p x)
  | .agg l => ∀ v ∈ l, ∃ x, v = .d (.p x)
  | _ => False
section
variable {c : Cx} {s : S} {o : Oper} {g : Nat → Nat × Nat} {a : Act} {w : World}
theorem Ro.rep (hs : Sim c g s a w) {u v : V} (h : Ro s u v) : ∀ {x : Value}, VRep w (qt c s.H g) g u x → VRep w (fun b => ¬ c.out b) g v x := by
  have hq : ∀ b, qt c s.H g b → b < w.heap.size → ¬ c.out b := fun b hb _ => hb.1
  have hm : ∀ {v x}, VRep w (qt c s.H g) g v x → VRep w (fun b => ¬ c.out b) g v x := fun hv => hv.mono Cells.rfl hq (fun _ _ => rfl)
  have hob : ∀ r row, fnd s.H r = some row → row.nil = false → ¬ c.out (g r).1 := fun r row hr hn h => by
    have h1 := hs.low _ h
    have h2 := hs.base r row hr hn
    omega
  induction h with
  | refl v hv => intro x hx; exact hm hx
  | ref r k row l hr hn hl =>
    intro x hx
    cases hx
    obtain ⟨arr, h1, _, h2⟩ := hs.obj r row hr hn
    have hat : ∀ (j : Nat) (u : D), l[j]? = some u → row.cells[k + j]? = some (.d u) := by
      intro j u hu
      have : (row.cells.drop k)[j]? = some (.d u) := by rw [hl]; simp [hu]
      simpa using this
    refine .ad l (g r).1 k (fun j => arr.getD (k + j) undef) ⟨hob r row hr hn, (Array.getElem?_eq_some_iff.1 h1).1⟩ (fun j u hu => ?_) (fun j u hu => ?_)
    · obtain ⟨y, h3, _⟩ := h2 _ _ (hat j u hu)
      rw [cell_of_row w _ _ _ _ _ h1, h3]
      simp [Array.getD_eq_getD_getElem?, h3]
    · obtain ⟨y, h3, h4⟩ := h2 _ _ (hat j u hu)
      cases hm h4 with
      | d _ _ h5 => simpa [Array.getD_eq_getD_getElem?, h3] using h5
  | own r sz n bt f row rows hr hf hlen hn hrows =>
    intro x hx
    refine .d _ _ ?_
    cases hx with
    | own _ _ _ hle hcap =>
      obtain ⟨arr, h1, _, h2⟩ := hs.obj r row hr hf
      subst hlen
      refine .sl sz bt rows _ _ (g r).1 0 (fun i j => arr.getD (i * sz + j) undef) (by omega) (fun _ => ⟨rfl, hob r row hr hf, (Array.getElem?_eq_some_iff.1 h1).1⟩) hn ?_ ?_
      · intro i j l u hi hj
        obtain ⟨y, h3, _⟩ := h2 _ _ (hrows i j l u hi hj)
        rw [Nat.zero_add, cell_of_row w _ _ _ _ _ h1, h3]
        simp [Array.getD_eq_getD_getElem?, h3]
      · intro i j l u hi hj
        obtain ⟨y, h3, h4⟩ := h2 _ _ (hrows i j l u hi hj)
        cases hm h4 with
        | d _ _ h5 => simpa [Array.getD_eq_getD_getElem?, h3] using h5
    | ownNil =>
      have : rows = [] := by simpa using hlen
      subst this
      exact .sl sz bt [] none 0 0 0 (fun _ _ => undef) (Nat.le_refl 0) (fun h => absurd rfl h) (by simp) (by simp) (by simp)
  | fn f us vs hl h ih =>
    intro x hx
    cases hx with
    | fn _ _ cs hlen hh =>
      refine .fn f vs cs (by omega) fun j v y hv hy => ?_
      have hj : j < us.length := by rw [hl]; exact (List.getElem?_eq_some_iff.1 hv).1
      exact ih j us[j] v (List.getElem?_eq_getElem hj) hv (hh j us[j] y (List.getElem?_eq_getElem hj) hy)
theorem fn_eval (hs : Sim c g s a w) {fx : Operand} {f : FuncId} {caps : List V} (hfx : s.ev fx = some (.fn f caps)) : ∃ cs : List Value, a.eval fx = .func (.func f) #[] cs.toArray ∧ caps.length = cs.length ∧ ∀ (j : Nat) (u : V) (y : Value), caps[j]? = some u → cs[j]? = some y → VRep w (qt c s.H g) g u y := by
  have hfv := hs.ev hfx
  generalize a.eval fx = u at hfv
  cases hfv with
  | fn _ _ cs hl h => exact ⟨cs, rfl, hl, h⟩
theorem args_eval (hs : Sim c g s a w) {xs : Array Operand} {ars : List V} (hargs : xs.toList.map s.ev = ars.map some) : ars.length = (xs.toList.map a.eval).length ∧ ∀ (j : Nat) (u : V) (y : Value), ars[j]? = some u → (xs.toList.map a.eval)[j]? = some y → VRep w (qt c s.H g) g u y := by
  refine ⟨by simpa using (congrArg List.length hargs).symm, fun j u y hu hy => ?_⟩
  have h1 := congrArg (fun l => l[j]?) hargs
  simp only [List.getElem?_map, hu, Option.map_some] at h1 hy
  cases h2 : xs.toList[j]? with
  | none => rw [h2] at h1; cases h1
  | some p =>
    rw [h2] at h1 hy
    simp only [Option.map_some, Option.some.injEq] at h1 hy
    subst hy
    exact hs.ev h1
/-- A call, of a function or of a closure, that changes nothing and answers something plain; it may read the caller's objects. -/
theorem sm_callr {fx : Operand} {xs : Array Operand} {ts : Array TypeId} {f : FuncId} {fn : Func} {code : Code} {n : Nat} {rs : List ResultVar} {us caps args : List V} {post : V → Prop} (hfn : Fn c.P f args post) (hpl : ∀ v, post v → v.plain) (hf : Is c.P f fn code n rs) (ho : o.op = .call { callee := .value fx, args := xs, argTypes := ts })
    (hfx : s.ev fx = some (.fn f caps)) (hargs : xs.toList.map s.ev = us.map some) (hro : Ros s (us ++ caps) args) (hd : dok s o = true) : StepM c o s (fun s' => ∃ v, post v ∧ v.pure ∧ s' = s.put o.dst v) := by
  intro g a w hs K Q hK
  obtain ⟨cs, hfx', hcl, hcr⟩ := fn_eval hs hfx
  obtain ⟨hal, har⟩ := args_eval hs hargs
  obtain ⟨hrl, hrr⟩ := hro.get
  have hx : VReps w (fun b => ¬ c.out b) g args ((xs.toList.map a.eval) ++ cs) := by
    refine ⟨by rw [← hrl]; simp at hal ⊢; omega, fun j v y hv hy => ?_⟩
    have hj : j < (us ++ caps).length := by rw [hrl]; exact (List.getElem?_eq_some_iff.1 hv).1
    have hu := List.getElem?_eq_getElem hj
    refine (hrr j _ v hu hv).rep hs ?_
    by_cases h1 : j < us.length
    · rw [List.getElem?_append_left h1] at hu
      rw [List.getElem?_append_left (by omega)] at hy
      exact har j _ y hu hy
    · rw [List.getElem?_append_right (by omega)] at hu
      rw [List.getElem?_append_right (by omega), ← hal] at hy
      exact hcr _ _ y hu hy
  unfold Oper.wp
  rw [exec_call (caps := cs) hf ho hfx']
  simp only [Oper.upon]
  refine (hfn w c.out g _ (fun b h => Nat.lt_of_lt_of_le (hs.low b h) hs.below.size) hx).mono ?_
  rintro e w' ⟨v, x, rfl, h1, h2, h3, h4⟩
  refine hK g _ _ _ ⟨v, h1, h2, rfl⟩ ((hs.move h4).put o.dst (dok_spec hd) ?_) h4
  have hp := hpl v h1
  have hdp : ∀ {y z}, VRep w' (fun b => ¬ c.out b) g (.d (.p y)) z → VRep w' (qt c s.H g) g (.d (.p y)) z := fun h => by
    rw [VRep.p_eq h]; exact .d _ _ (.p _)
  cases v with
  | d dx =>
    cases dx with
    | p => exact hdp h3
    | sl => exact hp.elim
    | mp => exact hp.elim
    | mm => exact hp.elim
  | tup l =>
    cases h3 with
    | tup _ cs' hl hh =>
      refine .tup l cs' hl fun j u z hu hz => ?_
      obtain ⟨y, rfl⟩ := hp u (List.mem_of_getElem? hu)
      exact hdp (hh j _ z hu hz)
  | agg l =>
    cases h3 with
    | agg _ cs' hl hh =>
      refine .agg l cs' hl fun j u z hu hz => ?_
      obtain ⟨y, rfl⟩ := hp u (List.mem_of_getElem? hu)
      exact hdp (hh j _ z hu hz)
  | _ => exact hp.elim
/-- A call of a function value whose captured values are plain. -/
theorem sm_callv {fx : Operand} {xs : Array Operand} {ts : Array TypeId} {f : FuncId} {fn : Func} {code : Code} {n : Nat} {rs : List ResultVar} {args caps : List V} {post : V → Prop} (hfn : Fn c.P f (args ++ caps) post) (hf : Is c.P f fn code n rs) (ho : o.op = .call { callee := .value fx, args := xs, argTypes := ts })
    (hfx : s.ev fx = some (.fn f caps)) (hargs : xs.toList.map s.ev = args.map some) (hd : dok s o = true) : StepM c o s (fun s' => ∃ v, post v ∧ v.pure ∧ s' = s.put o.dst v) := by
  intro g a w hs K Q hK
  obtain ⟨cs, hfx', hcl, hcr⟩ := fn_eval hs hfx
  obtain ⟨hal, har⟩ := args_eval hs hargs
  have hx : VReps w (fun b => ¬ ¬ qt c s.H g b) g (args ++ caps) ((xs.toList.map a.eval) ++ cs) := by
    refine ⟨by simp at hal ⊢; omega, fun j u y hu hy => ?_⟩
    have hm : ∀ {v x}, VRep w (qt c s.H g) g v x → VRep w (fun b => ¬ ¬ qt c s.H g b) g v x := fun hv => hv.mono Cells.rfl (fun b hb _ => not_not_intro hb) (fun _ _ => rfl)
    refine hm ?_
    by_cases h1 : j < args.length
    · rw [List.getElem?_append_left h1] at hu
      rw [List.getElem?_append_left (by omega)] at hy
      exact har j _ y hu hy
    · rw [List.getElem?_append_right (by omega)] at hu
      rw [List.getElem?_append_right (by omega), ← hal] at hy
      exact hcr _ _ y hu hy
  unfold Oper.wp
  rw [exec_call (caps := cs) hf ho hfx']
  simp only [Oper.upon]
  refine (hfn w (fun b => ¬ qt c s.H g b) g _ ?_ hx).mono ?_
  · intro b hb
    rcases Classical.em (c.out b) with h | h
    · exact Nat.lt_of_lt_of_le (hs.low b h) hs.below.size
    · rcases Classical.em (∃ r row, fnd s.H r = some row ∧ row.nil = false ∧ (g r).1 = b) with ⟨r, row, h1, h2, rfl⟩ | h'
      · obtain ⟨arr, h3, _⟩ := hs.obj r row h1 h2
        exact (Array.getElem?_eq_some_iff.1 h3).1
      · exact absurd ⟨h, fun r row h1 h2 h3 => h' ⟨r, row, h1, h2, h3⟩⟩ hb
  · rintro e w' ⟨v, x, rfl, h1, h2, h3, h4⟩
    refine hK g _ _ _ ⟨v, h1, h2, rfl⟩ ((hs.move h4).put o.dst (dok_spec hd) ?_) h4
    exact h3.mono Cells.rfl (fun b hb _ => Classical.not_not.1 hb) (fun r _ => rfl)
end
def arOk (n : Int) (a : Ar) : Bool := decide ((0 ≤ a.i ∧ a.i ≤ 1000) ∧ (0 ≤ a.o ∧ a.o ≤ 1000) ∧ (0 ≤ a.w ∧ a.w ≤ 1000000000) ∧ 0 ≤ a.t ∧ a.t < n)
theorem arOk_yes {n : Int} {a : Ar} (h : (0 ≤ a.i ∧ a.i ≤ 1000) ∧ (0 ≤ a.o ∧ a.o ≤ 1000) ∧ (0 ≤ a.w ∧ a.w ≤ 1000000000) ∧ 0 ≤ a.t ∧ a.t < n) : arOk n a = true := by simp only [arOk, h, decide_true, and_self]
theorem arOk_no {n : Int} {a : Ar} (h : ¬ ((0 ≤ a.i ∧ a.i ≤ 1000) ∧ (0 ≤ a.o ∧ a.o ≤ 1000) ∧ (0 ≤ a.w ∧ a.w ≤ 1000000000) ∧ 0 ≤ a.t ∧ a.t < n)) : arOk n a = false := by simp only [arOk, h, decide_false]
def finOk (x : Int) : Bool := decide (0 ≤ x ∧ x ≤ 1000000001)
def stOk (n : Int) (s : St) : Bool := finOk s.fin && s.arcs.all (arOk n)
def arcN (l : List St) : Nat := (l.map fun s => s.arcs.length).sum
def startOk (m : Mach) : Prop := -1 ≤ m.start ∧ m.start < m.states.length
instance (m : Mach) : Decidable (startOk m) := inferInstanceAs (Decidable (_ ∧ _))
/-- What is wrong with a machine: 1 a size, 2 a number out of range, 0 nothing. -/
def machE (m : Mach) : Int := if 60 < m.states.length ∨ 400 < arcN m.states then 1 else if startOk m ∧ m.states.all (stOk m.states.length) = true then 0 else 2
theorem arcN_snoc (l : List St) (s : St) : arcN (l ++ [s]) = arcN l + s.arcs.length := by simp [arcN]
theorem all_snoc' {α : Type} {xs : List α} {k : Nat} {x : α} {p : α → Bool} (hx : xs[k]? = some x) (h : (xs.take k).all p = true) (hp : p x = true) : (xs.take (k + 1)).all p = true := by
  rw [take_snoc hx, List.all_append, h]; simp [hp]
theorem all_not {α : Type} {xs : List α} {k : Nat} {x : α} {p : α → Bool} (hx : xs[k]? = some x) (hp : p x = false) : xs.all p = false := by
  rw [Bool.eq_false_iff]
  intro h
  have := List.all_eq_true.1 h x (List.mem_of_getElem? hx)
  rw [hp] at this
  exact absurd this zT14
theorem stOk_arc {n : Int} {s : St} {k : Nat} {a : Ar} (h : s.arcs[k]? = some a) (ha : arOk n a = false) : stOk n s = false := by
  simp only [stOk, all_not h ha, Bool.and_false]
theorem stOk_fin {n : Int} {s : St} (h : finOk s.fin = false) : stOk n s = false := by simp only [stOk, h, Bool.false_and]
theorem stOk_arcs {n : Int} {s : St} (h : s.arcs.all (arOk n) = false) : stOk n s = false := by simp only [stOk, h, Bool.and_false]
theorem stOk_yes {n : Int} {s : St} (h : finOk s.fin = true) (g : s.arcs.all (arOk n) = true) : stOk n s = true := by simp only [stOk, h, g, Bool.and_self]
theorem machE_size {st : Int} {sts : List St} (h : 60 < sts.length ∨ 400 < arcN sts) : machE ⟨st, sts⟩ = 1 := by unfold machE; rw [if_pos h]
theorem machE_start {st : Int} {sts : List St} {len : Nat} (hl : sts.length = len) (h1 : ¬ 60 < len) (h2 : ¬ 400 < arcN sts) (h3 : ¬ (-1 ≤ st ∧ st < len)) : machE ⟨st, sts⟩ = 2 := by
  subst hl
  unfold machE startOk
  rw [if_neg (by simp only; omega), if_neg (fun h => h3 h.1)]
theorem machE_state {st : Int} {sts : List St} {len k : Nat} {x : St} (hl : sts.length = len) (h1 : ¬ 60 < len) (h2 : ¬ 400 < arcN sts) (h3 : sts[k]? = some x) (h4 : stOk len x = false) : machE ⟨st, sts⟩ = 2 := by
  subst hl
  unfold machE
  rw [if_neg (by simp only; omega), if_neg (fun h => by have := h.2; simp only [all_not h3 h4] at this; exact absurd this zT14)]
theorem machE_good {st : Int} {sts : List St} {len k : Nat} (hl : sts.length = len) (h1 : ¬ 60 < len) (h2 : ¬ 400 < arcN sts) (h3 : -1 ≤ st ∧ st < len) (hk : ¬ k < len) (h4 : (sts.take k).all (stOk len) = true) : machE ⟨st, sts⟩ = 0 := by
  subst hl
  rw [List.take_of_length_le zT13] at h4
  unfold machE startOk
  rw [if_neg (by simp only; omega), if_pos ⟨h3, h4⟩]
/-- A machine with which nothing is wrong. -/
theorem machE_zero {m : Mach} (h : machE m = 0) : m.states.length ≤ 60 ∧ arcN m.states ≤ 400 ∧ (-1 ≤ m.start ∧ m.start < m.states.length) ∧ ∀ s ∈ m.states, finOk s.fin = true ∧ ∀ a ∈ s.arcs, arOk m.states.length a = true := by
  unfold machE at h
  by_cases h1 : 60 < m.states.length ∨ 400 < arcN m.states
  · rw [if_pos h1] at h; exact absurd h zT12
  rw [if_neg h1] at h
  by_cases h2 : startOk m ∧ m.states.all (stOk m.states.length) = true
  · refine ⟨by omega, by omega, h2.1, fun s hs => ?_⟩
    have h3 := List.all_eq_true.1 h2.2 s hs
    simp only [stOk, Bool.and_eq_true] at h3
    exact ⟨h3.1, fun a ha => List.all_eq_true.1 h3.2 a ha⟩
  rw [if_neg h2] at h; exact absurd h zT12
theorem arcN_full {sts : List St} {len k : Nat} (hl : sts.length = len) (hk : ¬ k < len) : arcN (sts.take k) = arcN sts := by rw [List.take_of_length_le zT13]
abbrev arD (a : Ar) : List D := [.p (.int .i64 a.i), .p (.int .i64 a.o), .p (.int .i64 a.w), .p (.int .i64 a.t)]
abbrev arsD (l : List Ar) : D := .sl 4 32 (l.map arD)
abbrev stD (s : St) : List D := [.p (.int .i64 s.fin), arsD s.arcs]
abbrev stsD (l : List St) : D := .sl 2 32 (l.map stD)
abbrev mV (m : Mach) : V := .agg [.i m.start, .d (stsD m.states)]
abbrev intsD (l : List Int) : D := .sl 1 8 (l.map fun x => [D.p (.int .i64 x)])
theorem DRep.bound {w : World} {q : Nat → Prop} {sz bt : Nat} {rows : List (List D)} {v : Value} (h : DRep w q (.sl sz bt rows) v) : rows.length * bt ≤ 140737488355328 := by
  cases h with | sl _ _ _ _ _ _ _ _ _ _ hl => exact hl
theorem DRep.row {w : World} {q : Nat → Prop} {sz bt : Nat} {rows : List (List D)} {v : Value} (h : DRep w q (.sl sz bt rows) v) {i j : Nat} {row : List D} {u : D} (hi : rows[i]? = some row) (hj : row[j]? = some u) : ∃ y, DRep w q u y := by
  cases h with | sl _ _ _ _ _ _ _ _ _ _ hl hc hr => exact ⟨_, hr i j row u hi hj⟩
/-- No machine in memory is larger than memory. -/
theorem Fn.mach {P : Program} {f : FuncId} {args : List V} {post : V → Prop} (m : Mach) (j : Nat) (hj : args[j]? = some (mV m)) (h : m.states.length ≤ 4398046511104 → (∀ x ∈ m.states, x.arcs.length ≤ 4398046511104) → Fn P f args post) : Fn P f args post := by
  intro w out g xs ho hx
  have hlt : j < xs.length := by rw [← hx.1]; exact (List.getElem?_eq_some_iff.1 hj).1
  have hv := hx.2 j _ _ hj (List.getElem?_eq_getElem hlt)
  generalize xs[j] = y at hv
  cases hv with
  | agg _ cs hl hh =>
    have hc : 1 < cs.length := by simp at hl; omega
    have h1 := hh 1 _ cs[1] rfl (List.getElem?_eq_getElem hc)
    cases h1 with
    | d _ _ h2 =>
      have h3 := h2.bound
      simp only [List.length_map] at h3
      refine h zT13 (fun x hx => ?_) w out g xs ho hx
      obtain ⟨i, hi⟩ := List.getElem?_of_mem hx
      obtain ⟨z, h4⟩ := h2.row (i := i) (j := 1) (row := stD x) (by simp [hi]) rfl
      have h5 := h4.bound
      simp only [List.length_map] at h5
      omega
/-- No slice in memory is larger than memory. -/
theorem Fn.sl {P : Program} {f : FuncId} {args : List V} {post : V → Prop} (j : Nat) {sz bt : Nat} {rows : List (List D)} (hj : args[j]? = some (.d (.sl sz bt rows))) (h : rows.length * bt ≤ 140737488355328 → Fn P f args post) : Fn P f args post := by
  intro w out g xs ho hx
  have hlt : j < xs.length := by rw [← hx.1]; exact (List.getElem?_eq_some_iff.1 hj).1
  have hv := hx.2 j _ _ hj (List.getElem?_eq_getElem hlt)
  generalize xs[j] = y at hv
  cases hv with
  | d _ _ h2 => exact h h2.bound w out g xs ho hx
theorem get_lt {α : Type} {l : List α} {k n : Nat} (hl : l.length = n) (h : k < n) : ∃ x, l[k]? = some x := ⟨l[k], List.getElem?_eq_getElem zT13⟩
section
variable {c : Cx} {Q : Exit → S → Prop} {s : S} {o : Oper}
open Classical in
/-- A loop whose invariant tells how far it still is. -/
theorem AW.loopN {x : Code} (I : Nat → S → Prop) (h0 : ∃ n s', Less s' s ∧ I n s')
    (round : ∀ n s, I n s → AW c x (thenS (fun s' => ∃ m s'', Less s'' s' ∧ I m s'' ∧ m < n) Q) s) : AW c (.loop x) Q s := by
  refine AW.loop (fun s => ∃ n, I n s) (fun s => if h : ∃ n, I n s then Classical.choose (least_nat h) else 0) ?_ ?_
  · obtain ⟨n, s', h1, h2⟩ := h0
    exact ⟨s', h1, n, h2⟩
  intro s hs
  obtain ⟨hc1, hc2⟩ := Classical.choose_spec (least_nat hs)
  refine (round _ s hc1).mono fun e s' hq => ?_
  cases e
  case normal =>
    obtain ⟨m, s'', h1, h2, h3⟩ := hq
    refine ⟨s'', h1, ⟨m, h2⟩, ?_⟩
    have hs'' : ∃ n, I n s'' := ⟨m, h2⟩
    simp only [dif_pos hs, dif_pos hs'']
    have := (Classical.choose_spec (least_nat hs'')).2 m h2
    omega
  all_goals exact hq
theorem st_store_map2 {α : Type} {t : TypeId} {bt : Nat} {z : Value} {x y : Operand} {r k : Nat} {row : Row} {l : List α} {f : α → V} {v : α} (hi : Inf c.P t 1 bt z) (ho : o.op = .store t x y) (hd : o.dst = none) (hx : s.ev x = some (.ref r (k * 1))) (hr : fnd s.H r = some row) (hn : row.nil = false)
    (hf : row.cells = l.map f) (hy : s.ev y = some (f v)) (hok : (f v).one = true) (hfit : k < l.length) : Step c o s (fun s' => s' = { s with H := (r, { row with cells := (l.set k v).map f }) :: s.H }) := st_store_map hi ho hd hx hy hr hn hf hok hfit
/-- A state that says less: fewer cells of one object. -/
theorem Less.cut (r : Nat) (cells : List V) {row : Row} (hr : fnd s.H r = some row) (hp : ∃ more, row.cells = cells ++ more) : Less ⟨s.n, s.T, (r, { row with cells := cells }) :: s.H, s.K⟩ s := by
  obtain ⟨more, hp⟩ := hp
  refine ⟨rfl, fun i v h => ⟨v, h, .refl _⟩, fun k row' hk => ?_, fun j v h => ⟨v, h, .refl _⟩⟩
  simp only [fnd] at hk
  split at hk
  · rename_i e
    simp only [beq_iff_eq] at e
    subst e
    simp only [Option.some.injEq] at hk
    subst hk
    refine ⟨row, hr, rfl, rfl, rfl, fun j v hv => ⟨v, ?_, .refl _⟩⟩
    rw [hp, List.getElem?_append_left (List.getElem?_eq_some_iff.1 hv).1]
    exact hv
  exact ⟨row', hk, rfl, rfl, rfl, fun j v hv => ⟨v, hv, .refl _⟩⟩
theorem AL.cut {ops : Array Oper} {l : List Oper} (r : Nat) (cells : List V) {row : Row} (hr : fnd s.H r = some row) (hp : ∃ more, row.cells = cells ++ more) (h : AL c ops l Q ⟨s.n, s.T, (r, { row with cells := cells }) :: s.H, s.K⟩) : AL c ops l Q s := AL.less (Less.cut r cells hr hp) h
theorem AW.cut {x : Code} (r : Nat) (cells : List V) {row : Row} (hr : fnd s.H r = some row) (hp : ∃ more, row.cells = cells ++ more) (h : AW c x Q ⟨s.n, s.T, (r, { row with cells := cells }) :: s.H, s.K⟩) : AW c x Q s := AW.less (Less.cut r cells hr hp) h
end
/-- A result that says less. -/
inductive WkR : V → V → Prop
  | one {v' v : V} (h : Wk v' v) : WkR v' v
  | tup {l' l : List V} (hl : l'.length = l.length) (h : ∀ (j : Nat) (u v : V), l'[j]? = some u → l[j]? = some v → Wk u v) : WkR (.tup l') (.tup l)
theorem WkR.rep {w : World} {q : Nat → Prop} {g : Nat → Nat × Nat} {v' v : V} {x : Value} (h : WkR v' v) (hv : VRep w q g v x) : VRep w q g v' x := by
  cases h with
  | one h => exact h.rep hv
  | tup hl h =>
    cases hv with
    | tup _ cs hlen hh =>
      refine .tup _ cs zT13 fun j u y hu hy => ?_
      have hj := (List.getElem?_eq_some_iff.1 hu).1
      rename_i l' l
      have hj' : j < l.length := by omega
      exact (h j u l[j] hu (List.getElem?_eq_getElem hj')).rep (hh j _ y (List.getElem?_eq_getElem hj') hy)
theorem Fn.eqi {P : Program} {f : FuncId} {args : List V} {x y : Int} (h : Fn P f args (fun v => v = .i x)) (e : x = y) : Fn P f args (fun v => v = .i y) := by subst e; exact h
theorem Fn.wkS {P : Program} {f : FuncId} {args : List V} {post post' : V → Prop} (h : Fn P f args post) (hp : ∀ v, post v → v.pure → ∃ v', post' v' ∧ v'.pure ∧ ∀ w q g x, VRep w q g v x → VRep w q g v' x) : Fn P f args post' := fun w out g xs h1 h2 =>
  (h w out g xs h1 h2).mono fun e w' ⟨v, x, h3, h4, h5, h6, h7⟩ => by
    obtain ⟨v', k1, k2, k3⟩ := hp v h4 h5
    exact ⟨v', x, h3, k1, k2, k3 _ _ _ _ h6, h7⟩
theorem rep_tup2 {u u' v : V} (h : ∀ w q g x, VRep w q g u x → VRep w q g u' x) : ∀ w q g x, VRep w q g (.tup [u, v]) x → VRep w q g (.tup [u', v]) x := by
  intro w q g x hx
  cases hx with
  | tup _ cs hl hh =>
    refine .tup _ cs hl fun j y z hy hz => ?_
    match j, hy with
    | 0, hy => simp at hy; subst hy; exact h _ _ _ _ (hh 0 u z rfl hz)
    | 1, hy => exact hh 1 y z hy hz
    | n + 2, hy => simp at hy
theorem rep_zeroM (n : Int) : ∀ w q g x, VRep w q g (.agg [.i n, .nil]) x → VRep w q g (.agg [.i n, .d (.sl 2 32 [])]) x := by
  intro w q g x hx
  cases hx with
  | agg _ cs hl hh =>
    refine .agg _ cs hl fun j y z hy hz => ?_
    match j, hy with
    | 0, hy => exact hh 0 y z hy hz
    | 1, hy => simp at hy; subst hy; exact (Wk.nil 2 32).rep (hh 1 .nil z rfl hz)
    | n + 2, hy => simp at hy
/-- A value told anew: new ids lead to old ones by ρ; what no longer lives may be told as plain data. -/
inductive Cv (s s' : S) (ρ : Nat → Nat) : V → V → Prop
  | d (x : D) : Cv s s' ρ (.d x) (.d x)
  | ad (row : List D) : Cv s s' ρ (.ad row) (.ad row)
  | ref (k o : Nat) : Cv s s' ρ (.ref k o) (.ref (ρ k) o)
  | own (k sz n : Nat) (f : Bool) : Cv s s' ρ (.own k sz n f) (.own (ρ k) sz n f)
  | nil (k sz : Nat) : Cv s s' ρ (.own k sz 0 true) .nil
  | nil2 (k k' sz : Nat) : Cv s s' ρ (.own k sz 0 true) (.own k' sz 0 true)
  | junk (v : V) : Cv s s' ρ .junk v
  | same (v : V) (h : ∀ r, v.has r = true → ρ r = r) : Cv s s' ρ v v
  | frz (r sz n bt : Nat) (f : Bool) (row : Row) (rows : List (List D)) (hr : fnd s.H r = some row) (hf : row.nil = f) (hlen : rows.length = n) (hn : n * bt ≤ 140737488355328)
      (hrows : ∀ (i j : Nat) (l : List D) (u : D), rows[i]? = some l → l[j]? = some u → row.cells[i * sz + j]? = some (.d u)) (hz : ∀ k row', fnd s'.H k = some row' → row'.nil = false → ρ k ≠ r) : Cv s s' ρ (.d (.sl sz bt rows)) (.own r sz n f)
  | agg (l' l : List V) (hl : l'.length = l.length) (h : ∀ (j : Nat) (u v : V), l'[j]? = some u → l[j]? = some v → Cv s s' ρ u v) : Cv s s' ρ (.agg l') (.agg l)
  | fn (f : FuncId) (l' l : List V) (hl : l'.length = l.length) (h : ∀ (j : Nat) (u v : V), l'[j]? = some u → l[j]? = some v → Cv s s' ρ u v) : Cv s s' ρ (.fn f l') (.fn f l)
section
variable {c : Cx} {s s' : S} {g : Nat → Nat × Nat} {a : Act} {w : World} {ρ : Nat → Nat}
theorem Sim.conv (h : Sim c g s a w) (ρ : Nat → Nat) (hn : s'.n = s.n)
    (hT : ∀ (i : Nat) (v' : V), fnd s'.T i = some v' → ∃ v, fnd s.T i = some v ∧ Cv s s' ρ v' v)
    (hH : ∀ (r : Nat) (row' : Row), fnd s'.H r = some row' → row'.nil = true ∧ row'.cells = [] ∨ row'.nil = false ∧ ∃ row, fnd s.H (ρ r) = some row ∧ row.nil = false ∧ row'.ty = row.ty ∧ row'.sz = row.sz ∧ ∀ (j : Nat) (v' : V), row'.cells[j]? = some v' → ∃ v, row.cells[j]? = some v ∧ Cv s s' ρ v' v)
    (hK : ∀ (j : Nat) (v' : V), s'.K[j]? = some v' → ∃ v, s.K[j]? = some v ∧ Cv s s' ρ v' v)
    (hinj : ∀ r r' row row', fnd s'.H r = some row → row.nil = false → fnd s'.H r' = some row' → row'.nil = false → ρ r = ρ r' → r = r') : Sim c (fun k => g (ρ k)) s' a w := by
  have hlive : ∀ r row', fnd s'.H r = some row' → row'.nil = false → ∃ row, fnd s.H (ρ r) = some row ∧ row.nil = false := by
    intro r row' hr hrn
    rcases hH r row' hr with ⟨h1, _⟩ | ⟨_, row, h1, h2, _⟩
    · rw [hrn] at h1; cases h1
    exact ⟨row, h1, h2⟩
  have hq : ∀ b, qt c s.H g b → b < w.heap.size → qt c s'.H (fun k => g (ρ k)) b := fun b hb _ => ⟨hb.1, fun r row' hr hrn => by
    obtain ⟨row, h1, h2⟩ := hlive r row' hr hrn
    exact hb.2 (ρ r) row h1 h2⟩
  have hm : ∀ {v' v}, Cv s s' ρ v' v → ∀ {x}, VRep w (qt c s.H g) g v x → VRep w (qt c s'.H (fun k => g (ρ k))) (fun k => g (ρ k)) v' x := by
    intro v' v hc
    induction hc with
    | d x => intro y hy; cases hy with | d _ _ h1 => exact .d _ _ (h1.mono Cells.rfl hq)
    | ad row =>
      intro y hy
      cases hy with
      | ad _ b o f h1 h2 h3 => exact .ad _ b o f ⟨hq b h1.1 h1.2, h1.2⟩ h2 fun j u hu => (h3 j u hu).mono Cells.rfl hq
    | ref k o =>
      intro y hy
      cases hy with
      | ref => exact VRep.ref (g := fun k => g (ρ k)) k o
    | own k sz n f =>
      intro y hy
      cases hy with
      | own _ _ _ h1 h2 => exact VRep.own (g := fun k => g (ρ k)) k sz n h1 h2
      | ownNil => exact .ownNil k sz
    | nil k sz =>
      intro y hy
      rw [VRep.p_eq hy]
      exact .ownNil k sz
    | nil2 k k' sz =>
      intro y hy
      cases hy
      exact .ownNil k sz
    | junk v => intro y _; exact .junk _
    | same v hv => intro y hy; exact hy.mono Cells.rfl hq (fun r hr => by rw [hv r hr])
    | frz r sz n bt f row rows hr hf hlen hn hrows hz =>
      intro y hy
      refine .d _ _ ?_
      cases hy with
      | own _ _ _ hle hcap =>
        obtain ⟨arr, h3, _, h4⟩ := h.obj r row hr hf
        subst hlen
        have hob : ¬ c.out (g r).1 := fun ho => by
          have h5 := h.low _ ho
          have h6 := h.base r row hr hf
          omega
        refine .sl sz bt rows _ _ (g r).1 0 (fun i j => arr.getD (i * sz + j) undef) zT13 (fun _ => ⟨rfl, ⟨hob, fun k row' hk hkn e => ?_⟩, (Array.getElem?_eq_some_iff.1 h3).1⟩) hn ?_ ?_
        · obtain ⟨row2, k1, k2⟩ := hlive k row' hk hkn
          exact hz k row' hk hkn (h.inj (ρ k) r _ _ k1 k2 hr hf e)
        · intro i j l u hi hj
          obtain ⟨y, h5, h6⟩ := h4 _ _ (hrows i j l u hi hj)
          rw [Nat.zero_add, cell_of_row w _ _ _ _ _ h3, h5]
          simp [Array.getD_eq_getD_getElem?, h5]
        intro i j l u hi hj
        obtain ⟨y, h5, h6⟩ := h4 _ _ (hrows i j l u hi hj)
        cases h6 with
        | d _ _ h7 => simpa [Array.getD_eq_getD_getElem?, h5] using h7.mono Cells.rfl hq
      | ownNil =>
        have : rows = [] := by simpa using hlen
        subst this
        exact .sl sz bt [] none 0 0 0 (fun _ _ => undef) (Nat.le_refl 0) (fun h => absurd rfl h) zT14 zT14 zT14
    | agg l' l hl hh ih =>
      intro y hy
      cases hy with
      | agg _ cs hlen h2 =>
        refine .agg _ cs zT13 fun j u z hu hz => ?_
        have hj : j < l.length := by rw [← hl]; exact (List.getElem?_eq_some_iff.1 hu).1
        exact ih j u l[j] hu (List.getElem?_eq_getElem hj) (h2 j _ z (List.getElem?_eq_getElem hj) hz)
    | fn f l' l hl hh ih =>
      intro y hy
      cases hy with
      | fn _ _ cs hlen h2 =>
        refine .fn _ _ cs zT13 fun j u z hu hz => ?_
        have hj : j < l.length := by rw [← hl]; exact (List.getElem?_eq_some_iff.1 hu).1
        exact ih j u l[j] hu (List.getElem?_eq_getElem hj) (h2 j _ z (List.getElem?_eq_getElem hj) hz)
  refine ⟨by rw [hn]; exact h.size, h.defers, ?_, ?_, ?_, ?_, ?_, ?_, h.low, h.below⟩
  · intro i v' hv
    obtain ⟨v, h1, h2⟩ := hT i v' hv
    obtain ⟨x, h3, h4⟩ := h.tmp i v h1
    exact ⟨x, h3, hm h2 h4⟩
  · intro r row' hr hrn
    rcases hH r row' hr with ⟨_, h1⟩ | ⟨h1, _⟩
    · exact h1
    rw [hrn] at h1; cases h1
  · intro r row' hr hrn
    rcases hH r row' hr with ⟨h1, _⟩ | ⟨_, row, h1, h2, h3, h4, h5⟩
    · rw [hrn] at h1; cases h1
    obtain ⟨arr, h6, h7, h8⟩ := h.obj (ρ r) row h1 h2
    refine ⟨arr, by rw [h3]; exact h6, by rw [h4]; exact h7, fun j v' hv => ?_⟩
    obtain ⟨v, h9, h10⟩ := h5 j v' hv
    obtain ⟨x, h11, h12⟩ := h8 j v h9
    exact ⟨x, h11, hm h10 h12⟩
  · intro j v' x h1 h2
    obtain ⟨v, h3, h4⟩ := hK j v' h1
    exact hm h4 (h.keep j v x h3 h2)
  · intro r r' row1 row2 h1 n1 h2 n2 h3
    obtain ⟨r1, k1, m1⟩ := hlive r row1 h1 n1
    obtain ⟨r2, k2, m2⟩ := hlive r' row2 h2 n2
    exact hinj r r' _ _ h1 n1 h2 n2 (h.inj _ _ _ _ k1 m1 k2 m2 h3)
  intro r row' h1 n1
  obtain ⟨r1, k1, m1⟩ := hlive r row' h1 n1
  exact h.base (ρ r) _ k1 m1
end
/-- A row of elements, each with plain cells ahead and a slice of its own behind. -/
structure Fam (β : Type) where
  ty : TypeId
  sz : Nat
  bt : Nat
  pre : β → List D
  it : β → List (List D)
section
variable {β : Type} (F : Fam β)
def Fam.row (x : β) : Row := ⟨F.ty, (F.it x).flatten.map V.d, (F.it x).isEmpty, F.sz⟩
def Fam.ownV (k : Nat) (x : β) : V := .own k F.sz (F.it x).length (F.it x).isEmpty
def Fam.cells : Nat → List β → List V
  | _, [] => []
  | k, x :: l => (F.pre x).map V.d ++ F.ownV k x :: Fam.cells (k + 1) l
def Fam.objs : Nat → List β → List (Nat × Row)
  | _, [] => []
  | k, x :: l => (k, F.row x) :: Fam.objs (k + 1) l
def Fam.data (x : β) : List D := F.pre x ++ [.sl F.sz F.bt (F.it x)]
variable {F}
end
mutual
def V.low (b : Nat) : V → Bool
  | .d _ => true
  | .ad _ => true
  | .ref k _ => decide (k < b)
  | .own k _ _ _ => decide (k < b)
  | .que k _ _ _ => decide (k < b)
  | .agg l => V.lowL b l
  | .tup l => V.lowL b l
  | .fn _ l => V.lowL b l
  | .mp k _ _ => decide (k < b)
  | .mq k _ _ => decide (k < b)
  | .ifc _ v => V.low b v
  | .mp2 _ k k' _ _ _ => decide (k < b) && decide (k' < b)
  | .it k _ _ _ => decide (k < b)
  | .mit k k' _ _ _ => decide (k < b) && decide (k' < b)
  | .mm k _ _ => decide (k < b)
  | .blk _ _ _ => true
  | .junk => true
def V.lowL (b : Nat) : List V → Bool
  | [] => true
  | v :: l => V.low b v && V.lowL b l
end
mutual
theorem V.low_has {b r : Nat} (hr : b ≤ r) : ∀ (v : V), v.low b = true → v.has r = false
  | .d _, _ => rfl
  | .ad _, _ => rfl
  | .ref k _, h => by simp [V.low] at h; simp [V.has]; omega
  | .own k _ _ _, h => by simp [V.low] at h; simp [V.has]; omega
  | .que k _ _ _, h => by simp [V.low] at h; simp [V.has]; omega
  | .agg l, h => V.lowL_has hr l (by simpa [V.low] using h)
  | .tup l, h => V.lowL_has hr l (by simpa [V.low] using h)
  | .fn _ l, h => V.lowL_has hr l (by simpa [V.low] using h)
  | .mp k _ _, h => by simp [V.low] at h; simp [V.has]; omega
  | .mq k _ _, h => by simp [V.low] at h; simp [V.has]; omega
  | .ifc _ v, h => by simpa [V.has] using V.low_has hr v (by simpa [V.low] using h)
  | .mp2 _ k k' _ _ _, h => by simp [V.low] at h; simp [V.has]; omega
  | .it k _ _ _, h => by simp [V.low] at h; simp [V.has]; omega
  | .mit k k' _ _ _, h => by simp [V.low] at h; simp [V.has]; omega
  | .mm k _ _, h => by simp [V.low] at h; simp [V.has]; omega
  | .blk _ _ _, _ => rfl
  | .junk, _ => rfl
theorem V.lowL_has {b r : Nat} (hr : b ≤ r) : ∀ (l : List V), V.lowL b l = true → V.hasL r l = false
  | [], _ => rfl
  | v :: l, h => by
    simp only [V.lowL, Bool.and_eq_true] at h
    simp only [V.hasL, V.low_has hr v h.1, V.lowL_has hr l h.2, Bool.or_false]
end
section
variable {β : Type} {F : Fam β} {c : Cx} {s : S} {o : Oper} {Q : Exit → S → Prop}
end
section
variable {β : Type} {F : Fam β} {c : Cx} {s : S} {Q : Exit → S → Prop}
end
theorem LH.self {n : Nat} {T : List (Nat × V)} {H : List (Nat × Row)} {K : List V} (hk : ∀ r row, fnd H r = some row → True) : ∀ {l : List (Nat × Row)}, (∀ i row, (i, row) ∈ l → fnd H i = some row) → LH ⟨n, T, H, K⟩ l
  | [], _ => trivial
  | (i, row) :: l, h => ⟨h i row zT14, LH.self hk fun j r hj => h j r (by simp [hj])⟩
theorem Fam.objs_mem {β : Type} {F : Fam β} : ∀ (l : List β) (k i : Nat) (row : Row), (i, row) ∈ F.objs k l → k ≤ i ∧ fnd (F.objs k l) i = some row
  | [], k, i, row, h => by simp [Fam.objs] at h
  | x :: l, k, i, row, h => by
    simp only [Fam.objs, List.mem_cons, Prod.mk.injEq] at h
    rcases h with ⟨rfl, rfl⟩ | h
    · exact ⟨Nat.le_refl _, by simp [Fam.objs, fnd]⟩
    obtain ⟨h1, h2⟩ := Fam.objs_mem l (k + 1) i row h
    refine ⟨by omega, ?_⟩
    rw [Fam.objs, fnd, if_neg (by simp; omega), h2]
theorem LH.skip {β : Type} {F : Fam β} {n base r : Nat} {L : List β} {row : Row} {T : List (Nat × V)} {H : List (Nat × Row)} {K : List V} (hr : r < base) (h : LH ⟨n, T, H, K⟩ (F.objs base L)) : LH ⟨n, T, (r, row) :: H, K⟩ (F.objs base L) := by
  refine LH.self (fun _ _ _ => trivial) fun i row' hm => ?_
  have h1 := (Fam.objs_mem L base i row' hm).1
  rw [fnd, if_neg (by simp; omega)]
  have : ∀ (l : List (Nat × Row)), LH ⟨n, T, H, K⟩ l → ∀ i row, (i, row) ∈ l → fnd H i = some row := by
    intro l
    induction l with
    | nil => intro _ i row h; cases h
    | cons x l ih =>
      intro hl i row hm
      rcases List.mem_cons.1 hm with e | hm
      · subst e; exact hl.1
      exact ih hl.2 i row hm
  exact this _ h i row' hm
/-- Blocks are as they were but those of e. -/
def BX (e : Nat → Prop) (N : Nat) (W w : World) : Prop := N ≤ w.heap.size ∧ ∀ k, k < N → ¬ e k → w.heap[k]? = W.heap[k]?
structure Ex (c : Cx) (g : Nat → Nat × Nat) (s : S) (r : Nat) (e : Nat → Prop) (w : World) : Prop where
  obj : ∀ k row, k ≠ r → fnd s.H k = some row → row.nil = false → ¬ e (g k).1
  quiet : ∀ k, qt c s.H g k → k < w.heap.size → ¬ e k
  own : ∀ row, fnd s.H r = some row → row.nil = false → e (g r).1
section
variable {c : Cx} {s : S} {o : Oper} {Q : Exit → S → Prop} {g : Nat → Nat × Nat} {a : Act} {w : World} {L : List Oper} {need : Nat → Bool} {l : List (Nat × Bool)} {i r : Nat} {e : Nat → Prop}
theorem BX.cell {N : Nat} {W w : World} {b k : Nat} {v : Value} (h : BX e N W w) (hb : b < N) (he : ¬ e b) (hv : W.cell? ⟨b, k, none⟩ = some v) : w.cell? ⟨b, k, none⟩ = some v := (World.cell?_of_block (w := W) (a := ⟨b, k, none⟩) (h.2 b hb he)).trans hv
/-- A read that does not look at object r. -/
def RX (c : Cx) (o : Oper) (s : S) (r : Nat) (v : V) : Prop := ∀ e g a w, Sim c g s a w → Ex c g s r e w → ∃ x, VRep w (qt c s.H g) g v x ∧ ∀ w', BX e w.heap.size w w' → (execOp a.eval o).run c.P w' = .ok (.value x) w'
theorem RP.rx {v : V} (h : RP c o s v) : RX c o s r v := fun e g a w hs _ => by
  obtain ⟨x, h1, h2⟩ := h g a w hs
  exact ⟨x, h1, fun w' _ => h2 w'⟩
/-- First come the reads that do not look at r. -/
def AE1 (c : Cx) (ops : Array Oper) (Q : Exit → S → Prop) (need : Nat → Bool) (r : Nat) (l : List (Nat × Bool)) (s : S) : Prop := ∀ e g a w, Sim c g s a w → Ex c g s r e w → (∀ k, e k → k < w.heap.size) → ASeq c.P ops (QQ c Q) (BX e w.heap.size w) need l a w
/-- Then new memory, and r grows. -/
def AE2 (c : Cx) (ops : Array Oper) (Q : Exit → S → Prop) (need : Nat → Bool) (r : Nat) (l : List (Nat × Bool)) (s : S) : Prop := ∀ W e g a w, Sim c g s a w → Ex c g s r e w → BX e W.heap.size W w → (∀ k, e k → k < W.heap.size) → ASeq c.P ops (QQ c Q) (BX e W.heap.size W) need l a w
theorem Ex.put {d : Option Tmp} {v : V} (h : Ex c g s r e w) : Ex c g (s.put d v) r e w := by
  cases d with
  | none => exact h
  | some d => exact ⟨h.obj, h.quiet, h.own⟩
theorem BX.refl (w : World) : BX e w.heap.size w w := ⟨Nat.le_refl _, fun _ _ _ => rfl⟩
theorem AE1.rx {v : V} (hi : L[i]? = some o) (hg : o.guard = none) (hd : dok s o = true) (hp : noP Q) (h : RX c o s r v) (hN : AE1 c L.toArray Q need r l (s.put o.dst v)) : AE1 c L.toArray Q need r ((i, true) :: l) s := fun e g a w hs he hl => by
  obtain ⟨x, h1, h2⟩ := h e g a w hs he
  exact ⟨o, x, by simpa using hi, .inl ⟨by simp [Region.wanted, hg], h2⟩, BX.refl _, QQ_noP hp _ _, hN e g _ w (hs.put o.dst (dok_spec hd) h1) he.put hl⟩
theorem AE1.rp {v : V} (hi : L[i]? = some o) (hg : o.guard = none) (hd : dok s o = true) (hp : noP Q) (h : RP c o s v) (hN : AE1 c L.toArray Q need r l (s.put o.dst v)) : AE1 c L.toArray Q need r ((i, true) :: l) s := AE1.rx hi hg hd hp h.rx hN
theorem AE1.go (h : AE2 c L.toArray Q need r l s) : AE1 c L.toArray Q need r l s := fun e g a w hs he hl => h w e g a w hs he (BX.refl _) hl
theorem AE2.sm {r' : Nat} {row : Row} {v : V} (hi : L[i]? = some o) (hg : o.guard = none) (h : StepG c o s r' (fun s' => s' = s.newObj r' row o.dst v)) (hne : r' ≠ r) (hN : AE2 c L.toArray Q need r l (s.newObj r' row o.dst v)) : AE2 c L.toArray Q need r ((i, false) :: l) s := fun W e g a w hs he hb hl =>
  wpOp_of (by simpa using hi) hg (h g a w hs _ _ fun g' s' a' w' h1 h2 h3 h4 h5 => by
    subst h1
    have hsz := hb.1
    have hbx : BX e W.heap.size W w' := ⟨Nat.le_trans hb.1 h3.size, fun k hk hn => (h3.block k zT13).trans (hb.2 k hk hn)⟩
    refine ⟨fun _ => hbx, hN W e g' a' w' h2 (Ex.put (s := { s with H := (r', row) :: s.H }) ⟨fun k row' hk h6 h7 => ?_, fun k hk hkl => ?_, fun row' h6 h7 => ?_⟩) hbx hl⟩
    · simp only [fnd] at h6
      by_cases hkr : r' = k
      · subst hkr
        intro h8
        have := hl _ h8
        omega
      rw [if_neg (by simpa using hkr)] at h6
      rw [h4 k (Ne.symm hkr)]
      exact he.obj k row' hk h6 h7
    · intro h8
      have h9 := hl k h8
      refine he.quiet k ⟨hk.1, fun r2 row2 h10 h11 h12 => ?_⟩ zT13 h8
      by_cases hr2 : r2 = r'
      · subst hr2
        -- an old object of that name: it would lie in the new one's place
        have : fnd s.H r2 = none ∨ ∃ x, fnd s.H r2 = some x := by cases fnd s.H r2 <;> simp
        have hne2 : e (g r2).1 := by rw [h12]; exact h8
        exact he.obj r2 row2 hne h10 h11 hne2
      refine hk.2 r2 row2 ?_ h11 (by rw [h4 r2 hr2]; exact h12)
      have e1 : (S.newObj s r' row o.dst v).H = (r', row) :: s.H := by cases o.dst <;> rfl
      simp only [fnd]
      rw [if_neg (by simpa using Ne.symm hr2)]
      exact h10
    simp only [fnd] at h6
    rw [if_neg (by simpa using hne)] at h6
    rw [h4 r (Ne.symm hne)]
    exact he.own row' h6 h7)
theorem AE2.st {X : S} (hi : L[i]? = some o) (hg : o.guard = none) (h : StepX c o s r (fun s' => s' = X)) (hN : AD3 c L.toArray Q need l X) : AE2 c L.toArray Q need r ((i, false) :: l) s := fun W e g a w hs he hb hl =>
  wpOp_of (by simpa using hi) hg (h g a w hs _ _ fun g' s' a' w' h1 h2 h3 => by
    subst h1
    have hsz := hb.1
    refine ⟨fun _ => ⟨Nat.le_trans hb.1 h3.1, fun k hk hn => (h3.2 k zT13 fun row h4 h5 h6 => ?_).trans (hb.2 k hk hn)⟩, hN _ g' a' w' h2⟩
    subst h6
    exact hn (he.own row h4 h5))
end
end Go.Proofs.YthiknkcigcglkaaDoor
