/- PaA: several texts in one. -/
import Derived.Test.YthflidjnlnmbiaaDoorAmPre
import Derived.Test.YthflidjnlnmbiaaDoorAmDec
import Derived.Test.YthflidjnlnmbiaaDoorItoa
import Derived.Test.YthflidjnlnmbiaaDoorAmLaw
import Derived.Test.YthflidjnlnmbiaaDoorBase
import Derived.Test.YthflidjnlnmbiaaDoorAmChr
import Derived.Test.YthflidjnlnmbiaaDoorAmFault
import Derived.Test.YthflidjnlnmbiaaDoorAmJoin
import Derived.Test.YthflidjnlnmbiaaDoorAmStrA
import Derived.Test.YthflidjnlnmbiaaDoorAmBld
import Derived.Test.YthflidjnlnmbiaaDoorAmTree
import Derived.Test.YthflidjnlnmbiaaDoorAmCheck
import Derived.Test.YthflidjnlnmbiaaDoorReach
namespace Go.Proofs.YthflidjnlnmbiaaDoor
open Go.RowKit
open Go.Sort (grow)
set_option linter.unusedSimpArgs false
set_option linter.unusedVariables false
set_option maxRecDepth 100000

theorem grow_below (w : World) (k : Nat) (os : Array Obj) : Below w.heap.size w (grow (w.drewN k) os) :=
  ⟨rfl, rfl, rfl, by simp [grow, World.drewN], fun k hk => by simp [grow, World.drewN, Array.getElem?_append_left hk]⟩
def preT : World → Prop := fun w => Lib.TabIs Tryd.prog w "internal/strconv.uint64pow10" .u64 Lib.pow10Tab
theorem am_Itoa (n : Nat) (h : n ≤ 1000000001) : FnP preT Tryd.prog 20 [.i (n : Int)] (fun v => v = .s (decS n)) :=
  FnP.ofCalls (xs := [.int .i64 (n : Int)]) (y := .string (decS n)) (fun w hw => (itoa_call (n : Int) (by omega) (by omega) w hw).mono fun e w' ⟨he, k, os, hw'⟩ => ⟨by
    rw [he]
    have : (⟨(Lib.itoa (n : Int)).toArray⟩ : ByteArray) = decS n := by unfold Lib.itoa decS; rw [if_neg (by omega)]; simp only [Int.toNat_natCast]
    rw [this], by rw [hw']; exact grow_below _ _ _⟩) (fun _ _ _ zs h => by
    obtain ⟨h1, h2⟩ := h
    match zs, h1, h2 with
    | [z], _, h2 => rw [VRep.p_eq (h2 0 _ z rfl rfl)]) (fun _ _ _ => .d _ _ (.p _)) (by simp [V.pure, V.has, V.hasL])
end Go.Proofs.YthflidjnlnmbiaaDoor

namespace Go.Proofs.YthflidjnlnmbiaaDoor
open Go.RowKit
open Go.Sort (grow)
set_option linter.unusedSimpArgs false
set_option linter.unusedVariables false
set_option maxRecDepth 100000

def shOk (x : Int) : Prop := 0 ≤ x ∧ x ≤ 1000000001
instance (x : Int) : Decidable (shOk x) := by unfold shOk; infer_instance
def shS (x : Int) : ByteArray := if shOk x then (if x = 1000000001 then ⟨#[105, 110, 102]⟩ else decS x.toNat) else ⟨#[]⟩
def shE (x : Int) : Int := if shOk x then 0 else 2
theorem may_Show (x : Int) (w : World) : Calls Tryd.prog 19 #[.int .i64 x] w fun e w' => e = .returned (.bool (decide (0 ≤ x ∧ x ≤ 1000000001))) ∧ w = w' := by
  go_enter Tryd.func19, Tryd.ntmps19
  go_wp2
  all_goals
    go_ret
    refine ⟨ret1b ?_, rfl⟩
    rw [Bool.eq_iff_iff]
    simp
    omega
theorem in_Show (n low high : Int) (w : World) : Calls Tryd.prog 35 #[.int .i64 n, .int .i64 low, .int .i64 high] w fun e w' => e = .returned (.bool (decide (low ≤ n ∧ n ≤ high))) ∧ w = w' := by
  go_enter Tryd.func35, Tryd.ntmps35
  go_wp2
  all_goals
    go_ret
    refine ⟨ret1b ?_, rfl⟩
    rw [Bool.eq_iff_iff]
    simp
    omega
theorem isWeight_Show (x : Int) (w : World) : Calls Tryd.prog 21 #[.int .i64 x] w fun e w' => e = .returned (.bool (decide (0 ≤ x ∧ x ≤ 1000000001))) ∧ w = w' := by
  go_enter Tryd.func21, Tryd.ntmps21
  go_wp2_with (go_at_call 35; refine (in_Show _ _ _ _).mono ?_; rintro e w' ⟨rfl, rfl⟩)
  all_goals
    go_ret
    refine ⟨ret1b ?_, rfl⟩
    rw [Bool.eq_iff_iff]
    simp
    omega
theorem dec_call (x : Int) (h0 : 0 ≤ x) (h1 : x ≤ 1000000001) (w : World) : Calls Tryd.prog 22 #[.int .i64 x] w fun e w' => e = .returned (.string (decS x.toNat)) ∧ Below w.heap.size w w' := by
  have h := am_Dec x.toNat (by omega)
  rw [show ((x.toNat : Nat) : Int) = x by omega] at h
  have hx : VReps w (fun b => ¬ False) (fun _ => (0, 0)) [.i x] [.int .i64 x] := reps_cons rep_int reps_nil
  exact (h w (fun _ => False) (fun _ => (0, 0)) [.int .i64 x] (fun _ h => h.elim) hx).mono fun e w' ⟨v, y, h1, h2, _, h4, h5⟩ => by
    subst h2
    rw [h1, VRep.p_eq h4]
    exact ⟨rfl, h5⟩
theorem weight_Show (x : Int) (w : World) (htab : Lib.TabIs Tryd.prog w "internal/strconv.uint64pow10" .u64 Lib.pow10Tab) : Calls Tryd.prog 7 #[.int .i64 x] w fun e w' => e = .returned (.tuple #[.string (shS x), .int .i64 (shE x)]) ∧ Below w.heap.size w w' := by
  by_cases hx : shOk x
  · have hx2 : 0 ≤ x ∧ x ≤ 1000000001 := hx
    have hi : (⟨(Lib.itoa x).toArray⟩ : ByteArray) = decS x.toNat := by unfold Lib.itoa decS; rw [if_neg (by omega)]
    have h2 : shE x = 0 := by unfold shE; rw [if_pos hx]
    by_cases hi2 : x = 1000000001
    · have h1 : shS x = ⟨#[105, 110, 102]⟩ := by unfold shS; rw [if_pos hx, if_pos hi2]
      rw [h1, h2]
      go_enter Tryd.func7, Tryd.ntmps7
      go_wp2_with (first | (go_at_call 19; refine (may_Show _ _).mono ?_; rintro e w' ⟨rfl, rfl⟩) | (go_at_call 20; refine (itoa_call _ (by omega) (by omega) _ htab).mono ?_; rintro e w' ⟨rfl, k, os, rfl⟩))
      all_goals go_ret2
      all_goals go_tidy
      all_goals first | exact ⟨rfl, Below.refl _ _⟩ | (exfalso; simp_all; done) | (exfalso; simp_all; omega)
    · have h1 : shS x = decS x.toNat := by unfold shS; rw [if_pos hx, if_neg hi2]
      rw [h1, h2]
      go_enter Tryd.func7, Tryd.ntmps7
      go_wp2_with (first | (go_at_call 19; refine (may_Show _ _).mono ?_; rintro e w' ⟨rfl, rfl⟩) | (go_at_call 20; refine (itoa_call _ (by omega) (by omega) _ htab).mono ?_; rintro e w' ⟨rfl, k, os, rfl⟩))
      all_goals go_ret2
      all_goals go_tidy
      all_goals first | exact ⟨rfl, grow_below _ _ _⟩ | (exfalso; simp_all; done) | (exfalso; simp_all; omega)
  · have hx2 : ¬ (0 ≤ x ∧ x ≤ 1000000001) := hx
    have h1 : shS x = ⟨#[]⟩ := by unfold shS; rw [if_neg hx]
    have h2 : shE x = 2 := by unfold shE; rw [if_neg hx]
    rw [h1, h2]
    go_enter Tryd.func7, Tryd.ntmps7
    go_wp2_with (go_at_call 19; refine (may_Show _ _).mono ?_; rintro e w' ⟨rfl, rfl⟩)
    all_goals go_ret2
    all_goals go_tidy
    all_goals first | exact ⟨rfl, Below.refl _ _⟩ | (exfalso; simp_all; done) | (exfalso; simp_all; omega)
theorem ref_Shown (x : Int) (w : World) : Calls Tryd.prog 8 #[.int .i64 x] w fun e w' => e = .returned (.tuple #[.string (shS x), .int .i64 (shE x)]) ∧ Below w.heap.size w w' := by
  by_cases hx : shOk x
  · have hx2 : 0 ≤ x ∧ x ≤ 1000000001 := hx
    have h2 : shE x = 0 := by unfold shE; rw [if_pos hx]
    by_cases hi2 : x = 1000000001
    · have h1 : shS x = ⟨#[105, 110, 102]⟩ := by unfold shS; rw [if_pos hx, if_pos hi2]
      rw [h1, h2]
      go_enter Tryd.func8, Tryd.ntmps8
      go_wp2_with (first | (go_at_call 21; refine (isWeight_Show _ _).mono ?_; rintro e w' ⟨rfl, rfl⟩) | (go_at_call 22; refine (dec_call _ (by omega) (by omega) _).mono ?_; rintro e w' ⟨rfl, hbel⟩))
      all_goals go_ret2
      all_goals go_tidy
      all_goals first | exact ⟨rfl, Below.refl _ _⟩ | (exfalso; simp_all; done) | (exfalso; simp_all; omega)
    · have h1 : shS x = decS x.toNat := by unfold shS; rw [if_pos hx, if_neg hi2]
      rw [h1, h2]
      go_enter Tryd.func8, Tryd.ntmps8
      go_wp2_with (first | (go_at_call 21; refine (isWeight_Show _ _).mono ?_; rintro e w' ⟨rfl, rfl⟩) | (go_at_call 22; refine (dec_call _ (by omega) (by omega) _).mono ?_; rintro e w' ⟨rfl, hbel⟩))
      all_goals go_ret2
      all_goals go_tidy
      all_goals first | exact ⟨rfl, hbel⟩ | (exfalso; simp_all; done) | (exfalso; simp_all; omega)
  · have hx2 : ¬ (0 ≤ x ∧ x ≤ 1000000001) := hx
    have h1 : shS x = ⟨#[]⟩ := by unfold shS; rw [if_neg hx]
    have h2 : shE x = 2 := by unfold shE; rw [if_neg hx]
    rw [h1, h2]
    go_enter Tryd.func8, Tryd.ntmps8
    go_wp2_with (go_at_call 21; refine (isWeight_Show _ _).mono ?_; rintro e w' ⟨rfl, rfl⟩)
    all_goals go_ret2
    all_goals go_tidy
    all_goals first | exact ⟨rfl, Below.refl _ _⟩ | (exfalso; simp_all; done) | (exfalso; simp_all; omega)
end Go.Proofs.YthflidjnlnmbiaaDoor

namespace Go.Proofs.YthflidjnlnmbiaaDoor
open Go.RowKit
set_option linter.unusedSimpArgs false
set_option linter.unusedVariables false
set_option maxRecDepth 100000

def sLF : ByteArray := ⟨#[10]⟩
def sSP : ByteArray := ⟨#[32]⟩
/-- One arc's line. -/
def papA (s : ByteArray) (a : Ar) : ByteArray := s ++ ⟨#[97, 114, 99, 32]⟩ ++ decS a.t.toNat ++ sSP ++ decS a.i.toNat ++ sSP ++ decS a.o.toNat ++ sSP ++ decS a.w.toNat ++ sLF
def papS (s : ByteArray) (x : St) : ByteArray := x.arcs.foldl papA (s ++ ⟨#[115, 116, 97, 116, 101, 32]⟩ ++ shS x.fin ++ sLF)
def papH (st : Int) : ByteArray := if 0 ≤ st then ⟨#[115, 116, 97, 114, 116, 32]⟩ ++ decS st.toNat ++ sLF else ⟨#[115, 116, 97, 114, 116, 32, 45, 10]⟩
noncomputable def papM (m : Mach) : ByteArray := if machE m = 0 then m.states.foldl papS (papH m.start) else ⟨#[]⟩
theorem am_Shown (x : Int) : Fn Tryd.prog 8 [.i x] (fun v => v = .tup [.s (shS x), .i (shE x)]) :=
  Fn.ofCalls (xs := [.int .i64 x]) (y := .tuple #[.string (shS x), .int .i64 (shE x)]) (fun w => ref_Shown x w) (fun _ _ _ zs h => by
    obtain ⟨h1, h2⟩ := h
    match zs, h1, h2 with
    | [z], _, h2 => rw [VRep.p_eq (h2 0 _ z rfl rfl)]) (fun _ _ _ => .tup _ _ rfl fun j u z hu hz => by
    match j, hu with
    | 0, hu => simp at hu hz; subst hu hz; exact .d _ _ (.p _)
    | 1, hu => simp at hu hz; subst hu hz; exact .d _ _ (.p _)
    | j + 2, hu => simp at hu) (by simp [V.pure, V.has, V.hasL])
theorem shS_size (x : Int) : (shS x).size ≤ 1000000005 := by
  unfold shS
  split
  · rename_i h
    split
    · show 3 ≤ _; omega
    · have := decS_size x.toNat
      have h2 : 0 ≤ x ∧ x ≤ 1000000001 := h
      omega
  · show 0 ≤ _; omega
theorem papH_size {st : Int} (h : st ≤ 1000) : (papH st).size ≤ 10000 := by
  unfold papH
  split
  · have := decS_size st.toNat
    simp only [ByteArray.size_append]
    have h1 : (⟨#[115, 116, 97, 114, 116, 32]⟩ : ByteArray).size = 6 := rfl
    have h2 : sLF.size = 1 := rfl
    omega
  · show 8 ≤ _; omega
theorem papA_size {s : ByteArray} {a : Ar} {n : Int} (h : arOk n a = true) (hn : n ≤ 60) : (papA s a).size ≤ s.size + 2000000000 := by
  simp only [arOk, decide_eq_true_eq] at h
  unfold papA
  simp only [ByteArray.size_append]
  have h1 : (⟨#[97, 114, 99, 32]⟩ : ByteArray).size = 4 := rfl
  have h2 : sLF.size = 1 := rfl
  have h3 : sSP.size = 1 := rfl
  have := decS_size a.t.toNat
  have := decS_size a.i.toNat
  have := decS_size a.o.toNat
  have := decS_size a.w.toNat
  omega
end Go.Proofs.YthflidjnlnmbiaaDoor

namespace Go.Proofs.YthflidjnlnmbiaaDoor
open Go.RowKit
set_option linter.unusedSimpArgs false
set_option linter.unusedVariables false
set_option maxRecDepth 100000

theorem am_ShowP (x : Int) : FnP preT Tryd.prog 7 [.i x] (fun v => v = .tup [.s (shS x), .i (shE x)]) :=
  FnP.ofCalls (xs := [.int .i64 x]) (y := .tuple #[.string (shS x), .int .i64 (shE x)]) (fun w hw => weight_Show x w hw) (fun _ _ _ zs h => by
    obtain ⟨h1, h2⟩ := h
    match zs, h1, h2 with
    | [z], _, h2 => rw [VRep.p_eq (h2 0 _ z rfl rfl)]) (fun _ _ _ => .tup _ _ rfl fun j u z hu hz => by
    match j, hu with
    | 0, hu => simp at hu hz; subst hu hz; exact .d _ _ (.p _)
    | 1, hu => simp at hu hz; subst hu hz; exact .d _ _ (.p _)
    | j + 2, hu => simp at hu) (by simp [V.pure, V.has, V.hasL])
end Go.Proofs.YthflidjnlnmbiaaDoor

namespace Go.Proofs.YthflidjnlnmbiaaDoor
set_option linter.unusedSimpArgs false
set_option linter.unusedVariables false

theorem ba_app (x y : List UInt8) : (⟨x.toArray⟩ : ByteArray) ++ ⟨y.toArray⟩ = ⟨(x ++ y).toArray⟩ := ByteArray.mk_append_mk x y
theorem ba_self (a : ByteArray) : (⟨a.data.toList.toArray⟩ : ByteArray) = a := by cases a; simp
theorem join2 (a b sep : ByteArray) : joinB [a, b] sep = a ++ sep ++ b := by
  have h : a ++ sep ++ b = ⟨(a.data.toList ++ sep.data.toList ++ b.data.toList).toArray⟩ := by
    rw [← ba_app, ← ba_app, ba_self, ba_self, ba_self]
  rw [h]
  simp [joinB, Lib.join, Lib.joinTail]
theorem join5 (a b c d e sep : ByteArray) : joinB [a, b, c, d, e] sep = a ++ sep ++ b ++ sep ++ c ++ sep ++ d ++ sep ++ e := by
  have h : a ++ sep ++ b ++ sep ++ c ++ sep ++ d ++ sep ++ e = ⟨(a.data.toList ++ sep.data.toList ++ b.data.toList ++ sep.data.toList ++ c.data.toList ++ sep.data.toList ++ d.data.toList ++ sep.data.toList ++ e.data.toList).toArray⟩ := by
    rw [← ba_app, ← ba_app, ← ba_app, ← ba_app, ← ba_app, ← ba_app, ← ba_app, ← ba_app, ba_self, ba_self, ba_self, ba_self, ba_self, ba_self]
  rw [h]
  simp [joinB, Lib.join, Lib.joinTail]
/-- What paper.Show writes. -/
theorem papS_line (s : ByteArray) (w : ByteArray) : s ++ (joinB [⟨#[115, 116, 97, 116, 101]⟩, w] ⟨#[32]⟩ ++ ⟨#[10]⟩) = s ++ ⟨#[115, 116, 97, 116, 101, 32]⟩ ++ w ++ sLF := by
  rw [join2]
  have h : (⟨#[115, 116, 97, 116, 101]⟩ : ByteArray) ++ ⟨#[32]⟩ = ⟨#[115, 116, 97, 116, 101, 32]⟩ := rfl
  rw [h]
  unfold sLF
  simp only [ByteArray.append_assoc]
theorem papA_line (s : ByteArray) (a : Ar) : s ++ (joinB [⟨#[97, 114, 99]⟩, decS a.t.toNat, decS a.i.toNat, decS a.o.toNat, decS a.w.toNat] ⟨#[32]⟩ ++ ⟨#[10]⟩) = papA s a := by
  rw [join5]
  have h : (⟨#[97, 114, 99]⟩ : ByteArray) ++ ⟨#[32]⟩ = ⟨#[97, 114, 99, 32]⟩ := rfl
  rw [h]
  unfold papA sSP sLF
  simp only [ByteArray.append_assoc]
theorem papH_line (st : Int) : joinB [⟨#[115, 116, 97, 114, 116]⟩, if 0 ≤ st then decS st.toNat else ⟨#[45]⟩] ⟨#[32]⟩ ++ ⟨#[10]⟩ = papH st := by
  rw [join2]
  have h : (⟨#[115, 116, 97, 114, 116]⟩ : ByteArray) ++ ⟨#[32]⟩ = ⟨#[115, 116, 97, 114, 116, 32]⟩ := rfl
  rw [h]
  unfold papH sLF
  split
  · rfl
  · rfl
end Go.Proofs.YthflidjnlnmbiaaDoor

namespace Go.Proofs.YthflidjnlnmbiaaDoor
open Go.RowKit
set_option linter.unusedSimpArgs false
set_option linter.unusedVariables false
set_option maxRecDepth 100000

section
variable {ty : TypeId} {H1 : List (Nat × Row)} {K : List V}
theorem bH_front {a z : Bool} {s : ByteArray} {row : Row} {n : Nat} {T : List (Nat × V)} : Less ⟨n, T, bH ty a z s ((890, row) :: H1), K⟩ ⟨n, T, (890, row) :: bH ty a z s H1, K⟩ :=
 ⟨rfl, fun i v h => ⟨v, h, .refl _⟩, fun k row' h => ⟨row', (by
  refine Eq.trans ?_ h
  cases a <;> simp only [bH, bT, bF, fnd, beq_iff_eq] <;> by_cases e1 : 890 = k <;> by_cases e2 : 900 = k <;> by_cases e3 : 901 = k <;> first | (exfalso; omega) | simp [e1, e2, e3]), rfl, rfl, rfl, fun j v hv => ⟨v, hv, .refl _⟩⟩, fun j v h => ⟨v, h, .refl _⟩⟩
theorem pc_line2 (hk : BOk ty) (a z : Bool) (s x0 x1 : ByteArray) (hl : Lw H1 K) (h890 : fnd H1 890 = none) (hj0 : 0 < (joinB [x0, x1] ⟨#[32]⟩).size) (hj1 : s.size + (joinB [x0, x1] ⟨#[32]⟩).size + 1 ≤ 140737488355328) : PC Tryd.prog 31 [.ref 900 0, .own 890 1 2 false] ((890, ⟨9, [.s x0, .s x1], false, 1⟩) :: bH ty a z s H1) K (fun v H' K' => v = .tup [] ∧ H' = bT ty false (s ++ (joinB [x0, x1] ⟨#[32]⟩ ++ ⟨#[10]⟩)) H1 ∧ K' = K) := by
 have hjl : (Lib.join ((([x0, x1] : List ByteArray)).map (·.data.toList)) (⟨#[32]⟩ : ByteArray).data.toList).length ≤ 140737488355328 := by
  have : (joinB [x0, x1] ⟨#[32]⟩).size = (Lib.join ((([x0, x1] : List ByteArray)).map (·.data.toList)) (⟨#[32]⟩ : ByteArray).data.toList).length := by simp [joinB, ByteArray.size]
  omega
 have hl2 : ∀ K, Lw H1 K → Lw ((890, ⟨9, [.s x0, .s x1], false, 1⟩) :: H1) K := fun K h => ⟨fun x hx => by
  rcases List.mem_cons.1 hx with rfl | hx
  ·exact ⟨by show 890 < 900; decide, rfl⟩
  ·exact h.obj x hx, h.keep⟩
 have hlow : ∀ (b r : Row) k row, fnd H1 k = some row → fnd ((900, b) :: (901, r) :: (890, ⟨9, [.s x0, .s x1], false, 1⟩) :: H1) k = some row := fun b r k row h => by
  have h1 : k ≠ 890 := by
   rintro rfl
   rw [h890] at h
   cases h
  have h2 : k < 900 := (hl.obj _ (fnd_mem h)).1
  simp only [fnd, beq_iff_eq]
  rw [if_neg (by omega), if_neg (by omega), if_neg (fun e => h1 e.symm)]
  exact h
 refine PC.intro (n := 14) ⟨Tryd.func31, rfl, rfl, rfl, rfl⟩ (by simp) fun w0 out kx => AW.weaken (AW.less bH_front ?_)
 simp only [enum]
 cases a
 ·skip
  refine AW.seq ?_
  refine AW.drawT (N := ?N1) (l := #[false, false, false, false, false, false]) 6 (by kernel_rfl) rfl rfl ?_ ?_
  rotate_left
  refine AN.rp (i := 0) (l' := #[true, false, false, false, false, false]) rfl rfl rfl (fun _ _ h => h) (by kernel_rfl) rfl (rp_move rfl rfl) ?_
  refine AN.rp (i := 3) (l' := #[true, false, false, true, false, false]) rfl rfl rfl (fun _ _ h => h) (by kernel_rfl) rfl (rp_move rfl rfl) ?_
  refine AN.br2 (i := 1) (j := 4) (by kernel_rfl) ?_ ?_
  ·refine BR.mk (l' := #[true, true, false, true, false, false]) rfl rfl rfl ?_
   (first | (refine ST.rp rfl (rp_nilCheck rfl rfl) ?_) | (refine ST.rp rfl (rp_nilCheck_ad rfl rfl) ?_))
   (first | (refine AN.rp (i := 2) (l' := #[true, true, true, true, false, false]) rfl rfl rfl (fun _ _ h => h) (by kernel_rfl) rfl (rp_field_ref Tryd.underlying61 rfl rfl rfl inf52 (by decide) rfl) ?_) | (refine AN.rp (i := 2) (l' := #[true, true, true, true, false, false]) rfl rfl rfl (fun _ _ h => h) (by kernel_rfl) rfl (rp_field_ad Tryd.underlying61 rfl rfl rfl inf52 (by decide) rfl) ?_))
   refine AN.br1 (i := 4) (by kernel_rfl) ?_
   refine BR.mk (l' := #[true, true, true, true, true, false]) rfl rfl rfl ?_
   refine ST.sm (sm_join ([x0, x1]) (join_fits _ _ (by simp) (by assumption)) ⟨Tryd.func54, rfl, rfl, rfl, rfl⟩ rfl rfl rfl rfl rfl rfl rfl rfl rfl) ?_
   try simp only [S.put]
   refine AN.br1 (i := 5) (by kernel_rfl) ?_
   refine BR.mk (l' := #[true, true, true, true, true, true]) rfl rfl rfl ?_
   try simp only [S.put, S.newObj, setL, V.cs, List.length_cons, List.length_nil, List.take_succ_cons, List.take_zero, List.drop_succ_cons, List.drop_zero, List.drop_nil, List.nil_append, List.cons_append, List.append_nil, Nat.zero_add, Nat.reduceAdd]
   refine ST.pc [0] (ts := [_]) (args := [_, _]) (post := ?pc1) ?hc1 rfl rfl rfl rfl rfl rfl rfl rfl rfl ?_
   case hc1 => (refine pc_WriteString hk false z s (joinB [x0, x1] ⟨#[32]⟩) (hl2 _ (hl.keepL _ ?_)) hj0 (by omega) <;> first | rfl | (simp [V.lowL, V.low]; done))
   rintro _ _ _ ⟨rfl, rfl, rfl⟩
   simp only [back, S.put, List.cons_append, List.nil_append, List.zip_cons_cons, List.zip_nil_left, List.drop_succ_cons, List.drop_zero, List.length_cons, List.length_nil, Nat.zero_add, Nat.reduceAdd]
   refine AN.nil (by kernel_rfl) ?_
   show Less _ _
   exact Less.same _
  ·refine BR.mk (l' := #[true, false, false, true, true, false]) rfl rfl rfl ?_
   refine ST.sm (sm_join ([x0, x1]) (join_fits _ _ (by simp) (by assumption)) ⟨Tryd.func54, rfl, rfl, rfl, rfl⟩ rfl rfl rfl rfl rfl rfl rfl rfl rfl) ?_
   try simp only [S.put]
   refine AN.br1 (i := 1) (by kernel_rfl) ?_
   refine BR.mk (l' := #[true, true, false, true, true, false]) rfl rfl rfl ?_
   (first | (refine ST.rp rfl (rp_nilCheck rfl rfl) ?_) | (refine ST.rp rfl (rp_nilCheck_ad rfl rfl) ?_))
   (first | (refine AN.rp (i := 2) (l' := #[true, true, true, true, true, false]) rfl rfl rfl (fun _ _ h => h) (by kernel_rfl) rfl (rp_field_ref Tryd.underlying61 rfl rfl rfl inf52 (by decide) rfl) ?_) | (refine AN.rp (i := 2) (l' := #[true, true, true, true, true, false]) rfl rfl rfl (fun _ _ h => h) (by kernel_rfl) rfl (rp_field_ad Tryd.underlying61 rfl rfl rfl inf52 (by decide) rfl) ?_))
   refine AN.br1 (i := 5) (by kernel_rfl) ?_
   refine BR.mk (l' := #[true, true, true, true, true, true]) rfl rfl rfl ?_
   try simp only [S.put, S.newObj, setL, V.cs, List.length_cons, List.length_nil, List.take_succ_cons, List.take_zero, List.drop_succ_cons, List.drop_zero, List.drop_nil, List.nil_append, List.cons_append, List.append_nil, Nat.zero_add, Nat.reduceAdd]
   refine ST.pc [0] (ts := [_]) (args := [_, _]) (post := ?pc2) ?hc2 rfl rfl rfl rfl rfl rfl rfl rfl rfl ?_
   case hc2 => (refine pc_WriteString hk false z s (joinB [x0, x1] ⟨#[32]⟩) (hl2 _ (hl.keepL _ ?_)) hj0 (by omega) <;> first | rfl | (simp [V.lowL, V.low]; done))
   rintro _ _ _ ⟨rfl, rfl, rfl⟩
   simp only [back, S.put, List.cons_append, List.nil_append, List.zip_cons_cons, List.zip_nil_left, List.drop_succ_cons, List.drop_zero, List.length_cons, List.length_nil, Nat.zero_add, Nat.reduceAdd]
   refine AN.nil (by kernel_rfl) ?_
   show Less _ _
   exact Less.same _
  (try simp only [S.put, S.newObj, setL, V.cs, List.length_cons, List.length_nil, List.take_succ_cons, List.take_zero, List.drop_succ_cons, List.drop_zero, List.drop_nil, List.nil_append, List.cons_append, List.append_nil, Nat.zero_add, Nat.reduceAdd, List.map_cons, List.map_nil, List.set_cons_zero, List.set_cons_succ])
  try simp only [S.dd, ddL, List.contains_cons, List.contains_nil, Nat.reduceBEq, beq_self_eq_true, Bool.or_false, Bool.or_true, Bool.false_or, Bool.true_or, Bool.or_self, if_true, if_false, Bool.false_eq_true, ↓reduceIte]
  try simp only [thenS, S.put, S.newObj, setL, V.cs, List.length_cons, List.length_nil, List.take_succ_cons, List.take_zero, List.drop_succ_cons, List.drop_zero, List.drop_nil, List.nil_append, List.cons_append, List.append_nil, Nat.zero_add, Nat.reduceAdd, List.map_cons, List.map_nil, List.set_cons_zero, List.set_cons_succ, enum]
  refine AW.region ?_
  refine AL.rp rfl rfl (rp_move rfl rfl) ?_
  (first | (refine AL.rp rfl rfl (rp_nilCheck rfl rfl) ?_) | (refine AL.rp rfl rfl (rp_nilCheck_ad rfl rfl) ?_))
  (first | (refine AL.rp rfl rfl (rp_field_ref Tryd.underlying61 rfl rfl rfl inf52 (by decide) rfl) ?_) | (refine AL.rp rfl rfl (rp_field_ad Tryd.underlying61 rfl rfl rfl inf52 (by decide) rfl) ?_))
  try simp only [S.put, S.newObj, setL, V.cs, List.length_cons, List.length_nil, List.take_succ_cons, List.take_zero, List.drop_succ_cons, List.drop_zero, List.drop_nil, List.nil_append, List.cons_append, List.append_nil, Nat.zero_add, Nat.reduceAdd]
  refine AL.pc [0] (ts := [_]) (args := [_, _]) (post := ?pc3) ?hc3 rfl rfl rfl rfl rfl rfl rfl rfl rfl ?_
  case hc3 => (refine pc_WriteByte hk true false (s ++ joinB [x0, x1] ⟨#[32]⟩) 10 (hl2 _ (hl.keepL _ ?_)) (by rw [ByteArray.size_append]; omega) <;> first | rfl | (simp [V.lowL, V.low]; done))
  rintro _ _ _ ⟨rfl, rfl⟩
  simp only [back, S.put, List.cons_append, List.nil_append, List.zip_cons_cons, List.zip_nil_left, List.drop_succ_cons, List.drop_zero, List.length_cons, List.length_nil, Nat.zero_add, Nat.reduceAdd]
  refine AL.nil ?_
  try simp only [thenS, S.put]
  refine ⟨_, Less.hp (T := []) trivial rfl rfl (hlow _ _), [], trivial, rfl, ?_, rfl⟩
  show bT ty false ((s ++ joinB [x0, x1] ⟨#[32]⟩) ++ ⟨#[10]⟩) H1 = _
  rw [ByteArray.append_assoc]
 ·skip
  refine AW.seq ?_
  refine AW.drawT (N := ?N5) (l := #[false, false, false, false, false, false]) 6 (by kernel_rfl) rfl rfl ?_ ?_
  rotate_left
  refine AN.rp (i := 0) (l' := #[true, false, false, false, false, false]) rfl rfl rfl (fun _ _ h => h) (by kernel_rfl) rfl (rp_move rfl rfl) ?_
  refine AN.rp (i := 3) (l' := #[true, false, false, true, false, false]) rfl rfl rfl (fun _ _ h => h) (by kernel_rfl) rfl (rp_move rfl rfl) ?_
  refine AN.br2 (i := 1) (j := 4) (by kernel_rfl) ?_ ?_
  ·refine BR.mk (l' := #[true, true, false, true, false, false]) rfl rfl rfl ?_
   (first | (refine ST.rp rfl (rp_nilCheck rfl rfl) ?_) | (refine ST.rp rfl (rp_nilCheck_ad rfl rfl) ?_))
   (first | (refine AN.rp (i := 2) (l' := #[true, true, true, true, false, false]) rfl rfl rfl (fun _ _ h => h) (by kernel_rfl) rfl (rp_field_ref Tryd.underlying61 rfl rfl rfl inf52 (by decide) rfl) ?_) | (refine AN.rp (i := 2) (l' := #[true, true, true, true, false, false]) rfl rfl rfl (fun _ _ h => h) (by kernel_rfl) rfl (rp_field_ad Tryd.underlying61 rfl rfl rfl inf52 (by decide) rfl) ?_))
   refine AN.br1 (i := 4) (by kernel_rfl) ?_
   refine BR.mk (l' := #[true, true, true, true, true, false]) rfl rfl rfl ?_
   refine ST.sm (sm_join ([x0, x1]) (join_fits _ _ (by simp) (by assumption)) ⟨Tryd.func54, rfl, rfl, rfl, rfl⟩ rfl rfl rfl rfl rfl rfl rfl rfl rfl) ?_
   try simp only [S.put]
   refine AN.br1 (i := 5) (by kernel_rfl) ?_
   refine BR.mk (l' := #[true, true, true, true, true, true]) rfl rfl rfl ?_
   try simp only [S.put, S.newObj, setL, V.cs, List.length_cons, List.length_nil, List.take_succ_cons, List.take_zero, List.drop_succ_cons, List.drop_zero, List.drop_nil, List.nil_append, List.cons_append, List.append_nil, Nat.zero_add, Nat.reduceAdd]
   refine ST.pc [0] (ts := [_]) (args := [_, _]) (post := ?pc5) ?hc5 rfl rfl rfl rfl rfl rfl rfl rfl rfl ?_
   case hc5 => (refine pc_WriteString hk true z s (joinB [x0, x1] ⟨#[32]⟩) (hl2 _ (hl.keepL _ ?_)) hj0 (by omega) <;> first | rfl | (simp [V.lowL, V.low]; done))
   rintro _ _ _ ⟨rfl, rfl, rfl⟩
   simp only [back, S.put, List.cons_append, List.nil_append, List.zip_cons_cons, List.zip_nil_left, List.drop_succ_cons, List.drop_zero, List.length_cons, List.length_nil, Nat.zero_add, Nat.reduceAdd]
   refine AN.nil (by kernel_rfl) ?_
   show Less _ _
   exact Less.same _
  ·refine BR.mk (l' := #[true, false, false, true, true, false]) rfl rfl rfl ?_
   refine ST.sm (sm_join ([x0, x1]) (join_fits _ _ (by simp) (by assumption)) ⟨Tryd.func54, rfl, rfl, rfl, rfl⟩ rfl rfl rfl rfl rfl rfl rfl rfl rfl) ?_
   try simp only [S.put]
   refine AN.br1 (i := 1) (by kernel_rfl) ?_
   refine BR.mk (l' := #[true, true, false, true, true, false]) rfl rfl rfl ?_
   (first | (refine ST.rp rfl (rp_nilCheck rfl rfl) ?_) | (refine ST.rp rfl (rp_nilCheck_ad rfl rfl) ?_))
   (first | (refine AN.rp (i := 2) (l' := #[true, true, true, true, true, false]) rfl rfl rfl (fun _ _ h => h) (by kernel_rfl) rfl (rp_field_ref Tryd.underlying61 rfl rfl rfl inf52 (by decide) rfl) ?_) | (refine AN.rp (i := 2) (l' := #[true, true, true, true, true, false]) rfl rfl rfl (fun _ _ h => h) (by kernel_rfl) rfl (rp_field_ad Tryd.underlying61 rfl rfl rfl inf52 (by decide) rfl) ?_))
   refine AN.br1 (i := 5) (by kernel_rfl) ?_
   refine BR.mk (l' := #[true, true, true, true, true, true]) rfl rfl rfl ?_
   try simp only [S.put, S.newObj, setL, V.cs, List.length_cons, List.length_nil, List.take_succ_cons, List.take_zero, List.drop_succ_cons, List.drop_zero, List.drop_nil, List.nil_append, List.cons_append, List.append_nil, Nat.zero_add, Nat.reduceAdd]
   refine ST.pc [0] (ts := [_]) (args := [_, _]) (post := ?pc6) ?hc6 rfl rfl rfl rfl rfl rfl rfl rfl rfl ?_
   case hc6 => (refine pc_WriteString hk true z s (joinB [x0, x1] ⟨#[32]⟩) (hl2 _ (hl.keepL _ ?_)) hj0 (by omega) <;> first | rfl | (simp [V.lowL, V.low]; done))
   rintro _ _ _ ⟨rfl, rfl, rfl⟩
   simp only [back, S.put, List.cons_append, List.nil_append, List.zip_cons_cons, List.zip_nil_left, List.drop_succ_cons, List.drop_zero, List.length_cons, List.length_nil, Nat.zero_add, Nat.reduceAdd]
   refine AN.nil (by kernel_rfl) ?_
   show Less _ _
   exact Less.same _
  (try simp only [S.put, S.newObj, setL, V.cs, List.length_cons, List.length_nil, List.take_succ_cons, List.take_zero, List.drop_succ_cons, List.drop_zero, List.drop_nil, List.nil_append, List.cons_append, List.append_nil, Nat.zero_add, Nat.reduceAdd, List.map_cons, List.map_nil, List.set_cons_zero, List.set_cons_succ])
  try simp only [S.dd, ddL, List.contains_cons, List.contains_nil, Nat.reduceBEq, beq_self_eq_true, Bool.or_false, Bool.or_true, Bool.false_or, Bool.true_or, Bool.or_self, if_true, if_false, Bool.false_eq_true, ↓reduceIte]
  try simp only [thenS, S.put, S.newObj, setL, V.cs, List.length_cons, List.length_nil, List.take_succ_cons, List.take_zero, List.drop_succ_cons, List.drop_zero, List.drop_nil, List.nil_append, List.cons_append, List.append_nil, Nat.zero_add, Nat.reduceAdd, List.map_cons, List.map_nil, List.set_cons_zero, List.set_cons_succ, enum]
  refine AW.region ?_
  refine AL.rp rfl rfl (rp_move rfl rfl) ?_
  (first | (refine AL.rp rfl rfl (rp_nilCheck rfl rfl) ?_) | (refine AL.rp rfl rfl (rp_nilCheck_ad rfl rfl) ?_))
  (first | (refine AL.rp rfl rfl (rp_field_ref Tryd.underlying61 rfl rfl rfl inf52 (by decide) rfl) ?_) | (refine AL.rp rfl rfl (rp_field_ad Tryd.underlying61 rfl rfl rfl inf52 (by decide) rfl) ?_))
  try simp only [S.put, S.newObj, setL, V.cs, List.length_cons, List.length_nil, List.take_succ_cons, List.take_zero, List.drop_succ_cons, List.drop_zero, List.drop_nil, List.nil_append, List.cons_append, List.append_nil, Nat.zero_add, Nat.reduceAdd]
  refine AL.pc [0] (ts := [_]) (args := [_, _]) (post := ?pc7) ?hc7 rfl rfl rfl rfl rfl rfl rfl rfl rfl ?_
  case hc7 => (refine pc_WriteByte hk true false (s ++ joinB [x0, x1] ⟨#[32]⟩) 10 (hl2 _ (hl.keepL _ ?_)) (by rw [ByteArray.size_append]; omega) <;> first | rfl | (simp [V.lowL, V.low]; done))
  rintro _ _ _ ⟨rfl, rfl⟩
  simp only [back, S.put, List.cons_append, List.nil_append, List.zip_cons_cons, List.zip_nil_left, List.drop_succ_cons, List.drop_zero, List.length_cons, List.length_nil, Nat.zero_add, Nat.reduceAdd]
  refine AL.nil ?_
  try simp only [thenS, S.put]
  refine ⟨_, Less.hp (T := []) trivial rfl rfl (hlow _ _), [], trivial, rfl, ?_, rfl⟩
  show bT ty false ((s ++ joinB [x0, x1] ⟨#[32]⟩) ++ ⟨#[10]⟩) H1 = _
  rw [ByteArray.append_assoc]
theorem pc_line5 (hk : BOk ty) (a z : Bool) (s x0 x1 x2 x3 x4 : ByteArray) (hl : Lw H1 K) (h890 : fnd H1 890 = none) (hj0 : 0 < (joinB [x0, x1, x2, x3, x4] ⟨#[32]⟩).size) (hj1 : s.size + (joinB [x0, x1, x2, x3, x4] ⟨#[32]⟩).size + 1 ≤ 140737488355328) : PC Tryd.prog 31 [.ref 900 0, .own 890 1 5 false] ((890, ⟨9, [.s x0, .s x1, .s x2, .s x3, .s x4], false, 1⟩) :: bH ty a z s H1) K (fun v H' K' => v = .tup [] ∧ H' = bT ty false (s ++ (joinB [x0, x1, x2, x3, x4] ⟨#[32]⟩ ++ ⟨#[10]⟩)) H1 ∧ K' = K) := by
 have hjl : (Lib.join ((([x0, x1, x2, x3, x4] : List ByteArray)).map (·.data.toList)) (⟨#[32]⟩ : ByteArray).data.toList).length ≤ 140737488355328 := by
  have : (joinB [x0, x1, x2, x3, x4] ⟨#[32]⟩).size = (Lib.join ((([x0, x1, x2, x3, x4] : List ByteArray)).map (·.data.toList)) (⟨#[32]⟩ : ByteArray).data.toList).length := by simp [joinB, ByteArray.size]
  omega
 have hl2 : ∀ K, Lw H1 K → Lw ((890, ⟨9, [.s x0, .s x1, .s x2, .s x3, .s x4], false, 1⟩) :: H1) K := fun K h => ⟨fun x hx => by
  rcases List.mem_cons.1 hx with rfl | hx
  ·exact ⟨by show 890 < 900; decide, rfl⟩
  ·exact h.obj x hx, h.keep⟩
 have hlow : ∀ (b r : Row) k row, fnd H1 k = some row → fnd ((900, b) :: (901, r) :: (890, ⟨9, [.s x0, .s x1, .s x2, .s x3, .s x4], false, 1⟩) :: H1) k = some row := fun b r k row h => by
  have h1 : k ≠ 890 := by
   rintro rfl
   rw [h890] at h
   cases h
  have h2 : k < 900 := (hl.obj _ (fnd_mem h)).1
  simp only [fnd, beq_iff_eq]
  rw [if_neg (by omega), if_neg (by omega), if_neg (fun e => h1 e.symm)]
  exact h
 refine PC.intro (n := 14) ⟨Tryd.func31, rfl, rfl, rfl, rfl⟩ (by simp) fun w0 out kx => AW.weaken (AW.less bH_front ?_)
 simp only [enum]
 cases a
 ·skip
  refine AW.seq ?_
  refine AW.drawT (N := ?N9) (l := #[false, false, false, false, false, false]) 6 (by kernel_rfl) rfl rfl ?_ ?_
  rotate_left
  refine AN.rp (i := 0) (l' := #[true, false, false, false, false, false]) rfl rfl rfl (fun _ _ h => h) (by kernel_rfl) rfl (rp_move rfl rfl) ?_
  refine AN.rp (i := 3) (l' := #[true, false, false, true, false, false]) rfl rfl rfl (fun _ _ h => h) (by kernel_rfl) rfl (rp_move rfl rfl) ?_
  refine AN.br2 (i := 1) (j := 4) (by kernel_rfl) ?_ ?_
  ·refine BR.mk (l' := #[true, true, false, true, false, false]) rfl rfl rfl ?_
   (first | (refine ST.rp rfl (rp_nilCheck rfl rfl) ?_) | (refine ST.rp rfl (rp_nilCheck_ad rfl rfl) ?_))
   (first | (refine AN.rp (i := 2) (l' := #[true, true, true, true, false, false]) rfl rfl rfl (fun _ _ h => h) (by kernel_rfl) rfl (rp_field_ref Tryd.underlying61 rfl rfl rfl inf52 (by decide) rfl) ?_) | (refine AN.rp (i := 2) (l' := #[true, true, true, true, false, false]) rfl rfl rfl (fun _ _ h => h) (by kernel_rfl) rfl (rp_field_ad Tryd.underlying61 rfl rfl rfl inf52 (by decide) rfl) ?_))
   refine AN.br1 (i := 4) (by kernel_rfl) ?_
   refine BR.mk (l' := #[true, true, true, true, true, false]) rfl rfl rfl ?_
   refine ST.sm (sm_join ([x0, x1, x2, x3, x4]) (join_fits _ _ (by simp) (by assumption)) ⟨Tryd.func54, rfl, rfl, rfl, rfl⟩ rfl rfl rfl rfl rfl rfl rfl rfl rfl) ?_
   try simp only [S.put]
   refine AN.br1 (i := 5) (by kernel_rfl) ?_
   refine BR.mk (l' := #[true, true, true, true, true, true]) rfl rfl rfl ?_
   try simp only [S.put, S.newObj, setL, V.cs, List.length_cons, List.length_nil, List.take_succ_cons, List.take_zero, List.drop_succ_cons, List.drop_zero, List.drop_nil, List.nil_append, List.cons_append, List.append_nil, Nat.zero_add, Nat.reduceAdd]
   refine ST.pc [0] (ts := [_]) (args := [_, _]) (post := ?pc9) ?hc9 rfl rfl rfl rfl rfl rfl rfl rfl rfl ?_
   case hc9 => (refine pc_WriteString hk false z s (joinB [x0, x1, x2, x3, x4] ⟨#[32]⟩) (hl2 _ (hl.keepL _ ?_)) hj0 (by omega) <;> first | rfl | (simp [V.lowL, V.low]; done))
   rintro _ _ _ ⟨rfl, rfl, rfl⟩
   simp only [back, S.put, List.cons_append, List.nil_append, List.zip_cons_cons, List.zip_nil_left, List.drop_succ_cons, List.drop_zero, List.length_cons, List.length_nil, Nat.zero_add, Nat.reduceAdd]
   refine AN.nil (by kernel_rfl) ?_
   show Less _ _
   exact Less.same _
  ·refine BR.mk (l' := #[true, false, false, true, true, false]) rfl rfl rfl ?_
   refine ST.sm (sm_join ([x0, x1, x2, x3, x4]) (join_fits _ _ (by simp) (by assumption)) ⟨Tryd.func54, rfl, rfl, rfl, rfl⟩ rfl rfl rfl rfl rfl rfl rfl rfl rfl) ?_
   try simp only [S.put]
   refine AN.br1 (i := 1) (by kernel_rfl) ?_
   refine BR.mk (l' := #[true, true, false, true, true, false]) rfl rfl rfl ?_
   (first | (refine ST.rp rfl (rp_nilCheck rfl rfl) ?_) | (refine ST.rp rfl (rp_nilCheck_ad rfl rfl) ?_))
   (first | (refine AN.rp (i := 2) (l' := #[true, true, true, true, true, false]) rfl rfl rfl (fun _ _ h => h) (by kernel_rfl) rfl (rp_field_ref Tryd.underlying61 rfl rfl rfl inf52 (by decide) rfl) ?_) | (refine AN.rp (i := 2) (l' := #[true, true, true, true, true, false]) rfl rfl rfl (fun _ _ h => h) (by kernel_rfl) rfl (rp_field_ad Tryd.underlying61 rfl rfl rfl inf52 (by decide) rfl) ?_))
   refine AN.br1 (i := 5) (by kernel_rfl) ?_
   refine BR.mk (l' := #[true, true, true, true, true, true]) rfl rfl rfl ?_
   try simp only [S.put, S.newObj, setL, V.cs, List.length_cons, List.length_nil, List.take_succ_cons, List.take_zero, List.drop_succ_cons, List.drop_zero, List.drop_nil, List.nil_append, List.cons_append, List.append_nil, Nat.zero_add, Nat.reduceAdd]
   refine ST.pc [0] (ts := [_]) (args := [_, _]) (post := ?pc10) ?hc10 rfl rfl rfl rfl rfl rfl rfl rfl rfl ?_
   case hc10 => (refine pc_WriteString hk false z s (joinB [x0, x1, x2, x3, x4] ⟨#[32]⟩) (hl2 _ (hl.keepL _ ?_)) hj0 (by omega) <;> first | rfl | (simp [V.lowL, V.low]; done))
   rintro _ _ _ ⟨rfl, rfl, rfl⟩
   simp only [back, S.put, List.cons_append, List.nil_append, List.zip_cons_cons, List.zip_nil_left, List.drop_succ_cons, List.drop_zero, List.length_cons, List.length_nil, Nat.zero_add, Nat.reduceAdd]
   refine AN.nil (by kernel_rfl) ?_
   show Less _ _
   exact Less.same _
  (try simp only [S.put, S.newObj, setL, V.cs, List.length_cons, List.length_nil, List.take_succ_cons, List.take_zero, List.drop_succ_cons, List.drop_zero, List.drop_nil, List.nil_append, List.cons_append, List.append_nil, Nat.zero_add, Nat.reduceAdd, List.map_cons, List.map_nil, List.set_cons_zero, List.set_cons_succ])
  try simp only [S.dd, ddL, List.contains_cons, List.contains_nil, Nat.reduceBEq, beq_self_eq_true, Bool.or_false, Bool.or_true, Bool.false_or, Bool.true_or, Bool.or_self, if_true, if_false, Bool.false_eq_true, ↓reduceIte]
  try simp only [thenS, S.put, S.newObj, setL, V.cs, List.length_cons, List.length_nil, List.take_succ_cons, List.take_zero, List.drop_succ_cons, List.drop_zero, List.drop_nil, List.nil_append, List.cons_append, List.append_nil, Nat.zero_add, Nat.reduceAdd, List.map_cons, List.map_nil, List.set_cons_zero, List.set_cons_succ, enum]
  refine AW.region ?_
  refine AL.rp rfl rfl (rp_move rfl rfl) ?_
  (first | (refine AL.rp rfl rfl (rp_nilCheck rfl rfl) ?_) | (refine AL.rp rfl rfl (rp_nilCheck_ad rfl rfl) ?_))
  (first | (refine AL.rp rfl rfl (rp_field_ref Tryd.underlying61 rfl rfl rfl inf52 (by decide) rfl) ?_) | (refine AL.rp rfl rfl (rp_field_ad Tryd.underlying61 rfl rfl rfl inf52 (by decide) rfl) ?_))
  try simp only [S.put, S.newObj, setL, V.cs, List.length_cons, List.length_nil, List.take_succ_cons, List.take_zero, List.drop_succ_cons, List.drop_zero, List.drop_nil, List.nil_append, List.cons_append, List.append_nil, Nat.zero_add, Nat.reduceAdd]
  refine AL.pc [0] (ts := [_]) (args := [_, _]) (post := ?pc11) ?hc11 rfl rfl rfl rfl rfl rfl rfl rfl rfl ?_
  case hc11 => (refine pc_WriteByte hk true false (s ++ joinB [x0, x1, x2, x3, x4] ⟨#[32]⟩) 10 (hl2 _ (hl.keepL _ ?_)) (by rw [ByteArray.size_append]; omega) <;> first | rfl | (simp [V.lowL, V.low]; done))
  rintro _ _ _ ⟨rfl, rfl⟩
  simp only [back, S.put, List.cons_append, List.nil_append, List.zip_cons_cons, List.zip_nil_left, List.drop_succ_cons, List.drop_zero, List.length_cons, List.length_nil, Nat.zero_add, Nat.reduceAdd]
  refine AL.nil ?_
  try simp only [thenS, S.put]
  refine ⟨_, Less.hp (T := []) trivial rfl rfl (hlow _ _), [], trivial, rfl, ?_, rfl⟩
  show bT ty false ((s ++ joinB [x0, x1, x2, x3, x4] ⟨#[32]⟩) ++ ⟨#[10]⟩) H1 = _
  rw [ByteArray.append_assoc]
 ·skip
  refine AW.seq ?_
  refine AW.drawT (N := ?N13) (l := #[false, false, false, false, false, false]) 6 (by kernel_rfl) rfl rfl ?_ ?_
  rotate_left
  refine AN.rp (i := 0) (l' := #[true, false, false, false, false, false]) rfl rfl rfl (fun _ _ h => h) (by kernel_rfl) rfl (rp_move rfl rfl) ?_
  refine AN.rp (i := 3) (l' := #[true, false, false, true, false, false]) rfl rfl rfl (fun _ _ h => h) (by kernel_rfl) rfl (rp_move rfl rfl) ?_
  refine AN.br2 (i := 1) (j := 4) (by kernel_rfl) ?_ ?_
  ·refine BR.mk (l' := #[true, true, false, true, false, false]) rfl rfl rfl ?_
   (first | (refine ST.rp rfl (rp_nilCheck rfl rfl) ?_) | (refine ST.rp rfl (rp_nilCheck_ad rfl rfl) ?_))
   (first | (refine AN.rp (i := 2) (l' := #[true, true, true, true, false, false]) rfl rfl rfl (fun _ _ h => h) (by kernel_rfl) rfl (rp_field_ref Tryd.underlying61 rfl rfl rfl inf52 (by decide) rfl) ?_) | (refine AN.rp (i := 2) (l' := #[true, true, true, true, false, false]) rfl rfl rfl (fun _ _ h => h) (by kernel_rfl) rfl (rp_field_ad Tryd.underlying61 rfl rfl rfl inf52 (by decide) rfl) ?_))
   refine AN.br1 (i := 4) (by kernel_rfl) ?_
   refine BR.mk (l' := #[true, true, true, true, true, false]) rfl rfl rfl ?_
   refine ST.sm (sm_join ([x0, x1, x2, x3, x4]) (join_fits _ _ (by simp) (by assumption)) ⟨Tryd.func54, rfl, rfl, rfl, rfl⟩ rfl rfl rfl rfl rfl rfl rfl rfl rfl) ?_
   try simp only [S.put]
   refine AN.br1 (i := 5) (by kernel_rfl) ?_
   refine BR.mk (l' := #[true, true, true, true, true, true]) rfl rfl rfl ?_
   try simp only [S.put, S.newObj, setL, V.cs, List.length_cons, List.length_nil, List.take_succ_cons, List.take_zero, List.drop_succ_cons, List.drop_zero, List.drop_nil, List.nil_append, List.cons_append, List.append_nil, Nat.zero_add, Nat.reduceAdd]
   refine ST.pc [0] (ts := [_]) (args := [_, _]) (post := ?pc13) ?hc13 rfl rfl rfl rfl rfl rfl rfl rfl rfl ?_
   case hc13 => (refine pc_WriteString hk true z s (joinB [x0, x1, x2, x3, x4] ⟨#[32]⟩) (hl2 _ (hl.keepL _ ?_)) hj0 (by omega) <;> first | rfl | (simp [V.lowL, V.low]; done))
   rintro _ _ _ ⟨rfl, rfl, rfl⟩
   simp only [back, S.put, List.cons_append, List.nil_append, List.zip_cons_cons, List.zip_nil_left, List.drop_succ_cons, List.drop_zero, List.length_cons, List.length_nil, Nat.zero_add, Nat.reduceAdd]
   refine AN.nil (by kernel_rfl) ?_
   show Less _ _
   exact Less.same _
  ·refine BR.mk (l' := #[true, false, false, true, true, false]) rfl rfl rfl ?_
   refine ST.sm (sm_join ([x0, x1, x2, x3, x4]) (join_fits _ _ (by simp) (by assumption)) ⟨Tryd.func54, rfl, rfl, rfl, rfl⟩ rfl rfl rfl rfl rfl rfl rfl rfl rfl) ?_
   try simp only [S.put]
   refine AN.br1 (i := 1) (by kernel_rfl) ?_
   refine BR.mk (l' := #[true, true, false, true, true, false]) rfl rfl rfl ?_
   (first | (refine ST.rp rfl (rp_nilCheck rfl rfl) ?_) | (refine ST.rp rfl (rp_nilCheck_ad rfl rfl) ?_))
   (first | (refine AN.rp (i := 2) (l' := #[true, true, true, true, true, false]) rfl rfl rfl (fun _ _ h => h) (by kernel_rfl) rfl (rp_field_ref Tryd.underlying61 rfl rfl rfl inf52 (by decide) rfl) ?_) | (refine AN.rp (i := 2) (l' := #[true, true, true, true, true, false]) rfl rfl rfl (fun _ _ h => h) (by kernel_rfl) rfl (rp_field_ad Tryd.underlying61 rfl rfl rfl inf52 (by decide) rfl) ?_))
   refine AN.br1 (i := 5) (by kernel_rfl) ?_
   refine BR.mk (l' := #[true, true, true, true, true, true]) rfl rfl rfl ?_
   try simp only [S.put, S.newObj, setL, V.cs, List.length_cons, List.length_nil, List.take_succ_cons, List.take_zero, List.drop_succ_cons, List.drop_zero, List.drop_nil, List.nil_append, List.cons_append, List.append_nil, Nat.zero_add, Nat.reduceAdd]
   refine ST.pc [0] (ts := [_]) (args := [_, _]) (post := ?pc14) ?hc14 rfl rfl rfl rfl rfl rfl rfl rfl rfl ?_
   case hc14 => (refine pc_WriteString hk true z s (joinB [x0, x1, x2, x3, x4] ⟨#[32]⟩) (hl2 _ (hl.keepL _ ?_)) hj0 (by omega) <;> first | rfl | (simp [V.lowL, V.low]; done))
   rintro _ _ _ ⟨rfl, rfl, rfl⟩
   simp only [back, S.put, List.cons_append, List.nil_append, List.zip_cons_cons, List.zip_nil_left, List.drop_succ_cons, List.drop_zero, List.length_cons, List.length_nil, Nat.zero_add, Nat.reduceAdd]
   refine AN.nil (by kernel_rfl) ?_
   show Less _ _
   exact Less.same _
  (try simp only [S.put, S.newObj, setL, V.cs, List.length_cons, List.length_nil, List.take_succ_cons, List.take_zero, List.drop_succ_cons, List.drop_zero, List.drop_nil, List.nil_append, List.cons_append, List.append_nil, Nat.zero_add, Nat.reduceAdd, List.map_cons, List.map_nil, List.set_cons_zero, List.set_cons_succ])
  try simp only [S.dd, ddL, List.contains_cons, List.contains_nil, Nat.reduceBEq, beq_self_eq_true, Bool.or_false, Bool.or_true, Bool.false_or, Bool.true_or, Bool.or_self, if_true, if_false, Bool.false_eq_true, ↓reduceIte]
  try simp only [thenS, S.put, S.newObj, setL, V.cs, List.length_cons, List.length_nil, List.take_succ_cons, List.take_zero, List.drop_succ_cons, List.drop_zero, List.drop_nil, List.nil_append, List.cons_append, List.append_nil, Nat.zero_add, Nat.reduceAdd, List.map_cons, List.map_nil, List.set_cons_zero, List.set_cons_succ, enum]
  refine AW.region ?_
  refine AL.rp rfl rfl (rp_move rfl rfl) ?_
  (first | (refine AL.rp rfl rfl (rp_nilCheck rfl rfl) ?_) | (refine AL.rp rfl rfl (rp_nilCheck_ad rfl rfl) ?_))
  (first | (refine AL.rp rfl rfl (rp_field_ref Tryd.underlying61 rfl rfl rfl inf52 (by decide) rfl) ?_) | (refine AL.rp rfl rfl (rp_field_ad Tryd.underlying61 rfl rfl rfl inf52 (by decide) rfl) ?_))
  try simp only [S.put, S.newObj, setL, V.cs, List.length_cons, List.length_nil, List.take_succ_cons, List.take_zero, List.drop_succ_cons, List.drop_zero, List.drop_nil, List.nil_append, List.cons_append, List.append_nil, Nat.zero_add, Nat.reduceAdd]
  refine AL.pc [0] (ts := [_]) (args := [_, _]) (post := ?pc15) ?hc15 rfl rfl rfl rfl rfl rfl rfl rfl rfl ?_
  case hc15 => (refine pc_WriteByte hk true false (s ++ joinB [x0, x1, x2, x3, x4] ⟨#[32]⟩) 10 (hl2 _ (hl.keepL _ ?_)) (by rw [ByteArray.size_append]; omega) <;> first | rfl | (simp [V.lowL, V.low]; done))
  rintro _ _ _ ⟨rfl, rfl⟩
  simp only [back, S.put, List.cons_append, List.nil_append, List.zip_cons_cons, List.zip_nil_left, List.drop_succ_cons, List.drop_zero, List.length_cons, List.length_nil, Nat.zero_add, Nat.reduceAdd]
  refine AL.nil ?_
  try simp only [thenS, S.put]
  refine ⟨_, Less.hp (T := []) trivial rfl rfl (hlow _ _), [], trivial, rfl, ?_, rfl⟩
  show bT ty false ((s ++ joinB [x0, x1, x2, x3, x4] ⟨#[32]⟩) ++ ⟨#[10]⟩) H1 = _
  rw [ByteArray.append_assoc]
end
end Go.Proofs.YthflidjnlnmbiaaDoor

namespace Go.Proofs.YthflidjnlnmbiaaDoor
open Go.RowKit
set_option linter.unusedSimpArgs false
set_option linter.unusedVariables false
set_option maxRecDepth 100000

theorem bokS : BOk 61 := ⟨Nat.le_of_ble_eq_true (by kernel_rfl), Nat.le_of_ble_eq_true (by kernel_rfl), by kernel_rfl⟩
theorem lwE {K : List V} (hk : V.lowL 901 K = true) : Lw [] K := ⟨fun y hy => (by cases hy), hk⟩
theorem lwO {r : Nat} {row : Row} {K : List V} (hr : decide (r < 900) = true) (hrow : V.lowL 901 row.cells = true) (hk : V.lowL 901 K = true) : Lw [(r, row)] K := ⟨fun y hy => by
 rw [List.mem_singleton] at hy
 subst hy
 exact ⟨of_decide_eq_true hr, hrow⟩, hk⟩
set_option maxHeartbeats 4000000 in
theorem am_PapShow (m : Mach) : FnP preT Tryd.prog 16 [mV m] (fun v => v = .tup [.s (papM m), .i (machE m)]) := by
 by_cases h0 : machE m = 0
 ·obtain ⟨h60, h400, hst, hz⟩ := machE_zero h0
  have hM : papM m = m.states.foldl papS (papH m.start) := by unfold papM; rw [if_pos h0]
  rw [hM]
  obtain ⟨st, sts⟩ := m
  simp only at h60 h400 hst hz
  obtain ⟨n, hn⟩ : ∃ n, sts.length = n := ⟨_, rfl⟩
  rw [hn] at h60 hst hz
  have hal4 : ∀ x ∈ sts, x.arcs.length ≤ 400 := fun x hx => Nat.le_trans (arcN_mem sts x hx) h400
  have hHs := papH_size (st := st) (by omega)
  rw [h0]
  refine FnP.intro (n := 68) ⟨Tryd.func16, rfl, rfl, rfl, rfl⟩ (by simp [V.pure, V.has, V.hasL]) (by simp) fun w0 out hpre => ?_
  refine AW.seq ?_
  refine AW.region ?_
  refine AL.sm rfl (sm_box 1 rfl rfl rfl (by first | rfl | simp [S.clean, S.put, S.newObj, S.forget, V.has, V.hasL, junkIf, setL, V.cs, hasL_i, strV_has, hasL_d, hasL_b, hasL_s, hasL_n, hasL_rep, hasL_flat, hasL_append, -List.map_set]) rfl) ?_
  refine AL.rp rfl rfl (rp_assign rfl rfl) ?_
  refine AL.rp rfl rfl (rp_assign rfl rfl) ?_
  refine AL.nil ?_
  try simp only [thenS, S.put, S.newObj, setL, V.cs, List.length_cons, List.length_nil, List.take_succ_cons, List.take_zero, List.drop_succ_cons, List.drop_zero, List.drop_nil, List.nil_append, List.cons_append, List.append_nil, Nat.zero_add, Nat.reduceAdd, List.map_cons, List.map_nil, List.set_cons_zero, List.set_cons_succ, enum]
  refine AW.seq ?_
  refine AW.seq ?_
  refine AW.region ?_
  (first | (refine AL.rd rfl rfl (rd_loads_ref Tryd.underlying36 rfl inf36 rfl rfl rfl rfl rfl rfl) ?_) | (refine AL.rd rfl rfl (rd_loads_ad Tryd.underlying36 rfl inf36 rfl rfl rfl rfl) ?_))
  refine AL.call (post := ?pc0) rfl (sm_call (args := [_]) ?hc0 ⟨Tryd.func30, rfl, rfl, rfl, rfl⟩ rfl rfl rfl rfl) ?_
  case hc0 => exact Fn.eqi (am_Check ⟨st, sts⟩) h0
  rintro _ rfl -
  try dsimp only
  refine AL.rp rfl rfl (rp_assign rfl rfl) ?_
  refine AL.nil ?_
  try simp only [thenS, S.put, S.newObj, setL, V.cs, List.length_cons, List.length_nil, List.take_succ_cons, List.take_zero, List.drop_succ_cons, List.drop_zero, List.drop_nil, List.nil_append, List.cons_append, List.append_nil, Nat.zero_add, Nat.reduceAdd, List.map_cons, List.map_nil, List.set_cons_zero, List.set_cons_succ]
  refine AW.seq ?_
  refine AW.region ?_
  refine AL.rp rfl rfl (rp_move rfl rfl) ?_
  (first | (refine AL.rp rfl rfl (rp_neqT rfl rfl rfl (by first | assumption | omega | (dsimp only; omega))) ?_) | (refine AL.rp rfl rfl (rp_neqF rfl rfl rfl (by first | assumption | omega | (dsimp only; omega))) ?_) | (refine AL.rp rfl rfl (rp_neq rfl rfl rfl) ?_))
  refine AL.nil ?_
  try simp only [thenS, S.put]
  refine AW.condF rfl ?_
  refine AW.skip ?_
  try simp only [thenS]
  refine AW.seq ?_
  refine AW.region ?_
  refine AL.sm rfl (sm_alloc (l := [.d (.p (.pointer none)), .d (.p (.slice none 0 0))]) 900 inf61 rfl (by first | rfl | simp [S.clean, S.put, S.newObj, S.forget, V.has, V.hasL, junkIf, setL, V.cs, hasL_i, strV_has, hasL_d, hasL_b, hasL_s, hasL_n, hasL_rep, hasL_flat, hasL_append, -List.map_set]) rfl rfl) ?_
  refine AL.nil ?_
  try simp only [thenS, S.put, S.newObj, setL, V.cs, List.length_cons, List.length_nil, List.take_succ_cons, List.take_zero, List.drop_succ_cons, List.drop_zero, List.drop_nil, List.nil_append, List.cons_append, List.append_nil, Nat.zero_add, Nat.reduceAdd, List.map_cons, List.map_nil, List.set_cons_zero, List.set_cons_succ]
  refine AW.seq ?_
  refine AW.adoptH 900 1 901 1 5 rfl rfl rfl (by simp [S.clean, V.has, V.hasL, V.cs, setL]) ?_
  refine AW.region ?_
  refine AL.rp rfl rfl (rp_assign rfl rfl) ?_
  refine AL.nil ?_
  try simp only [thenS, S.put]
  obtain ⟨sS, hsS⟩ : ∃ sS : ByteArray, (if 0 ≤ st then decS st.toNat else ⟨#[45]⟩) = sS := ⟨_, rfl⟩
  refine AW.seqc (fun s' => s' = ⟨68, [(1, .ref 1 0), (5, .ref 900 0), (6, .s sS)], bH 61 false true ⟨#[]⟩ [(1, ⟨36, [.i st, .d (stsD sts)], false, 0⟩)], []⟩) ?_ ?_
  ·skip
   by_cases hs0 : 0 ≤ st
   ·obtain ⟨p, rfl⟩ : ∃ p : Nat, st = p := ⟨st.toNat, by omega⟩
    have hit := am_Itoa p (by omega)
    have hse : decS p = sS := by rw [← hsS, if_pos hs0]; simp only [Int.toNat_natCast]
    refine AW.seq ?_
    refine AW.region ?_
    (first | (refine AL.rp rfl rfl (rp_field_ref Tryd.underlying36 rfl rfl rfl inf3 (by decide) rfl) ?_) | (refine AL.rp rfl rfl (rp_field_ad Tryd.underlying36 rfl rfl rfl inf3 (by decide) rfl) ?_))
    (first | (refine AL.rd rfl rfl (rd_load_ref Tryd.underlying3 rfl rfl rfl rfl rfl rfl) ?_) | (refine AL.rd rfl rfl (rd_load_ad Tryd.underlying3 rfl rfl rfl rfl) ?_) | (refine AL.rd rfl rfl (rd_load_map Tryd.underlying3 rfl rfl rfl rfl rfl rfl (by assumption)) ?_) | (refine AL.rd rfl rfl (rd_load_flat Tryd.underlying3 rfl rfl rfl rfl rfl rfl (fun _ => rfl) (by assumption) rfl) ?_))
    (first | (refine AL.rp rfl rfl (rp_geqT rfl rfl rfl (by first | assumption | omega | (dsimp only; omega))) ?_) | (refine AL.rp rfl rfl (rp_geqF rfl rfl rfl (by first | assumption | omega | (dsimp only; omega))) ?_) | (refine AL.rp rfl rfl (rp_geq rfl rfl rfl) ?_))
    refine AL.nil ?_
    try simp only [thenS, S.put]
    refine AW.condT rfl ?_
    refine AW.region ?_
    (first | (refine AL.rp rfl rfl (rp_field_ref Tryd.underlying36 rfl rfl rfl inf3 (by decide) rfl) ?_) | (refine AL.rp rfl rfl (rp_field_ad Tryd.underlying36 rfl rfl rfl inf3 (by decide) rfl) ?_))
    (first | (refine AL.rd rfl rfl (rd_load_ref Tryd.underlying3 rfl rfl rfl rfl rfl rfl) ?_) | (refine AL.rd rfl rfl (rd_load_ad Tryd.underlying3 rfl rfl rfl rfl) ?_) | (refine AL.rd rfl rfl (rd_load_map Tryd.underlying3 rfl rfl rfl rfl rfl rfl (by assumption)) ?_) | (refine AL.rd rfl rfl (rd_load_flat Tryd.underlying3 rfl rfl rfl rfl rfl rfl (fun _ => rfl) (by assumption) rfl) ?_))
    refine AL.call (post := ?pc1) rfl (sm_callP (args := [_]) (tab_kept _ _ _ _) (by assumption) ?hc1 ⟨Tryd.func20, rfl, rfl, rfl, rfl⟩ rfl rfl rfl rfl) ?_
    case hc1 => exact hit
    rintro _ rfl -
    try dsimp only
    refine AL.rp rfl rfl (rp_assign rfl rfl) ?_
    refine AL.nil ?_
    try simp only [thenS, S.put, S.newObj, setL, V.cs, List.length_cons, List.length_nil, List.take_succ_cons, List.take_zero, List.drop_succ_cons, List.drop_zero, List.drop_nil, List.nil_append, List.cons_append, List.append_nil, Nat.zero_add, Nat.reduceAdd, List.map_cons, List.map_nil, List.set_cons_zero, List.set_cons_succ]
    refine ⟨_, ?_, rfl⟩
    rw [hse]; exact (Less.of rfl (by repeat (first | exact trivial | refine ⟨⟨_, rfl, Wk.refl _⟩, ?_⟩ | refine ⟨⟨_, rfl, Wk.nil _ _⟩, ?_⟩ | refine ⟨⟨_, rfl, Wk.junk _⟩, ?_⟩)) (by repeat (first | exact trivial | refine ⟨rfl, ?_⟩)) rfl)
   ·have hse : (⟨#[45]⟩ : ByteArray) = sS := by rw [← hsS, if_neg hs0]
    refine AW.seq ?_
    refine AW.region ?_
    (first | (refine AL.rp rfl rfl (rp_field_ref Tryd.underlying36 rfl rfl rfl inf3 (by decide) rfl) ?_) | (refine AL.rp rfl rfl (rp_field_ad Tryd.underlying36 rfl rfl rfl inf3 (by decide) rfl) ?_))
    (first | (refine AL.rd rfl rfl (rd_load_ref Tryd.underlying3 rfl rfl rfl rfl rfl rfl) ?_) | (refine AL.rd rfl rfl (rd_load_ad Tryd.underlying3 rfl rfl rfl rfl) ?_) | (refine AL.rd rfl rfl (rd_load_map Tryd.underlying3 rfl rfl rfl rfl rfl rfl (by assumption)) ?_) | (refine AL.rd rfl rfl (rd_load_flat Tryd.underlying3 rfl rfl rfl rfl rfl rfl (fun _ => rfl) (by assumption) rfl) ?_))
    (first | (refine AL.rp rfl rfl (rp_geqT rfl rfl rfl (by first | assumption | omega | (dsimp only; omega))) ?_) | (refine AL.rp rfl rfl (rp_geqF rfl rfl rfl (by first | assumption | omega | (dsimp only; omega))) ?_) | (refine AL.rp rfl rfl (rp_geq rfl rfl rfl) ?_))
    refine AL.nil ?_
    try simp only [thenS, S.put]
    refine AW.condF rfl ?_
    refine AW.skip ?_
    try simp only [thenS]
    refine ⟨_, ?_, rfl⟩
    rw [hse]; exact (Less.of rfl (by repeat (first | exact trivial | refine ⟨⟨_, rfl, Wk.refl _⟩, ?_⟩ | refine ⟨⟨_, rfl, Wk.nil _ _⟩, ?_⟩ | refine ⟨⟨_, rfl, Wk.junk _⟩, ?_⟩)) (by repeat (first | exact trivial | refine ⟨rfl, ?_⟩)) rfl)
  ·rintro s' rfl
   have hW0 := papH_line st
   rw [hsS] at hW0
   have hjs : (joinB [⟨#[115, 116, 97, 114, 116]⟩, sS] ⟨#[32]⟩).size + 1 = (papH st).size := by rw [← hW0, ByteArray.size_append]; rfl
   have hj0 : 0 < (joinB [⟨#[115, 116, 97, 114, 116]⟩, sS] ⟨#[32]⟩).size := by
    rw [join2]
    simp only [ByteArray.size_append]
    have : (⟨#[32]⟩ : ByteArray).size = 1 := rfl
    omega
   have he0 : (⟨#[]⟩ : ByteArray).size = 0 := rfl
   have hWe : (⟨#[]⟩ : ByteArray) ++ (joinB [⟨#[115, 116, 97, 114, 116]⟩, sS] ⟨#[32]⟩ ++ ⟨#[10]⟩) = papH st := by
    rw [hW0]
    exact ByteArray.empty_append
   obtain ⟨H, hHd⟩ : ∃ H, papH st = H := ⟨_, rfl⟩
   rw [hHd] at hWe hHs hjs ⊢
   simp only [bH]
   refine AW.seq ?_
   refine AW.region ?_
   refine AL.rp rfl rfl (rp_move rfl rfl) ?_
   refine AL.sm rfl (sm_slice (vs := [(0, _), (1, _)]) (zs := [.d (.p (.string ⟨#[]⟩)), .d (.p (.string ⟨#[]⟩))]) 890 Tryd.underlying98 inf9 rfl rfl (by decide) (by decide) (by decide) rfl rfl rfl rfl (by first | rfl | simp [S.clean, S.put, S.newObj, S.forget, V.has, V.hasL, junkIf, setL, V.cs, hasL_i, strV_has, hasL_d, hasL_b, hasL_s, hasL_n, hasL_rep, hasL_flat, hasL_append, -List.map_set]) (by first | rfl | simp [S.clean, S.put, S.newObj, S.forget, V.has, V.hasL, junkIf, setL, V.cs, hasL_i, strV_has, hasL_d, hasL_b, hasL_s, hasL_n, hasL_rep, hasL_flat, hasL_append, -List.map_set]) rfl) ?_
   try simp only [S.put, S.newObj, setL, V.cs, List.length_cons, List.length_nil, List.take_succ_cons, List.take_zero, List.drop_succ_cons, List.drop_zero, List.drop_nil, List.nil_append, List.cons_append, List.append_nil, Nat.zero_add, Nat.reduceAdd]
   refine AL.pc [1, 5] (ts := [_, _]) (args := [_, _]) (post := ?pc2) ?hc2 rfl rfl rfl rfl rfl rfl rfl rfl rfl ?_
   case hc2 => (refine pc_line2 bokS false true ⟨#[]⟩ ⟨#[115, 116, 97, 114, 116]⟩ sS (lwO ?_ ?_ ?_) ?_ hj0 (by omega) <;> first | rfl | (simp [V.lowL, V.low]; done))
   rintro _ _ _ ⟨rfl, rfl, rfl⟩
   simp only [back, S.put, List.cons_append, List.nil_append, List.zip_cons_cons, List.zip_nil_left, List.drop_succ_cons, List.drop_zero, List.length_cons, List.length_nil, Nat.zero_add, Nat.reduceAdd]
   refine AL.nil ?_
   try simp only [thenS, S.put, S.newObj, setL, V.cs, List.length_cons, List.length_nil, List.take_succ_cons, List.take_zero, List.drop_succ_cons, List.drop_zero, List.drop_nil, List.nil_append, List.cons_append, List.append_nil, Nat.zero_add, Nat.reduceAdd, List.map_cons, List.map_nil, List.set_cons_zero, List.set_cons_succ]
   refine AW.seq ?_
   refine AW.seq ?_
   rw [hWe]
   have hH0 : 0 < H.size := by omega
   refine AW.region ?_
   (first | (refine AL.rp rfl rfl (rp_field_ref Tryd.underlying36 rfl rfl rfl inf34 (by decide) rfl) ?_) | (refine AL.rp rfl rfl (rp_field_ad Tryd.underlying36 rfl rfl rfl inf34 (by decide) rfl) ?_))
   (first | (refine AL.rd rfl rfl (rd_load_ref Tryd.underlying34 rfl rfl rfl rfl rfl rfl) ?_) | (refine AL.rd rfl rfl (rd_load_ad Tryd.underlying34 rfl rfl rfl rfl) ?_) | (refine AL.rd rfl rfl (rd_load_map Tryd.underlying34 rfl rfl rfl rfl rfl rfl (by assumption)) ?_) | (refine AL.rd rfl rfl (rd_load_flat Tryd.underlying34 rfl rfl rfl rfl rfl rfl (fun _ => rfl) (by assumption) rfl) ?_))
   (first | (refine AL.rp rfl rfl (rp_len_map Tryd.underlying34 rfl rfl (by assumption)) ?_) | (refine AL.rp rfl rfl (rp_len_own Tryd.underlying34 rfl rfl) ?_) | (refine AL.rp rfl rfl (rp_len_sl Tryd.underlying34 rfl rfl) ?_) | (refine AL.rp rfl rfl (rp_len_nil Tryd.underlying34 rfl rfl) ?_) | (refine AL.rp rfl rfl (rp_len_str Tryd.underlying34 rfl rfl) ?_))
   refine AL.rp rfl rfl (rp_move rfl rfl) ?_
   refine AL.nil ?_
   try simp only [thenS, S.put]
   refine AW.block ?_
   refine AW.loop (fun s' => ∃ (k : Nat) (W : ByteArray), k ≤ n ∧ W = (sts.take k).foldl papS H ∧ 0 < W.size ∧ W.size ≤ (k + 1) * 1000000000000 ∧ s' = ⟨68, [(5, .ref 900 0), (28, .d (stsD sts)), (29, .i n), (30, .i k)], bT 61 false W [], []⟩) (fun s' => n - s'.nat 30) ⟨_, ?_, 0, H, by omega, rfl, hH0, by omega, rfl⟩ ?_
   ·exact (Less.of rfl (by repeat (first | exact trivial | refine ⟨⟨_, rfl, Wk.refl _⟩, ?_⟩ | refine ⟨⟨_, rfl, Wk.nil _ _⟩, ?_⟩ | refine ⟨⟨_, rfl, Wk.junk _⟩, ?_⟩)) (by repeat (first | exact trivial | refine ⟨rfl, ?_⟩)) rfl)
   rintro s' ⟨k, W, hk, hW, hW0', hWs, rfl⟩
   clear hjs hj0 hWe hW0
   by_cases hlt : k < n
   ·obtain ⟨x, hx⟩ := get_lt hn hlt
    have hxm := List.mem_of_getElem? hx
    have hshs := shS_size x.fin
    have hcon := am_ShowP x.fin
    obtain ⟨la, hla⟩ : ∃ n, x.arcs.length = n := ⟨_, rfl⟩
    have hla4 := hal4 x hxm
    rw [hla] at hla4
    have hsn := congrArg (fun l => l.foldl papS H) (take_snoc hx)
    simp only [List.foldl_append, List.foldl_cons, List.foldl_nil, ← hW] at hsn
    obtain ⟨w, hw⟩ : ∃ w, shS x.fin = w := ⟨_, rfl⟩
    rw [hw] at hcon hshs
    have hWn := papS_line W w
    have hjs : (joinB [⟨#[115, 116, 97, 116, 101]⟩, w] ⟨#[32]⟩).size = 6 + w.size := by
     rw [join2]
     simp only [ByteArray.size_append]
     have h1 : (⟨#[32]⟩ : ByteArray).size = 1 := rfl
     have h2 : (⟨#[115, 116, 97, 116, 101]⟩ : ByteArray).size = 5 := rfl
     omega
    have hj0 : 0 < (joinB [⟨#[115, 116, 97, 116, 101]⟩, w] ⟨#[32]⟩).size := by omega
    have hj1 : W.size + (joinB [⟨#[115, 116, 97, 116, 101]⟩, w] ⟨#[32]⟩).size + 1 ≤ 140737488355328 := by omega
    obtain ⟨V0, hV0⟩ : ∃ V0, W ++ ⟨#[115, 116, 97, 116, 101, 32]⟩ ++ w ++ sLF = V0 := ⟨_, rfl⟩
    have hV0s : V0.size = W.size + 7 + w.size := by
     rw [← hV0]
     simp only [ByteArray.size_append]
     have h1 : (⟨#[115, 116, 97, 116, 101, 32]⟩ : ByteArray).size = 6 := rfl
     have h2 : sLF.size = 1 := rfl
     omega
    rw [hV0] at hWn
    refine AW.seq ?_
    refine AW.region ?_
    (first | (refine AL.rp rfl rfl (rp_lssT rfl rfl rfl (by first | assumption | omega | (dsimp only; omega))) ?_) | (refine AL.rp rfl rfl (rp_lssF rfl rfl rfl (by first | assumption | omega | (dsimp only; omega))) ?_) | (refine AL.rp rfl rfl (rp_lss rfl rfl rfl) ?_))
    refine AL.nil ?_
    try simp only [thenS, S.put]
    refine AW.seq ?_
    refine AW.condT rfl ?_
    refine AW.skip ?_
    try simp only [thenS]
    refine AW.seq ?_
    refine AW.block ?_
    refine AW.seq ?_
    refine AW.region ?_
    (first | (refine AL.rp rfl rfl (rp_index_map Tryd.underlying34 inf58 rfl rfl rfl rfl (by assumption)) ?_) | (refine AL.rp rfl rfl (rp_index_own Tryd.underlying34 inf58 rfl rfl rfl rfl (by first | assumption | omega)) ?_) | (refine AL.rp rfl rfl (rd_index_sl Tryd.underlying34 inf58 rfl rfl rfl rfl (by assumption)) ?_) | (refine AL.rp rfl rfl (rp_index_own Tryd.underlying34 inf58 rfl rfl rfl (by omega) (by omega)) ?_))
    (first | (refine AL.rd rfl rfl (rd_loads_ref Tryd.underlying58 rfl inf58 rfl rfl rfl rfl rfl rfl) ?_) | (refine AL.rd rfl rfl (rd_loads_ad Tryd.underlying58 rfl inf58 rfl rfl rfl rfl) ?_))
    refine AL.sm rfl (sm_alloc (l := [.d (.p (.int .i64 0)), .d (.p (.slice none 0 0))]) 8 inf58 rfl (by first | rfl | simp [S.clean, S.put, S.newObj, S.forget, V.has, V.hasL, junkIf, setL, V.cs, hasL_i, strV_has, hasL_d, hasL_b, hasL_s, hasL_n, hasL_rep, hasL_flat, hasL_append, -List.map_set]) rfl rfl) ?_
    refine AL.st rfl (st_store_any inf58 rfl rfl rfl rfl rfl rfl rfl rfl (by first | decide | (simp; done) | (simp; omega)) rfl) ?_
    refine AL.nil ?_
    try simp only [thenS, S.put, S.newObj, setL, V.cs, List.length_cons, List.length_nil, List.take_succ_cons, List.take_zero, List.drop_succ_cons, List.drop_zero, List.drop_nil, List.nil_append, List.cons_append, List.append_nil, Nat.zero_add, Nat.reduceAdd, List.map_cons, List.map_nil, List.set_cons_zero, List.set_cons_succ]
    refine AW.seq ?_
    refine AW.region ?_
    (first | (refine AL.rp rfl rfl (rp_field_ref Tryd.underlying58 rfl rfl rfl inf3 (by decide) rfl) ?_) | (refine AL.rp rfl rfl (rp_field_ad Tryd.underlying58 rfl rfl rfl inf3 (by decide) rfl) ?_))
    (first | (refine AL.rd rfl rfl (rd_load_ref Tryd.underlying3 rfl rfl rfl rfl rfl rfl) ?_) | (refine AL.rd rfl rfl (rd_load_ad Tryd.underlying3 rfl rfl rfl rfl) ?_) | (refine AL.rd rfl rfl (rd_load_map Tryd.underlying3 rfl rfl rfl rfl rfl rfl (by assumption)) ?_) | (refine AL.rd rfl rfl (rd_load_flat Tryd.underlying3 rfl rfl rfl rfl rfl rfl (fun _ => rfl) (by assumption) rfl) ?_))
    refine AL.call (post := ?pc3) rfl (sm_callP (args := [_]) (tab_kept _ _ _ _) (by assumption) ?hc3 ⟨Tryd.func7, rfl, rfl, rfl, rfl⟩ rfl rfl rfl rfl) ?_
    case hc3 => exact hcon
    rintro _ rfl -
    try dsimp only
    refine AL.rp rfl rfl (rp_move rfl rfl) ?_
    refine AL.rp rfl rfl (rp_extract rfl rfl rfl) ?_
    refine AL.rp rfl rfl (rp_extract rfl rfl rfl) ?_
    refine AL.rp rfl rfl (rp_assign rfl rfl) ?_
    refine AL.rp rfl rfl (rp_assign rfl rfl) ?_
    refine AL.nil ?_
    try simp only [thenS, S.put, S.newObj, setL, V.cs, List.length_cons, List.length_nil, List.take_succ_cons, List.take_zero, List.drop_succ_cons, List.drop_zero, List.drop_nil, List.nil_append, List.cons_append, List.append_nil, Nat.zero_add, Nat.reduceAdd, List.map_cons, List.map_nil, List.set_cons_zero, List.set_cons_succ]
    refine AW.seq ?_
    refine AW.less (s' := ⟨68, [(5, .ref 900 0), (28, .d (stsD sts)), (29, .i n), (30, .i k), (8, .ref 8 0), (9, .s w)], bH 61 true false W [(8, ⟨58, [.i x.fin, .d (arsD x.arcs)], false, 0⟩)], []⟩) (Less.of rfl (by repeat (first | exact trivial | refine ⟨⟨_, rfl, Wk.refl _⟩, ?_⟩ | refine ⟨⟨_, rfl, Wk.nil _ _⟩, ?_⟩ | refine ⟨⟨_, rfl, Wk.junk _⟩, ?_⟩)) (by repeat (first | exact trivial | refine ⟨rfl, ?_⟩)) rfl) ?_
    simp only [bH]
    refine AW.region ?_
    refine AL.rp rfl rfl (rp_move rfl rfl) ?_
    refine AL.sm rfl (sm_slice (vs := [(0, _), (1, _)]) (zs := [.d (.p (.string ⟨#[]⟩)), .d (.p (.string ⟨#[]⟩))]) 890 Tryd.underlying98 inf9 rfl rfl (by decide) (by decide) (by decide) rfl rfl rfl rfl (by first | rfl | simp [S.clean, S.put, S.newObj, S.forget, V.has, V.hasL, junkIf, setL, V.cs, hasL_i, strV_has, hasL_d, hasL_b, hasL_s, hasL_n, hasL_rep, hasL_flat, hasL_append, -List.map_set]) (by first | rfl | simp [S.clean, S.put, S.newObj, S.forget, V.has, V.hasL, junkIf, setL, V.cs, hasL_i, strV_has, hasL_d, hasL_b, hasL_s, hasL_n, hasL_rep, hasL_flat, hasL_append, -List.map_set]) rfl) ?_
    try simp only [S.put, S.newObj, setL, V.cs, List.length_cons, List.length_nil, List.take_succ_cons, List.take_zero, List.drop_succ_cons, List.drop_zero, List.drop_nil, List.nil_append, List.cons_append, List.append_nil, Nat.zero_add, Nat.reduceAdd]
    refine AL.pc [5, 8, 28, 29, 30] (ts := [_, _, _, _, _]) (args := [_, _]) (post := ?pc4) ?hc4 rfl rfl rfl rfl rfl rfl rfl rfl rfl ?_
    case hc4 => (refine pc_line2 bokS true false W ⟨#[115, 116, 97, 116, 101]⟩ w (lwO ?_ ?_ ?_) ?_ hj0 hj1 <;> first | rfl | (simp [V.lowL, V.low]; done))
    rintro _ _ _ ⟨rfl, rfl, rfl⟩
    simp only [back, S.put, List.cons_append, List.nil_append, List.zip_cons_cons, List.zip_nil_left, List.drop_succ_cons, List.drop_zero, List.length_cons, List.length_nil, Nat.zero_add, Nat.reduceAdd]
    refine AL.nil ?_
    try simp only [thenS, S.put, S.newObj, setL, V.cs, List.length_cons, List.length_nil, List.take_succ_cons, List.take_zero, List.drop_succ_cons, List.drop_zero, List.drop_nil, List.nil_append, List.cons_append, List.append_nil, Nat.zero_add, Nat.reduceAdd, List.map_cons, List.map_nil, List.set_cons_zero, List.set_cons_succ]
    refine AW.seq ?_
    rw [hWn]
    clear hjs hj0 hj1 hWn
    refine AW.region ?_
    (first | (refine AL.rp rfl rfl (rp_field_ref Tryd.underlying58 rfl rfl rfl inf56 (by decide) rfl) ?_) | (refine AL.rp rfl rfl (rp_field_ad Tryd.underlying58 rfl rfl rfl inf56 (by decide) rfl) ?_))
    (first | (refine AL.rd rfl rfl (rd_load_ref Tryd.underlying56 rfl rfl rfl rfl rfl rfl) ?_) | (refine AL.rd rfl rfl (rd_load_ad Tryd.underlying56 rfl rfl rfl rfl) ?_) | (refine AL.rd rfl rfl (rd_load_map Tryd.underlying56 rfl rfl rfl rfl rfl rfl (by assumption)) ?_) | (refine AL.rd rfl rfl (rd_load_flat Tryd.underlying56 rfl rfl rfl rfl rfl rfl (fun _ => rfl) (by assumption) rfl) ?_))
    (first | (refine AL.rp rfl rfl (rp_len_map Tryd.underlying56 rfl rfl (by assumption)) ?_) | (refine AL.rp rfl rfl (rp_len_own Tryd.underlying56 rfl rfl) ?_) | (refine AL.rp rfl rfl (rp_len_sl Tryd.underlying56 rfl rfl) ?_) | (refine AL.rp rfl rfl (rp_len_nil Tryd.underlying56 rfl rfl) ?_) | (refine AL.rp rfl rfl (rp_len_str Tryd.underlying56 rfl rfl) ?_))
    refine AL.rp rfl rfl (rp_move rfl rfl) ?_
    refine AL.nil ?_
    try simp only [thenS, S.put]
    refine AW.block ?_
    refine AW.loop (fun s' => ∃ (i : Nat) (Y : ByteArray), i ≤ la ∧ Y = (x.arcs.take i).foldl papA V0 ∧ 0 < Y.size ∧ Y.size ≤ W.size + 1000000100 + i * 2000000000 ∧ s' = ⟨68, [(5, .ref 900 0), (28, .d (stsD sts)), (29, .i n), (30, .i k), (44, .d (arsD x.arcs)), (45, .i la), (46, .i i)], bT 61 false Y [], []⟩) (fun s' => la - s'.nat 46) ⟨_, ?_, 0, V0, by omega, rfl, by omega, by omega, rfl⟩ ?_
    ·exact (Less.of rfl (by repeat (first | exact trivial | refine ⟨⟨_, rfl, Wk.refl _⟩, ?_⟩ | refine ⟨⟨_, rfl, Wk.nil _ _⟩, ?_⟩ | refine ⟨⟨_, rfl, Wk.junk _⟩, ?_⟩)) (by repeat (first | exact trivial | refine ⟨rfl, ?_⟩)) rfl)
    rintro s' ⟨i, Y, hi, hY, hY0, hYs, rfl⟩
    by_cases hil : i < la
    ·obtain ⟨y, hy⟩ := get_lt hla hil
     have hyt := (hz x hxm).2 y (List.mem_of_getElem? hy)
     have hYn := papA_size (s := Y) hyt (by omega)
     have hsn2 := congrArg (fun l => l.foldl papA V0) (take_snoc hy)
     simp only [List.foldl_append, List.foldl_cons, List.foldl_nil, ← hY] at hsn2
     obtain ⟨yi, yo, yw, yt⟩ := y
     simp only [arOk, decide_eq_true_eq] at hyt
     obtain ⟨p, rfl⟩ : ∃ p : Nat, yt = p := ⟨yt.toNat, by omega⟩
     obtain ⟨q, rfl⟩ : ∃ p : Nat, yi = p := ⟨yi.toNat, by omega⟩
     obtain ⟨r, rfl⟩ : ∃ p : Nat, yo = p := ⟨yo.toNat, by omega⟩
     obtain ⟨z, rfl⟩ : ∃ p : Nat, yw = p := ⟨yw.toNat, by omega⟩
     have hd1 := am_Itoa p (by omega)
     have hd2 := am_Itoa q (by omega)
     have hd3 := am_Itoa r (by omega)
     have hd4 := am_Itoa z (by omega)
     have hline := papA_line Y ⟨q, r, z, p⟩
     simp only [Int.toNat_natCast] at hline
     obtain ⟨Y2, hY2⟩ : ∃ Y2, papA Y ⟨q, r, z, p⟩ = Y2 := ⟨_, rfl⟩
     rw [hY2] at hline hYn hsn2
     have hj2 : Y.size + ((joinB [⟨#[97, 114, 99]⟩, decS p, decS q, decS r, decS z] ⟨#[32]⟩).size + 1) = Y2.size := by
      rw [← hline]
      simp only [ByteArray.size_append]
      rfl
     have hj0 : 0 < (joinB [⟨#[97, 114, 99]⟩, decS p, decS q, decS r, decS z] ⟨#[32]⟩).size := by
      rw [join5]
      simp only [ByteArray.size_append]
      have : (⟨#[32]⟩ : ByteArray).size = 1 := rfl
      omega
     have hj1 : Y.size + (joinB [⟨#[97, 114, 99]⟩, decS p, decS q, decS r, decS z] ⟨#[32]⟩).size + 1 ≤ 140737488355328 := by omega
     refine AW.seq ?_
     refine AW.region ?_
     (first | (refine AL.rp rfl rfl (rp_lssT rfl rfl rfl (by first | assumption | omega | (dsimp only; omega))) ?_) | (refine AL.rp rfl rfl (rp_lssF rfl rfl rfl (by first | assumption | omega | (dsimp only; omega))) ?_) | (refine AL.rp rfl rfl (rp_lss rfl rfl rfl) ?_))
     refine AL.nil ?_
     try simp only [thenS, S.put]
     refine AW.seq ?_
     refine AW.condT rfl ?_
     refine AW.skip ?_
     try simp only [thenS]
     refine AW.seq ?_
     refine AW.block ?_
     refine AW.seq ?_
     refine AW.region ?_
     (first | (refine AL.rp rfl rfl (rp_index_map Tryd.underlying56 inf64 rfl rfl rfl rfl (by assumption)) ?_) | (refine AL.rp rfl rfl (rp_index_own Tryd.underlying56 inf64 rfl rfl rfl rfl (by first | assumption | omega)) ?_) | (refine AL.rp rfl rfl (rd_index_sl Tryd.underlying56 inf64 rfl rfl rfl rfl (by assumption)) ?_) | (refine AL.rp rfl rfl (rp_index_own Tryd.underlying56 inf64 rfl rfl rfl (by omega) (by omega)) ?_))
     (first | (refine AL.rd rfl rfl (rd_loads_ref Tryd.underlying64 rfl inf64 rfl rfl rfl rfl rfl rfl) ?_) | (refine AL.rd rfl rfl (rd_loads_ad Tryd.underlying64 rfl inf64 rfl rfl rfl rfl) ?_))
     refine AL.sm rfl (sm_alloc (l := [.d (.p (.int .i64 0)), .d (.p (.int .i64 0)), .d (.p (.int .i64 0)), .d (.p (.int .i64 0))]) 12 inf64 rfl (by first | rfl | simp [S.clean, S.put, S.newObj, S.forget, V.has, V.hasL, junkIf, setL, V.cs, hasL_i, strV_has, hasL_d, hasL_b, hasL_s, hasL_n, hasL_rep, hasL_flat, hasL_append, -List.map_set]) rfl rfl) ?_
     refine AL.st rfl (st_store_any inf64 rfl rfl rfl rfl rfl rfl rfl rfl (by first | decide | (simp; done) | (simp; omega)) rfl) ?_
     refine AL.nil ?_
     try simp only [thenS, S.put, S.newObj, setL, V.cs, List.length_cons, List.length_nil, List.take_succ_cons, List.take_zero, List.drop_succ_cons, List.drop_zero, List.drop_nil, List.nil_append, List.cons_append, List.append_nil, Nat.zero_add, Nat.reduceAdd, List.map_cons, List.map_nil, List.set_cons_zero, List.set_cons_succ]
     refine AW.less (s' := ⟨68, [(5, .ref 900 0), (28, .d (stsD sts)), (29, .i n), (30, .i k), (44, .d (arsD x.arcs)), (45, .i la), (46, .i i), (12, .ref 12 0)], bH 61 true false Y [(12, ⟨64, [.i q, .i r, .i z, .i p], false, 0⟩)], []⟩) (Less.of rfl (by repeat (first | exact trivial | refine ⟨⟨_, rfl, Wk.refl _⟩, ?_⟩ | refine ⟨⟨_, rfl, Wk.nil _ _⟩, ?_⟩ | refine ⟨⟨_, rfl, Wk.junk _⟩, ?_⟩)) (by repeat (first | exact trivial | refine ⟨rfl, ?_⟩)) rfl) ?_
     simp only [bH]
     refine AW.drawF [(0, 2), (1, 1), (3, 2), (4, 1), (6, 2), (7, 1), (9, 2), (10, 1), (2, 0), (5, 0), (8, 0), (11, 0), (12, 0), (13, 0)] (fun i => !([13] : List Nat).contains i) 14 (by kernel_rfl) (by kernel_rfl) rfl (by kernel_rfl) ?_
     (first | (refine AF1.rp rfl rfl rfl (fun _ _ h => h) (rp_field_ref Tryd.underlying64 rfl rfl rfl inf3 (by decide) rfl) ?_) | (refine AF1.rp rfl rfl rfl (fun _ _ h => h) (rp_field_ad Tryd.underlying64 rfl rfl rfl inf3 (by decide) rfl) ?_))
     (first | (refine AF1.rd rfl rfl rfl (fun _ _ h => h) (rd_load_ref Tryd.underlying3 rfl rfl rfl rfl rfl rfl) ?_) | (refine AF1.rd rfl rfl rfl (fun _ _ h => h) (rd_load_ad Tryd.underlying3 rfl rfl rfl rfl) ?_) | (refine AF1.rd rfl rfl rfl (fun _ _ h => h) (rd_load_map Tryd.underlying3 rfl rfl rfl rfl rfl rfl (by assumption)) ?_) | (refine AF1.rd rfl rfl rfl (fun _ _ h => h) (rd_load_flat Tryd.underlying3 rfl rfl rfl rfl rfl rfl (fun _ => rfl) (by assumption) rfl) ?_))
     (first | (refine AF1.rp rfl rfl rfl (fun _ _ h => h) (rp_field_ref Tryd.underlying64 rfl rfl rfl inf3 (by decide) rfl) ?_) | (refine AF1.rp rfl rfl rfl (fun _ _ h => h) (rp_field_ad Tryd.underlying64 rfl rfl rfl inf3 (by decide) rfl) ?_))
     (first | (refine AF1.rd rfl rfl rfl (fun _ _ h => h) (rd_load_ref Tryd.underlying3 rfl rfl rfl rfl rfl rfl) ?_) | (refine AF1.rd rfl rfl rfl (fun _ _ h => h) (rd_load_ad Tryd.underlying3 rfl rfl rfl rfl) ?_) | (refine AF1.rd rfl rfl rfl (fun _ _ h => h) (rd_load_map Tryd.underlying3 rfl rfl rfl rfl rfl rfl (by assumption)) ?_) | (refine AF1.rd rfl rfl rfl (fun _ _ h => h) (rd_load_flat Tryd.underlying3 rfl rfl rfl rfl rfl rfl (fun _ => rfl) (by assumption) rfl) ?_))
     (first | (refine AF1.rp rfl rfl rfl (fun _ _ h => h) (rp_field_ref Tryd.underlying64 rfl rfl rfl inf3 (by decide) rfl) ?_) | (refine AF1.rp rfl rfl rfl (fun _ _ h => h) (rp_field_ad Tryd.underlying64 rfl rfl rfl inf3 (by decide) rfl) ?_))
     (first | (refine AF1.rd rfl rfl rfl (fun _ _ h => h) (rd_load_ref Tryd.underlying3 rfl rfl rfl rfl rfl rfl) ?_) | (refine AF1.rd rfl rfl rfl (fun _ _ h => h) (rd_load_ad Tryd.underlying3 rfl rfl rfl rfl) ?_) | (refine AF1.rd rfl rfl rfl (fun _ _ h => h) (rd_load_map Tryd.underlying3 rfl rfl rfl rfl rfl rfl (by assumption)) ?_) | (refine AF1.rd rfl rfl rfl (fun _ _ h => h) (rd_load_flat Tryd.underlying3 rfl rfl rfl rfl rfl rfl (fun _ => rfl) (by assumption) rfl) ?_))
     (first | (refine AF1.rp rfl rfl rfl (fun _ _ h => h) (rp_field_ref Tryd.underlying64 rfl rfl rfl inf3 (by decide) rfl) ?_) | (refine AF1.rp rfl rfl rfl (fun _ _ h => h) (rp_field_ad Tryd.underlying64 rfl rfl rfl inf3 (by decide) rfl) ?_))
     (first | (refine AF1.rd rfl rfl rfl (fun _ _ h => h) (rd_load_ref Tryd.underlying3 rfl rfl rfl rfl rfl rfl) ?_) | (refine AF1.rd rfl rfl rfl (fun _ _ h => h) (rd_load_ad Tryd.underlying3 rfl rfl rfl rfl) ?_) | (refine AF1.rd rfl rfl rfl (fun _ _ h => h) (rd_load_map Tryd.underlying3 rfl rfl rfl rfl rfl rfl (by assumption)) ?_) | (refine AF1.rd rfl rfl rfl (fun _ _ h => h) (rd_load_flat Tryd.underlying3 rfl rfl rfl rfl rfl rfl (fun _ => rfl) (by assumption) rfl) ?_))
     refine AF1.go ?_
     refine AF2.call (post := ?pc5) rfl rfl (sm_callP (args := [_]) (tab_kept _ _ _ _) (by assumption) ?hc5 ⟨Tryd.func20, rfl, rfl, rfl, rfl⟩ rfl rfl rfl rfl) ?_
     case hc5 => exact hd1
     rintro _ rfl -
     try dsimp only
     refine AF2.call (post := ?pc6) rfl rfl (sm_callP (args := [_]) (tab_kept _ _ _ _) (by assumption) ?hc6 ⟨Tryd.func20, rfl, rfl, rfl, rfl⟩ rfl rfl rfl rfl) ?_
     case hc6 => exact hd2
     rintro _ rfl -
     try dsimp only
     refine AF2.call (post := ?pc7) rfl rfl (sm_callP (args := [_]) (tab_kept _ _ _ _) (by assumption) ?hc7 ⟨Tryd.func20, rfl, rfl, rfl, rfl⟩ rfl rfl rfl rfl) ?_
     case hc7 => exact hd3
     rintro _ rfl -
     try dsimp only
     refine AF2.call (post := ?pc8) rfl rfl (sm_callP (args := [_]) (tab_kept _ _ _ _) (by assumption) ?hc8 ⟨Tryd.func20, rfl, rfl, rfl, rfl⟩ rfl rfl rfl rfl) ?_
     case hc8 => exact hd4
     rintro _ rfl -
     try dsimp only
     refine AF2.sm rfl rfl (sm_slice (vs := [(0, _), (1, _), (2, _), (3, _), (4, _)]) (zs := [.d (.p (.string ⟨#[]⟩)), .d (.p (.string ⟨#[]⟩)), .d (.p (.string ⟨#[]⟩)), .d (.p (.string ⟨#[]⟩)), .d (.p (.string ⟨#[]⟩))]) 890 Tryd.underlying98 inf9 rfl rfl (by decide) (by decide) (by decide) rfl rfl rfl rfl (by first | rfl | simp [S.clean, S.put, S.newObj, S.forget, V.has, V.hasL, junkIf, setL, V.cs, hasL_i, strV_has, hasL_d, hasL_b, hasL_s, hasL_n, hasL_rep, hasL_flat, hasL_append, -List.map_set]) (by first | rfl | simp [S.clean, S.put, S.newObj, S.forget, V.has, V.hasL, junkIf, setL, V.cs, hasL_i, strV_has, hasL_d, hasL_b, hasL_s, hasL_n, hasL_rep, hasL_flat, hasL_append, -List.map_set]) rfl) ?_
     refine AF2.go ?_
     try simp only [S.put, S.newObj, setL, V.cs, List.length_cons, List.length_nil, List.take_succ_cons, List.take_zero, List.drop_succ_cons, List.drop_zero, List.drop_nil, List.nil_append, List.cons_append, List.append_nil, Nat.zero_add, Nat.reduceAdd]
     refine AF3.pc rfl rfl [5, 28, 29, 30, 44, 45, 46] (ts := [_, _, _, _, _, _, _]) (args := [_, _]) (post := ?pc9) ?hc9 rfl rfl rfl rfl rfl rfl rfl rfl rfl ?_
     case hc9 => (refine pc_line5 bokS true false Y ⟨#[97, 114, 99]⟩ (decS p) (decS q) (decS r) (decS z) (lwO ?_ ?_ ?_) ?_ hj0 hj1 <;> first | rfl | (simp [V.lowL, V.low]; done))
     rintro _ _ _ ⟨rfl, rfl, rfl⟩
     simp only [back, S.put, List.cons_append, List.nil_append, List.zip_cons_cons, List.zip_nil_left, List.drop_succ_cons, List.drop_zero, List.length_cons, List.length_nil, Nat.zero_add, Nat.reduceAdd]
     refine AF3.nil ?_
     try simp only [thenS, S.put, S.newObj, setL, V.cs, List.length_cons, List.length_nil, List.take_succ_cons, List.take_zero, List.drop_succ_cons, List.drop_zero, List.drop_nil, List.nil_append, List.cons_append, List.append_nil, Nat.zero_add, Nat.reduceAdd, List.map_cons, List.map_nil, List.set_cons_zero, List.set_cons_succ]
     rw [hline]
     refine AW.region ?_
     refine AL.rp rfl rfl (rp_add rfl rfl rfl (by first | omega | (dsimp only; omega))) ?_
     refine AL.rp rfl rfl (rp_move rfl rfl) ?_
     refine AL.nil ?_
     try simp only [thenS, S.put]
     refine ⟨_, ?_, ⟨i + 1, Y2, by omega, hsn2.symm, by omega, by omega, rfl⟩, ?_⟩
     ·exact (Less.of rfl (by repeat (first | exact trivial | refine ⟨⟨_, rfl, Wk.refl _⟩, ?_⟩ | refine ⟨⟨_, rfl, Wk.nil _ _⟩, ?_⟩ | refine ⟨⟨_, rfl, Wk.junk _⟩, ?_⟩)) (by repeat (first | exact trivial | refine ⟨rfl, ?_⟩)) rfl)
     ·simp [S.nat, fnd]; omega
    ·have hfull : x.arcs.take i = x.arcs := List.take_of_length_le (by omega)
     rw [hfull] at hY
     have hYe : papS W x = Y := by rw [hY, ← hV0, ← hw]; rfl
     rw [hYe] at hsn
     refine AW.seq ?_
     refine AW.region ?_
     (first | (refine AL.rp rfl rfl (rp_lssT rfl rfl rfl (by first | assumption | omega | (dsimp only; omega))) ?_) | (refine AL.rp rfl rfl (rp_lssF rfl rfl rfl (by first | assumption | omega | (dsimp only; omega))) ?_) | (refine AL.rp rfl rfl (rp_lss rfl rfl rfl) ?_))
     refine AL.nil ?_
     try simp only [thenS, S.put]
     refine AW.seq ?_
     refine AW.condF rfl ?_
     refine AW.exit ?_
     try simp only [thenS, inBlockS, ↓reduceIte, Nat.reduceEqDiff]
     refine AW.region ?_
     refine AL.rp rfl rfl (rp_add rfl rfl rfl (by first | omega | (dsimp only; omega))) ?_
     refine AL.rp rfl rfl (rp_move rfl rfl) ?_
     refine AL.nil ?_
     try simp only [thenS, S.put]
     refine ⟨_, ?_, ⟨k + 1, Y, by omega, hsn.symm, hY0, by omega, rfl⟩, ?_⟩
     ·exact (Less.of rfl (by repeat (first | exact trivial | refine ⟨⟨_, rfl, Wk.refl _⟩, ?_⟩ | refine ⟨⟨_, rfl, Wk.nil _ _⟩, ?_⟩ | refine ⟨⟨_, rfl, Wk.junk _⟩, ?_⟩)) (by repeat (first | exact trivial | refine ⟨rfl, ?_⟩)) rfl)
     ·simp [S.nat, fnd]; omega
   ·obtain rfl : k = n := by omega
    rw [List.take_of_length_le (by omega)] at hW
    rw [← hW]
    have hzW : (false = true) ↔ W.size = 0 := ⟨fun h => (by cases h), fun h => by omega⟩
    refine AW.seq ?_
    refine AW.region ?_
    (first | (refine AL.rp rfl rfl (rp_lssT rfl rfl rfl (by first | assumption | omega | (dsimp only; omega))) ?_) | (refine AL.rp rfl rfl (rp_lssF rfl rfl rfl (by first | assumption | omega | (dsimp only; omega))) ?_) | (refine AL.rp rfl rfl (rp_lss rfl rfl rfl) ?_))
    refine AL.nil ?_
    try simp only [thenS, S.put]
    refine AW.seq ?_
    refine AW.condF rfl ?_
    refine AW.exit ?_
    try simp only [thenS, inBlockS, ↓reduceIte, Nat.reduceEqDiff]
    refine AW.seq ?_
    refine AW.region ?_
    (first | (refine AL.rp rfl rfl (rp_field_ref Tryd.underlying61 rfl rfl rfl inf52 (by decide) rfl) ?_) | (refine AL.rp rfl rfl (rp_field_ad Tryd.underlying61 rfl rfl rfl inf52 (by decide) rfl) ?_))
    try simp only [S.put, S.newObj, setL, V.cs, List.length_cons, List.length_nil, List.take_succ_cons, List.take_zero, List.drop_succ_cons, List.drop_zero, List.drop_nil, List.nil_append, List.cons_append, List.append_nil, Nat.zero_add, Nat.reduceAdd]
    refine AL.pc [] (ts := []) (args := [_]) (post := ?pc10) ?hc10 rfl rfl rfl rfl rfl rfl rfl rfl rfl ?_
    case hc10 => (refine pc_String false W true (lwE ?_) hzW (by omega) <;> first | rfl | (simp [V.lowL, V.low]; done))
    rintro _ _ _ ⟨rfl, rfl, rfl⟩
    simp only [back, S.put, List.cons_append, List.nil_append, List.zip_cons_cons, List.zip_nil_left, List.drop_succ_cons, List.drop_zero, List.length_cons, List.length_nil, Nat.zero_add, Nat.reduceAdd]
    refine AL.rp rfl rfl (rp_assign rfl rfl) ?_
    refine AL.rp rfl rfl (rp_assign rfl rfl) ?_
    refine AL.nil ?_
    try simp only [thenS, S.put]
    refine AW.ret ?_
    exact ⟨[_, _], ⟨rfl, rfl, trivial⟩, rfl, by simp [tupOf, V.pure, V.has, V.hasL]⟩
 ·have hM : papM m = ⟨#[]⟩ := by unfold papM; rw [if_neg h0]
  rw [hM]
  obtain ⟨st, sts⟩ := m
  obtain ⟨e, he⟩ : ∃ e, machE ⟨st, sts⟩ = e := ⟨_, rfl⟩
  rw [he] at h0 ⊢
  refine FnP.intro (n := 68) ⟨Tryd.func16, rfl, rfl, rfl, rfl⟩ (by simp [V.pure, V.has, V.hasL]) (by simp) fun w0 out hpre => ?_
  refine AW.seq ?_
  refine AW.region ?_
  refine AL.sm rfl (sm_box 1 rfl rfl rfl (by first | rfl | simp [S.clean, S.put, S.newObj, S.forget, V.has, V.hasL, junkIf, setL, V.cs, hasL_i, strV_has, hasL_d, hasL_b, hasL_s, hasL_n, hasL_rep, hasL_flat, hasL_append, -List.map_set]) rfl) ?_
  refine AL.rp rfl rfl (rp_assign rfl rfl) ?_
  refine AL.rp rfl rfl (rp_assign rfl rfl) ?_
  refine AL.nil ?_
  try simp only [thenS, S.put, S.newObj, setL, V.cs, List.length_cons, List.length_nil, List.take_succ_cons, List.take_zero, List.drop_succ_cons, List.drop_zero, List.drop_nil, List.nil_append, List.cons_append, List.append_nil, Nat.zero_add, Nat.reduceAdd, List.map_cons, List.map_nil, List.set_cons_zero, List.set_cons_succ, enum]
  refine AW.seq ?_
  refine AW.seq ?_
  refine AW.region ?_
  (first | (refine AL.rd rfl rfl (rd_loads_ref Tryd.underlying36 rfl inf36 rfl rfl rfl rfl rfl rfl) ?_) | (refine AL.rd rfl rfl (rd_loads_ad Tryd.underlying36 rfl inf36 rfl rfl rfl rfl) ?_))
  refine AL.call (post := ?pc11) rfl (sm_call (args := [_]) ?hc11 ⟨Tryd.func30, rfl, rfl, rfl, rfl⟩ rfl rfl rfl rfl) ?_
  case hc11 => exact Fn.eqi (am_Check ⟨st, sts⟩) he
  rintro _ rfl -
  try dsimp only
  refine AL.rp rfl rfl (rp_assign rfl rfl) ?_
  refine AL.nil ?_
  try simp only [thenS, S.put, S.newObj, setL, V.cs, List.length_cons, List.length_nil, List.take_succ_cons, List.take_zero, List.drop_succ_cons, List.drop_zero, List.drop_nil, List.nil_append, List.cons_append, List.append_nil, Nat.zero_add, Nat.reduceAdd, List.map_cons, List.map_nil, List.set_cons_zero, List.set_cons_succ]
  refine AW.seq ?_
  refine AW.region ?_
  refine AL.rp rfl rfl (rp_move rfl rfl) ?_
  (first | (refine AL.rp rfl rfl (rp_neqT rfl rfl rfl (by first | assumption | omega | (dsimp only; omega))) ?_) | (refine AL.rp rfl rfl (rp_neqF rfl rfl rfl (by first | assumption | omega | (dsimp only; omega))) ?_) | (refine AL.rp rfl rfl (rp_neq rfl rfl rfl) ?_))
  refine AL.nil ?_
  try simp only [thenS, S.put]
  refine AW.condT rfl ?_
  refine AW.seq ?_
  refine AW.region ?_
  refine AL.rp rfl rfl (rp_move rfl rfl) ?_
  refine AL.rp rfl rfl (rp_assign rfl rfl) ?_
  refine AL.rp rfl rfl (rp_assign rfl rfl) ?_
  refine AL.nil ?_
  try simp only [thenS, S.put]
  refine AW.ret ?_
  exact ⟨[_, _], ⟨rfl, rfl, trivial⟩, rfl, by simp [tupOf, V.pure, V.has, V.hasL]⟩
end Go.Proofs.YthflidjnlnmbiaaDoor

namespace Go.Proofs.YthflidjnlnmbiaaDoor
open Go.RowKit
set_option linter.unusedSimpArgs false
set_option linter.unusedVariables false
set_option maxRecDepth 100000

set_option maxHeartbeats 2000000 in
theorem am_PaperShown (m : Mach) : Fn Tryd.prog 17 [mV m] (fun v => v = .tup [.s (papM m), .i (machE m)]) := by
 by_cases h0 : machE m = 0
 ·obtain ⟨h60, h400, hst, hz⟩ := machE_zero h0
  have hM : papM m = m.states.foldl papS (papH m.start) := by unfold papM; rw [if_pos h0]
  rw [hM]
  obtain ⟨st, sts⟩ := m
  simp only at h60 h400 hst hz
  have hal4 : ∀ x ∈ sts, x.arcs.length ≤ 400 := fun x hx => Nat.le_trans (arcN_mem sts x hx) h400
  obtain ⟨n, hn⟩ : ∃ n, sts.length = n := ⟨_, rfl⟩
  rw [hn] at h60 hst hz
  have hHs := papH_size (st := st) (by omega)
  have hc1 : (⟨#[10]⟩ : ByteArray).size = 1 := rfl
  have hc2 : (⟨#[32]⟩ : ByteArray).size = 1 := rfl
  have hc4 : (⟨#[97, 114, 99, 32]⟩ : ByteArray).size = 4 := rfl
  have hc6 : (⟨#[115, 116, 97, 116, 101, 32]⟩ : ByteArray).size = 6 := rfl
  have hc7 : (⟨#[115, 116, 97, 114, 116, 32]⟩ : ByteArray).size = 6 := rfl
  rw [h0]
  obtain ⟨H, hHd⟩ : ∃ H, papH st = H := ⟨_, rfl⟩
  refine Fn.intro (n := 93) ⟨Tryd.func17, rfl, rfl, rfl, rfl⟩ (by simp [V.pure, V.has, V.hasL]) (by simp) fun w0 out => ?_
  refine AW.seq ?_
  refine AW.region ?_
  refine AL.sm rfl (sm_box 1 rfl rfl rfl (by first | rfl | simp [S.clean, S.put, S.newObj, S.forget, V.has, V.hasL, junkIf, setL, V.cs, hasL_i, hasL_d, hasL_b, hasL_s, hasL_n, hasL_rep, hasL_flat, hasL_append, -List.map_set]) rfl) ?_
  refine AL.rp rfl rfl (rp_assign rfl rfl) ?_
  refine AL.rp rfl rfl (rp_assign rfl rfl) ?_
  refine AL.nil ?_
  try simp only [thenS, S.put, S.newObj, setL, V.cs, List.length_cons, List.length_nil, List.take_succ_cons, List.take_zero, List.drop_succ_cons, List.drop_zero, List.drop_nil, List.nil_append, List.cons_append, List.append_nil, Nat.zero_add, Nat.reduceAdd, List.map_cons, List.map_nil, List.set_cons_zero, List.set_cons_succ, enum]
  refine AW.seq ?_
  refine AW.region ?_
  (first | (refine AL.rd rfl rfl (rd_loads_ref Tryd.underlying36 rfl inf36 rfl rfl rfl rfl rfl rfl) ?_) | (refine AL.rd rfl rfl (rd_loads_ad Tryd.underlying36 rfl inf36 rfl rfl rfl rfl) ?_))
  refine AL.call (post := ?pc0) rfl (sm_call (args := [_]) ?hc0 ⟨Tryd.func32, rfl, rfl, rfl, rfl⟩ rfl rfl rfl rfl) ?_
  case hc0 => exact Fn.eqi (am_Fault ⟨st, sts⟩) h0
  rintro _ rfl -
  try dsimp only
  refine AL.rp rfl rfl (rp_assign rfl rfl) ?_
  refine AL.nil ?_
  try simp only [thenS, S.put, S.newObj, setL, V.cs, List.length_cons, List.length_nil, List.take_succ_cons, List.take_zero, List.drop_succ_cons, List.drop_zero, List.drop_nil, List.nil_append, List.cons_append, List.append_nil, Nat.zero_add, Nat.reduceAdd, List.map_cons, List.map_nil, List.set_cons_zero, List.set_cons_succ]
  refine AW.seq ?_
  refine AW.seq ?_
  refine AW.region ?_
  refine AL.rp rfl rfl (rp_move rfl rfl) ?_
  (first | (refine AL.rp rfl rfl (rp_neqT rfl rfl rfl (by first | assumption | omega | (dsimp only; omega))) ?_) | (refine AL.rp rfl rfl (rp_neqF rfl rfl rfl (by first | assumption | omega | (dsimp only; omega))) ?_) | (refine AL.rp rfl rfl (rp_neq rfl rfl rfl) ?_))
  refine AL.nil ?_
  try simp only [thenS, S.put]
  refine AW.condF rfl ?_
  refine AW.skip ?_
  try simp only [thenS]
  refine AW.seq ?_
  refine AW.region ?_
  refine AL.rp rfl rfl (rp_assign rfl rfl) ?_
  refine AL.nil ?_
  try simp only [thenS, S.put]
  refine AW.seqc (fun s' => s' = ⟨93, [(1, .ref 1 0), (5, .s H)], [(1, ⟨36, [.i st, .d (stsD sts)], false, 0⟩)], []⟩) ?_ ?_
  ·skip
   by_cases hs0 : 0 ≤ st
   ·obtain ⟨p, rfl⟩ : ∃ p : Nat, st = p := ⟨st.toNat, by omega⟩
    have hdc := am_Dec p (by omega)
    have hds := decS_size p
    have hHe : H = ⟨#[115, 116, 97, 114, 116, 32]⟩ ++ decS p ++ ⟨#[10]⟩ := by rw [← hHd]; unfold papH; rw [if_pos (by omega)]; rfl
    refine AW.seq ?_
    refine AW.region ?_
    (first | (refine AL.rp rfl rfl (rp_field_ref Tryd.underlying36 rfl rfl rfl inf3 (by decide) rfl) ?_) | (refine AL.rp rfl rfl (rp_field_ad Tryd.underlying36 rfl rfl rfl inf3 (by decide) rfl) ?_))
    (first | (refine AL.rd rfl rfl (rd_load_ref Tryd.underlying3 rfl rfl rfl rfl rfl rfl) ?_) | (refine AL.rd rfl rfl (rd_load_ad Tryd.underlying3 rfl rfl rfl rfl) ?_) | (refine AL.rd rfl rfl (rd_load_map Tryd.underlying3 rfl rfl rfl rfl rfl rfl (by assumption)) ?_) | (refine AL.rd rfl rfl (rd_load_flat Tryd.underlying3 rfl rfl rfl rfl rfl rfl (fun _ => rfl) (by assumption) rfl) ?_))
    (first | (refine AL.rp rfl rfl (rp_geqT rfl rfl rfl (by first | assumption | omega | (dsimp only; omega))) ?_) | (refine AL.rp rfl rfl (rp_geqF rfl rfl rfl (by first | assumption | omega | (dsimp only; omega))) ?_) | (refine AL.rp rfl rfl (rp_geq rfl rfl rfl) ?_))
    refine AL.nil ?_
    try simp only [thenS, S.put]
    refine AW.condT rfl ?_
    refine AW.region ?_
    (first | (refine AL.rp rfl rfl (rp_field_ref Tryd.underlying36 rfl rfl rfl inf3 (by decide) rfl) ?_) | (refine AL.rp rfl rfl (rp_field_ad Tryd.underlying36 rfl rfl rfl inf3 (by decide) rfl) ?_))
    (first | (refine AL.rd rfl rfl (rd_load_ref Tryd.underlying3 rfl rfl rfl rfl rfl rfl) ?_) | (refine AL.rd rfl rfl (rd_load_ad Tryd.underlying3 rfl rfl rfl rfl) ?_) | (refine AL.rd rfl rfl (rd_load_map Tryd.underlying3 rfl rfl rfl rfl rfl rfl (by assumption)) ?_) | (refine AL.rd rfl rfl (rd_load_flat Tryd.underlying3 rfl rfl rfl rfl rfl rfl (fun _ => rfl) (by assumption) rfl) ?_))
    refine AL.call (post := ?pc1) rfl (sm_call (args := [_]) ?hc1 ⟨Tryd.func22, rfl, rfl, rfl, rfl⟩ rfl rfl rfl rfl) ?_
    case hc1 => exact hdc
    rintro _ rfl -
    try dsimp only
    refine AL.rp rfl rfl (rp_adds rfl rfl rfl (by first | assumption | omega | (simp only [ByteArray.size_append]; omega))) ?_
    refine AL.rp rfl rfl (rp_adds rfl rfl rfl (by first | assumption | omega | (simp only [ByteArray.size_append]; omega))) ?_
    refine AL.rp rfl rfl (rp_assign rfl rfl) ?_
    refine AL.nil ?_
    try simp only [thenS, S.put, S.newObj, setL, V.cs, List.length_cons, List.length_nil, List.take_succ_cons, List.take_zero, List.drop_succ_cons, List.drop_zero, List.drop_nil, List.nil_append, List.cons_append, List.append_nil, Nat.zero_add, Nat.reduceAdd, List.map_cons, List.map_nil, List.set_cons_zero, List.set_cons_succ]
    refine ⟨_, ?_, rfl⟩
    rw [hHe]; exact (Less.of rfl (by repeat (first | exact trivial | refine ⟨⟨_, rfl, Wk.refl _⟩, ?_⟩ | refine ⟨⟨_, rfl, Wk.nil _ _⟩, ?_⟩ | refine ⟨⟨_, rfl, Wk.junk _⟩, ?_⟩)) (by repeat (first | exact trivial | refine ⟨rfl, ?_⟩)) rfl)
   ·have hHe : H = ⟨#[115, 116, 97, 114, 116, 32, 45, 10]⟩ := by rw [← hHd]; unfold papH; rw [if_neg hs0]
    refine AW.seq ?_
    refine AW.region ?_
    (first | (refine AL.rp rfl rfl (rp_field_ref Tryd.underlying36 rfl rfl rfl inf3 (by decide) rfl) ?_) | (refine AL.rp rfl rfl (rp_field_ad Tryd.underlying36 rfl rfl rfl inf3 (by decide) rfl) ?_))
    (first | (refine AL.rd rfl rfl (rd_load_ref Tryd.underlying3 rfl rfl rfl rfl rfl rfl) ?_) | (refine AL.rd rfl rfl (rd_load_ad Tryd.underlying3 rfl rfl rfl rfl) ?_) | (refine AL.rd rfl rfl (rd_load_map Tryd.underlying3 rfl rfl rfl rfl rfl rfl (by assumption)) ?_) | (refine AL.rd rfl rfl (rd_load_flat Tryd.underlying3 rfl rfl rfl rfl rfl rfl (fun _ => rfl) (by assumption) rfl) ?_))
    (first | (refine AL.rp rfl rfl (rp_geqT rfl rfl rfl (by first | assumption | omega | (dsimp only; omega))) ?_) | (refine AL.rp rfl rfl (rp_geqF rfl rfl rfl (by first | assumption | omega | (dsimp only; omega))) ?_) | (refine AL.rp rfl rfl (rp_geq rfl rfl rfl) ?_))
    refine AL.nil ?_
    try simp only [thenS, S.put]
    refine AW.condF rfl ?_
    refine AW.skip ?_
    try simp only [thenS]
    refine ⟨_, ?_, rfl⟩
    rw [hHe]; exact (Less.of rfl (by repeat (first | exact trivial | refine ⟨⟨_, rfl, Wk.refl _⟩, ?_⟩ | refine ⟨⟨_, rfl, Wk.nil _ _⟩, ?_⟩ | refine ⟨⟨_, rfl, Wk.junk _⟩, ?_⟩)) (by repeat (first | exact trivial | refine ⟨rfl, ?_⟩)) rfl)
  ·rintro s' rfl
   rw [hHd] at hHs ⊢
   refine AW.seq ?_
   refine AW.seq ?_
   refine AW.region ?_
   refine AL.rp rfl rfl (rp_assign rfl rfl) ?_
   refine AL.nil ?_
   try simp only [thenS, S.put]
   refine AW.block ?_
   refine AW.loop (fun s' => ∃ (k : Nat) (W : ByteArray), k ≤ n ∧ W = (sts.take k).foldl papS H ∧ W.size ≤ (k + 1) * 10000000000000 ∧ s' = ⟨93, [(1, .ref 1 0), (5, .s W), (6, .i k)], [(1, ⟨36, [.i st, .d (stsD sts)], false, 0⟩)], []⟩) (fun s' => n - s'.nat 6) ⟨_, ?_, 0, H, by omega, rfl, by omega, rfl⟩ ?_
   ·exact (Less.of rfl (by repeat (first | exact trivial | refine ⟨⟨_, rfl, Wk.refl _⟩, ?_⟩ | refine ⟨⟨_, rfl, Wk.nil _ _⟩, ?_⟩ | refine ⟨⟨_, rfl, Wk.junk _⟩, ?_⟩)) (by repeat (first | exact trivial | refine ⟨rfl, ?_⟩)) rfl)
   rintro s' ⟨k, W, hk, hW, hWs, rfl⟩
   by_cases hlt : k < n
   ·obtain ⟨x, hx⟩ := get_lt hn hlt
    have hxm := List.mem_of_getElem? hx
    have hshs := shS_size x.fin
    have hcon := am_Shown x.fin
    obtain ⟨la, hla⟩ : ∃ n, x.arcs.length = n := ⟨_, rfl⟩
    have hla4 := hal4 x hxm
    rw [hla] at hla4
    have hsn := congrArg (fun l => l.foldl papS H) (take_snoc hx)
    simp only [List.foldl_append, List.foldl_cons, List.foldl_nil, ← hW] at hsn
    refine AW.seq ?_
    refine AW.seq ?_
    refine AW.region ?_
    refine AL.rp rfl rfl (rp_move rfl rfl) ?_
    (first | (refine AL.rp rfl rfl (rp_field_ref Tryd.underlying36 rfl rfl rfl inf34 (by decide) rfl) ?_) | (refine AL.rp rfl rfl (rp_field_ad Tryd.underlying36 rfl rfl rfl inf34 (by decide) rfl) ?_))
    (first | (refine AL.rd rfl rfl (rd_load_ref Tryd.underlying34 rfl rfl rfl rfl rfl rfl) ?_) | (refine AL.rd rfl rfl (rd_load_ad Tryd.underlying34 rfl rfl rfl rfl) ?_) | (refine AL.rd rfl rfl (rd_load_map Tryd.underlying34 rfl rfl rfl rfl rfl rfl (by assumption)) ?_) | (refine AL.rd rfl rfl (rd_load_flat Tryd.underlying34 rfl rfl rfl rfl rfl rfl (fun _ => rfl) (by assumption) rfl) ?_))
    (first | (refine AL.rp rfl rfl (rp_len_map Tryd.underlying34 rfl rfl (by assumption)) ?_) | (refine AL.rp rfl rfl (rp_len_own Tryd.underlying34 rfl rfl) ?_) | (refine AL.rp rfl rfl (rp_len_sl Tryd.underlying34 rfl rfl) ?_) | (refine AL.rp rfl rfl (rp_len_nil Tryd.underlying34 rfl rfl) ?_) | (refine AL.rp rfl rfl (rp_len_str Tryd.underlying34 rfl rfl) ?_))
    (first | (refine AL.rp rfl rfl (rp_lssT rfl rfl rfl (by first | assumption | omega | (dsimp only; omega))) ?_) | (refine AL.rp rfl rfl (rp_lssF rfl rfl rfl (by first | assumption | omega | (dsimp only; omega))) ?_) | (refine AL.rp rfl rfl (rp_lss rfl rfl rfl) ?_))
    refine AL.nil ?_
    try simp only [thenS, S.put]
    refine AW.condT rfl ?_
    refine AW.skip ?_
    try simp only [thenS]
    refine AW.seq ?_
    refine AW.block ?_
    refine AW.seq ?_
    refine AW.region ?_
    (first | (refine AL.rp rfl rfl (rp_field_ref Tryd.underlying36 rfl rfl rfl inf34 (by decide) rfl) ?_) | (refine AL.rp rfl rfl (rp_field_ad Tryd.underlying36 rfl rfl rfl inf34 (by decide) rfl) ?_))
    (first | (refine AL.rd rfl rfl (rd_load_ref Tryd.underlying34 rfl rfl rfl rfl rfl rfl) ?_) | (refine AL.rd rfl rfl (rd_load_ad Tryd.underlying34 rfl rfl rfl rfl) ?_) | (refine AL.rd rfl rfl (rd_load_map Tryd.underlying34 rfl rfl rfl rfl rfl rfl (by assumption)) ?_) | (refine AL.rd rfl rfl (rd_load_flat Tryd.underlying34 rfl rfl rfl rfl rfl rfl (fun _ => rfl) (by assumption) rfl) ?_))
    refine AL.rp rfl rfl (rp_move rfl rfl) ?_
    (first | (refine AL.rp rfl rfl (rp_index_map Tryd.underlying34 inf58 rfl rfl rfl rfl (by assumption)) ?_) | (refine AL.rp rfl rfl (rp_index_own Tryd.underlying34 inf58 rfl rfl rfl rfl (by first | assumption | omega)) ?_) | (refine AL.rp rfl rfl (rd_index_sl Tryd.underlying34 inf58 rfl rfl rfl rfl (by assumption)) ?_) | (refine AL.rp rfl rfl (rp_index_own Tryd.underlying34 inf58 rfl rfl rfl (by omega) (by omega)) ?_))
    (first | (refine AL.rp rfl rfl (rp_field_ref Tryd.underlying58 rfl rfl rfl inf3 (by decide) rfl) ?_) | (refine AL.rp rfl rfl (rp_field_ad Tryd.underlying58 rfl rfl rfl inf3 (by decide) rfl) ?_))
    (first | (refine AL.rd rfl rfl (rd_load_ref Tryd.underlying3 rfl rfl rfl rfl rfl rfl) ?_) | (refine AL.rd rfl rfl (rd_load_ad Tryd.underlying3 rfl rfl rfl rfl) ?_) | (refine AL.rd rfl rfl (rd_load_map Tryd.underlying3 rfl rfl rfl rfl rfl rfl (by assumption)) ?_) | (refine AL.rd rfl rfl (rd_load_flat Tryd.underlying3 rfl rfl rfl rfl rfl rfl (fun _ => rfl) (by assumption) rfl) ?_))
    refine AL.call (post := ?pc2) rfl (sm_call (args := [_]) ?hc2 ⟨Tryd.func8, rfl, rfl, rfl, rfl⟩ rfl rfl rfl rfl) ?_
    case hc2 => exact hcon
    rintro _ rfl -
    try dsimp only
    refine AL.rp rfl rfl (rp_move rfl rfl) ?_
    refine AL.rp rfl rfl (rp_extract rfl rfl rfl) ?_
    refine AL.rp rfl rfl (rp_extract rfl rfl rfl) ?_
    refine AL.rp rfl rfl (rp_assign rfl rfl) ?_
    refine AL.rp rfl rfl (rp_assign rfl rfl) ?_
    refine AL.nil ?_
    try simp only [thenS, S.put, S.newObj, setL, V.cs, List.length_cons, List.length_nil, List.take_succ_cons, List.take_zero, List.drop_succ_cons, List.drop_zero, List.drop_nil, List.nil_append, List.cons_append, List.append_nil, Nat.zero_add, Nat.reduceAdd, List.map_cons, List.map_nil, List.set_cons_zero, List.set_cons_succ]
    refine AW.seq ?_
    refine AW.region ?_
    refine AL.rp rfl rfl (rp_move rfl rfl) ?_
    refine AL.rp rfl rfl (rp_adds rfl rfl rfl (by first | assumption | omega | (simp only [ByteArray.size_append]; omega))) ?_
    refine AL.rp rfl rfl (rp_move rfl rfl) ?_
    refine AL.rp rfl rfl (rp_adds rfl rfl rfl (by first | assumption | omega | (simp only [ByteArray.size_append]; omega))) ?_
    refine AL.rp rfl rfl (rp_adds rfl rfl rfl (by first | assumption | omega | (simp only [ByteArray.size_append]; omega))) ?_
    refine AL.rp rfl rfl (rp_assign rfl rfl) ?_
    refine AL.nil ?_
    try simp only [thenS, S.put]
    refine AW.seq ?_
    refine AW.region ?_
    (first | (refine AL.rp rfl rfl (rp_field_ref Tryd.underlying36 rfl rfl rfl inf34 (by decide) rfl) ?_) | (refine AL.rp rfl rfl (rp_field_ad Tryd.underlying36 rfl rfl rfl inf34 (by decide) rfl) ?_))
    (first | (refine AL.rd rfl rfl (rd_load_ref Tryd.underlying34 rfl rfl rfl rfl rfl rfl) ?_) | (refine AL.rd rfl rfl (rd_load_ad Tryd.underlying34 rfl rfl rfl rfl) ?_) | (refine AL.rd rfl rfl (rd_load_map Tryd.underlying34 rfl rfl rfl rfl rfl rfl (by assumption)) ?_) | (refine AL.rd rfl rfl (rd_load_flat Tryd.underlying34 rfl rfl rfl rfl rfl rfl (fun _ => rfl) (by assumption) rfl) ?_))
    refine AL.rp rfl rfl (rp_move rfl rfl) ?_
    (first | (refine AL.rp rfl rfl (rp_index_map Tryd.underlying34 inf58 rfl rfl rfl rfl (by assumption)) ?_) | (refine AL.rp rfl rfl (rp_index_own Tryd.underlying34 inf58 rfl rfl rfl rfl (by first | assumption | omega)) ?_) | (refine AL.rp rfl rfl (rd_index_sl Tryd.underlying34 inf58 rfl rfl rfl rfl (by assumption)) ?_) | (refine AL.rp rfl rfl (rp_index_own Tryd.underlying34 inf58 rfl rfl rfl (by omega) (by omega)) ?_))
    (first | (refine AL.rp rfl rfl (rp_field_ref Tryd.underlying58 rfl rfl rfl inf56 (by decide) rfl) ?_) | (refine AL.rp rfl rfl (rp_field_ad Tryd.underlying58 rfl rfl rfl inf56 (by decide) rfl) ?_))
    (first | (refine AL.rd rfl rfl (rd_load_ref Tryd.underlying56 rfl rfl rfl rfl rfl rfl) ?_) | (refine AL.rd rfl rfl (rd_load_ad Tryd.underlying56 rfl rfl rfl rfl) ?_) | (refine AL.rd rfl rfl (rd_load_map Tryd.underlying56 rfl rfl rfl rfl rfl rfl (by assumption)) ?_) | (refine AL.rd rfl rfl (rd_load_flat Tryd.underlying56 rfl rfl rfl rfl rfl rfl (fun _ => rfl) (by assumption) rfl) ?_))
    refine AL.rp rfl rfl (rp_assign rfl rfl) ?_
    refine AL.nil ?_
    try simp only [thenS, S.put]
    refine AW.seq ?_
    refine AW.region ?_
    refine AL.rp rfl rfl (rp_assign rfl rfl) ?_
    refine AL.nil ?_
    try simp only [thenS, S.put]
    refine AW.block ?_
    refine AW.loop (fun s' => ∃ (i : Nat) (Y : ByteArray), i ≤ la ∧ Y = (x.arcs.take i).foldl papA (W ++ ⟨#[115, 116, 97, 116, 101, 32]⟩ ++ shS x.fin ++ ⟨#[10]⟩) ∧ Y.size ≤ W.size + 1000000100 + i * 2000000000 ∧ s' = ⟨93, [(1, .ref 1 0), (5, .s Y), (6, .i k), (9, .d (arsD x.arcs)), (10, .i i)], [(1, ⟨36, [.i st, .d (stsD sts)], false, 0⟩)], []⟩) (fun s' => la - s'.nat 10) ⟨_, ?_, 0, (W ++ ⟨#[115, 116, 97, 116, 101, 32]⟩ ++ shS x.fin ++ ⟨#[10]⟩), by omega, rfl, by (simp only [ByteArray.size_append]; omega), rfl⟩ ?_
    ·exact (Less.of rfl (by repeat (first | exact trivial | refine ⟨⟨_, rfl, Wk.refl _⟩, ?_⟩ | refine ⟨⟨_, rfl, Wk.nil _ _⟩, ?_⟩ | refine ⟨⟨_, rfl, Wk.junk _⟩, ?_⟩)) (by repeat (first | exact trivial | refine ⟨rfl, ?_⟩)) rfl)
    rintro s' ⟨i, Y, hi, hY, hYs, rfl⟩
    by_cases hil : i < la
    ·obtain ⟨y, hy⟩ := get_lt hla hil
     have hyt := (hz x hxm).2 y (List.mem_of_getElem? hy)
     have hYn := papA_size (s := Y) hyt (by omega)
     have hsn2 := congrArg (fun l => l.foldl papA (W ++ ⟨#[115, 116, 97, 116, 101, 32]⟩ ++ shS x.fin ++ ⟨#[10]⟩)) (take_snoc hy)
     simp only [List.foldl_append, List.foldl_cons, List.foldl_nil, ← hY] at hsn2
     obtain ⟨yi, yo, yw, yt⟩ := y
     simp only [arOk, decide_eq_true_eq] at hyt
     obtain ⟨p, rfl⟩ : ∃ p : Nat, yt = p := ⟨yt.toNat, by omega⟩
     obtain ⟨q, rfl⟩ : ∃ p : Nat, yi = p := ⟨yi.toNat, by omega⟩
     obtain ⟨r, rfl⟩ : ∃ p : Nat, yo = p := ⟨yo.toNat, by omega⟩
     obtain ⟨z, rfl⟩ : ∃ p : Nat, yw = p := ⟨yw.toNat, by omega⟩
     have hd1 := am_Dec p (by omega)
     have hd2 := am_Dec q (by omega)
     have hd3 := am_Dec r (by omega)
     have hd4 := am_Dec z (by omega)
     have hs1 := decS_size p
     have hs2 := decS_size q
     have hs3 := decS_size r
     have hs4 := decS_size z
     refine AW.seq ?_
     refine AW.seq ?_
     refine AW.region ?_
     refine AL.rp rfl rfl (rp_move rfl rfl) ?_
     refine AL.rp rfl rfl (rp_move rfl rfl) ?_
     (first | (refine AL.rp rfl rfl (rp_len_map Tryd.underlying56 rfl rfl (by assumption)) ?_) | (refine AL.rp rfl rfl (rp_len_own Tryd.underlying56 rfl rfl) ?_) | (refine AL.rp rfl rfl (rp_len_sl Tryd.underlying56 rfl rfl) ?_) | (refine AL.rp rfl rfl (rp_len_nil Tryd.underlying56 rfl rfl) ?_) | (refine AL.rp rfl rfl (rp_len_str Tryd.underlying56 rfl rfl) ?_))
     (first | (refine AL.rp rfl rfl (rp_lssT rfl rfl rfl (by first | assumption | omega | (dsimp only; omega))) ?_) | (refine AL.rp rfl rfl (rp_lssF rfl rfl rfl (by first | assumption | omega | (dsimp only; omega))) ?_) | (refine AL.rp rfl rfl (rp_lss rfl rfl rfl) ?_))
     refine AL.nil ?_
     try simp only [thenS, S.put]
     refine AW.condT rfl ?_
     refine AW.skip ?_
     try simp only [thenS]
     refine AW.seq ?_
     refine AW.block ?_
     refine AW.draw [(0, true), (1, true), (2, true), (3, true), (4, true), (5, true), (6, true), (10, true), (11, true), (12, true), (13, true), (14, true), (18, true), (19, true), (20, true), (21, true), (22, true), (26, true), (27, true), (28, true), (29, true), (30, true), (7, false), (8, true), (9, true), (15, false), (16, true), (17, true), (23, false), (24, true), (25, true), (31, false), (32, false), (33, false), (34, false)] (fun i => !([] : List Nat).contains i) 35 (by kernel_rfl) (by kernel_rfl) rfl (by kernel_rfl) ?_
     refine AD1.rp rfl rfl rfl (fun _ _ h => h) (rp_move rfl rfl) ?_
     refine AD1.rp rfl rfl rfl (fun _ _ h => h) (rp_adds rfl rfl rfl (by first | assumption | omega | (simp only [ByteArray.size_append]; omega))) ?_
     refine AD1.rp rfl rfl rfl (fun _ _ h => h) (rp_move rfl rfl) ?_
     refine AD1.rp rfl rfl rfl (fun _ _ h => h) (rp_move rfl rfl) ?_
     (first | (refine AD1.rp rfl rfl rfl (fun _ _ h => h) (rp_index_map Tryd.underlying56 inf64 rfl rfl rfl rfl (by assumption)) ?_) | (refine AD1.rp rfl rfl rfl (fun _ _ h => h) (rp_index_own Tryd.underlying56 inf64 rfl rfl rfl rfl (by first | assumption | omega)) ?_) | (refine AD1.rp rfl rfl rfl (fun _ _ h => h) (rd_index_sl Tryd.underlying56 inf64 rfl rfl rfl rfl (by assumption)) ?_) | (refine AD1.rp rfl rfl rfl (fun _ _ h => h) (rp_index_own Tryd.underlying56 inf64 rfl rfl rfl (by omega) (by omega)) ?_))
     (first | (refine AD1.rp rfl rfl rfl (fun _ _ h => h) (rp_field_ref Tryd.underlying64 rfl rfl rfl inf3 (by decide) rfl) ?_) | (refine AD1.rp rfl rfl rfl (fun _ _ h => h) (rp_field_ad Tryd.underlying64 rfl rfl rfl inf3 (by decide) rfl) ?_))
     (first | (refine AD1.rd rfl rfl rfl (fun _ _ h => h) (rd_load_ref Tryd.underlying3 rfl rfl rfl rfl rfl rfl) ?_) | (refine AD1.rd rfl rfl rfl (fun _ _ h => h) (rd_load_ad Tryd.underlying3 rfl rfl rfl rfl) ?_) | (refine AD1.rd rfl rfl rfl (fun _ _ h => h) (rd_load_map Tryd.underlying3 rfl rfl rfl rfl rfl rfl (by assumption)) ?_) | (refine AD1.rd rfl rfl rfl (fun _ _ h => h) (rd_load_flat Tryd.underlying3 rfl rfl rfl rfl rfl rfl (fun _ => rfl) (by assumption) rfl) ?_))
     refine AD1.rp rfl rfl rfl (fun _ _ h => h) (rp_move rfl rfl) ?_
     refine AD1.rp rfl rfl rfl (fun _ _ h => h) (rp_move rfl rfl) ?_
     (first | (refine AD1.rp rfl rfl rfl (fun _ _ h => h) (rp_index_map Tryd.underlying56 inf64 rfl rfl rfl rfl (by assumption)) ?_) | (refine AD1.rp rfl rfl rfl (fun _ _ h => h) (rp_index_own Tryd.underlying56 inf64 rfl rfl rfl rfl (by first | assumption | omega)) ?_) | (refine AD1.rp rfl rfl rfl (fun _ _ h => h) (rd_index_sl Tryd.underlying56 inf64 rfl rfl rfl rfl (by assumption)) ?_) | (refine AD1.rp rfl rfl rfl (fun _ _ h => h) (rp_index_own Tryd.underlying56 inf64 rfl rfl rfl (by omega) (by omega)) ?_))
     (first | (refine AD1.rp rfl rfl rfl (fun _ _ h => h) (rp_field_ref Tryd.underlying64 rfl rfl rfl inf3 (by decide) rfl) ?_) | (refine AD1.rp rfl rfl rfl (fun _ _ h => h) (rp_field_ad Tryd.underlying64 rfl rfl rfl inf3 (by decide) rfl) ?_))
     (first | (refine AD1.rd rfl rfl rfl (fun _ _ h => h) (rd_load_ref Tryd.underlying3 rfl rfl rfl rfl rfl rfl) ?_) | (refine AD1.rd rfl rfl rfl (fun _ _ h => h) (rd_load_ad Tryd.underlying3 rfl rfl rfl rfl) ?_) | (refine AD1.rd rfl rfl rfl (fun _ _ h => h) (rd_load_map Tryd.underlying3 rfl rfl rfl rfl rfl rfl (by assumption)) ?_) | (refine AD1.rd rfl rfl rfl (fun _ _ h => h) (rd_load_flat Tryd.underlying3 rfl rfl rfl rfl rfl rfl (fun _ => rfl) (by assumption) rfl) ?_))
     refine AD1.rp rfl rfl rfl (fun _ _ h => h) (rp_move rfl rfl) ?_
     refine AD1.rp rfl rfl rfl (fun _ _ h => h) (rp_move rfl rfl) ?_
     (first | (refine AD1.rp rfl rfl rfl (fun _ _ h => h) (rp_index_map Tryd.underlying56 inf64 rfl rfl rfl rfl (by assumption)) ?_) | (refine AD1.rp rfl rfl rfl (fun _ _ h => h) (rp_index_own Tryd.underlying56 inf64 rfl rfl rfl rfl (by first | assumption | omega)) ?_) | (refine AD1.rp rfl rfl rfl (fun _ _ h => h) (rd_index_sl Tryd.underlying56 inf64 rfl rfl rfl rfl (by assumption)) ?_) | (refine AD1.rp rfl rfl rfl (fun _ _ h => h) (rp_index_own Tryd.underlying56 inf64 rfl rfl rfl (by omega) (by omega)) ?_))
     (first | (refine AD1.rp rfl rfl rfl (fun _ _ h => h) (rp_field_ref Tryd.underlying64 rfl rfl rfl inf3 (by decide) rfl) ?_) | (refine AD1.rp rfl rfl rfl (fun _ _ h => h) (rp_field_ad Tryd.underlying64 rfl rfl rfl inf3 (by decide) rfl) ?_))
     (first | (refine AD1.rd rfl rfl rfl (fun _ _ h => h) (rd_load_ref Tryd.underlying3 rfl rfl rfl rfl rfl rfl) ?_) | (refine AD1.rd rfl rfl rfl (fun _ _ h => h) (rd_load_ad Tryd.underlying3 rfl rfl rfl rfl) ?_) | (refine AD1.rd rfl rfl rfl (fun _ _ h => h) (rd_load_map Tryd.underlying3 rfl rfl rfl rfl rfl rfl (by assumption)) ?_) | (refine AD1.rd rfl rfl rfl (fun _ _ h => h) (rd_load_flat Tryd.underlying3 rfl rfl rfl rfl rfl rfl (fun _ => rfl) (by assumption) rfl) ?_))
     refine AD1.rp rfl rfl rfl (fun _ _ h => h) (rp_move rfl rfl) ?_
     refine AD1.rp rfl rfl rfl (fun _ _ h => h) (rp_move rfl rfl) ?_
     (first | (refine AD1.rp rfl rfl rfl (fun _ _ h => h) (rp_index_map Tryd.underlying56 inf64 rfl rfl rfl rfl (by assumption)) ?_) | (refine AD1.rp rfl rfl rfl (fun _ _ h => h) (rp_index_own Tryd.underlying56 inf64 rfl rfl rfl rfl (by first | assumption | omega)) ?_) | (refine AD1.rp rfl rfl rfl (fun _ _ h => h) (rd_index_sl Tryd.underlying56 inf64 rfl rfl rfl rfl (by assumption)) ?_) | (refine AD1.rp rfl rfl rfl (fun _ _ h => h) (rp_index_own Tryd.underlying56 inf64 rfl rfl rfl (by omega) (by omega)) ?_))
     (first | (refine AD1.rp rfl rfl rfl (fun _ _ h => h) (rp_field_ref Tryd.underlying64 rfl rfl rfl inf3 (by decide) rfl) ?_) | (refine AD1.rp rfl rfl rfl (fun _ _ h => h) (rp_field_ad Tryd.underlying64 rfl rfl rfl inf3 (by decide) rfl) ?_))
     (first | (refine AD1.rd rfl rfl rfl (fun _ _ h => h) (rd_load_ref Tryd.underlying3 rfl rfl rfl rfl rfl rfl) ?_) | (refine AD1.rd rfl rfl rfl (fun _ _ h => h) (rd_load_ad Tryd.underlying3 rfl rfl rfl rfl) ?_) | (refine AD1.rd rfl rfl rfl (fun _ _ h => h) (rd_load_map Tryd.underlying3 rfl rfl rfl rfl rfl rfl (by assumption)) ?_) | (refine AD1.rd rfl rfl rfl (fun _ _ h => h) (rd_load_flat Tryd.underlying3 rfl rfl rfl rfl rfl rfl (fun _ => rfl) (by assumption) rfl) ?_))
     refine AD1.go ?_
     refine AD2.call (post := ?pc3) rfl rfl (sm_call (args := [_]) ?hc3 ⟨Tryd.func22, rfl, rfl, rfl, rfl⟩ rfl rfl rfl rfl) ?_
     case hc3 => exact hd1
     rintro _ rfl -
     try dsimp only
     refine AD2.rp rfl rfl rfl (fun _ _ h => h) (rp_adds rfl rfl rfl (by first | assumption | omega | (simp only [ByteArray.size_append]; omega))) ?_
     refine AD2.rp rfl rfl rfl (fun _ _ h => h) (rp_adds rfl rfl rfl (by first | assumption | omega | (simp only [ByteArray.size_append]; omega))) ?_
     refine AD2.call (post := ?pc4) rfl rfl (sm_call (args := [_]) ?hc4 ⟨Tryd.func22, rfl, rfl, rfl, rfl⟩ rfl rfl rfl rfl) ?_
     case hc4 => exact hd2
     rintro _ rfl -
     try dsimp only
     refine AD2.rp rfl rfl rfl (fun _ _ h => h) (rp_adds rfl rfl rfl (by first | assumption | omega | (simp only [ByteArray.size_append]; omega))) ?_
     refine AD2.rp rfl rfl rfl (fun _ _ h => h) (rp_adds rfl rfl rfl (by first | assumption | omega | (simp only [ByteArray.size_append]; omega))) ?_
     refine AD2.call (post := ?pc5) rfl rfl (sm_call (args := [_]) ?hc5 ⟨Tryd.func22, rfl, rfl, rfl, rfl⟩ rfl rfl rfl rfl) ?_
     case hc5 => exact hd3
     rintro _ rfl -
     try dsimp only
     refine AD2.rp rfl rfl rfl (fun _ _ h => h) (rp_adds rfl rfl rfl (by first | assumption | omega | (simp only [ByteArray.size_append]; omega))) ?_
     refine AD2.rp rfl rfl rfl (fun _ _ h => h) (rp_adds rfl rfl rfl (by first | assumption | omega | (simp only [ByteArray.size_append]; omega))) ?_
     refine AD2.call (post := ?pc6) rfl rfl (sm_call (args := [_]) ?hc6 ⟨Tryd.func22, rfl, rfl, rfl, rfl⟩ rfl rfl rfl rfl) ?_
     case hc6 => exact hd4
     rintro _ rfl -
     try dsimp only
     refine AD2.rp1 rfl rfl rfl (rp_adds rfl rfl rfl (by first | assumption | omega | (simp only [ByteArray.size_append]; omega))) ?_
     refine AD2.rp1 rfl rfl rfl (rp_adds rfl rfl rfl (by first | assumption | omega | (simp only [ByteArray.size_append]; omega))) ?_
     refine AD2.rp1 rfl rfl rfl (rp_assign rfl rfl) ?_
     refine AD2.nil ?_
     try simp only [thenS, S.put, S.newObj, setL, V.cs, List.length_cons, List.length_nil, List.take_succ_cons, List.take_zero, List.drop_succ_cons, List.drop_zero, List.drop_nil, List.nil_append, List.cons_append, List.append_nil, Nat.zero_add, Nat.reduceAdd, List.map_cons, List.map_nil, List.set_cons_zero, List.set_cons_succ]
     refine AW.region ?_
     refine AL.rp rfl rfl (rp_move rfl rfl) ?_
     refine AL.rp rfl rfl (rp_add rfl rfl rfl (by first | omega | (dsimp only; omega))) ?_
     refine AL.rp rfl rfl (rp_assign rfl rfl) ?_
     refine AL.nil ?_
     try simp only [thenS, S.put]
     refine ⟨_, ?_, ⟨i + 1, _, by omega, hsn2.symm, by omega, rfl⟩, ?_⟩
     ·exact (Less.of rfl (by repeat (first | exact trivial | refine ⟨⟨_, rfl, Wk.refl _⟩, ?_⟩ | refine ⟨⟨_, rfl, Wk.nil _ _⟩, ?_⟩ | refine ⟨⟨_, rfl, Wk.junk _⟩, ?_⟩)) (by repeat (first | exact trivial | refine ⟨rfl, ?_⟩)) rfl)
     ·simp [S.nat, fnd]; omega
    ·have hfull : x.arcs.take i = x.arcs := List.take_of_length_le (by omega)
     rw [hfull] at hY
     have hYe : papS W x = Y := by rw [hY]; rfl
     rw [hYe] at hsn
     refine AW.seq ?_
     refine AW.seq ?_
     refine AW.region ?_
     refine AL.rp rfl rfl (rp_move rfl rfl) ?_
     refine AL.rp rfl rfl (rp_move rfl rfl) ?_
     (first | (refine AL.rp rfl rfl (rp_len_map Tryd.underlying56 rfl rfl (by assumption)) ?_) | (refine AL.rp rfl rfl (rp_len_own Tryd.underlying56 rfl rfl) ?_) | (refine AL.rp rfl rfl (rp_len_sl Tryd.underlying56 rfl rfl) ?_) | (refine AL.rp rfl rfl (rp_len_nil Tryd.underlying56 rfl rfl) ?_) | (refine AL.rp rfl rfl (rp_len_str Tryd.underlying56 rfl rfl) ?_))
     (first | (refine AL.rp rfl rfl (rp_lssT rfl rfl rfl (by first | assumption | omega | (dsimp only; omega))) ?_) | (refine AL.rp rfl rfl (rp_lssF rfl rfl rfl (by first | assumption | omega | (dsimp only; omega))) ?_) | (refine AL.rp rfl rfl (rp_lss rfl rfl rfl) ?_))
     refine AL.nil ?_
     try simp only [thenS, S.put]
     refine AW.condF rfl ?_
     refine AW.exit ?_
     try simp only [thenS, inBlockS, ↓reduceIte, Nat.reduceEqDiff]
     refine AW.region ?_
     refine AL.rp rfl rfl (rp_move rfl rfl) ?_
     refine AL.rp rfl rfl (rp_add rfl rfl rfl (by first | omega | (dsimp only; omega))) ?_
     refine AL.rp rfl rfl (rp_assign rfl rfl) ?_
     refine AL.nil ?_
     try simp only [thenS, S.put]
     refine ⟨_, ?_, ⟨k + 1, Y, by omega, hsn.symm, by omega, rfl⟩, ?_⟩
     ·exact (Less.of rfl (by repeat (first | exact trivial | refine ⟨⟨_, rfl, Wk.refl _⟩, ?_⟩ | refine ⟨⟨_, rfl, Wk.nil _ _⟩, ?_⟩ | refine ⟨⟨_, rfl, Wk.junk _⟩, ?_⟩)) (by repeat (first | exact trivial | refine ⟨rfl, ?_⟩)) rfl)
     ·simp [S.nat, fnd]; omega
   ·obtain rfl : k = n := by omega
    rw [List.take_of_length_le (by omega)] at hW
    rw [← hW]
    refine AW.seq ?_
    refine AW.seq ?_
    refine AW.region ?_
    refine AL.rp rfl rfl (rp_move rfl rfl) ?_
    (first | (refine AL.rp rfl rfl (rp_field_ref Tryd.underlying36 rfl rfl rfl inf34 (by decide) rfl) ?_) | (refine AL.rp rfl rfl (rp_field_ad Tryd.underlying36 rfl rfl rfl inf34 (by decide) rfl) ?_))
    (first | (refine AL.rd rfl rfl (rd_load_ref Tryd.underlying34 rfl rfl rfl rfl rfl rfl) ?_) | (refine AL.rd rfl rfl (rd_load_ad Tryd.underlying34 rfl rfl rfl rfl) ?_) | (refine AL.rd rfl rfl (rd_load_map Tryd.underlying34 rfl rfl rfl rfl rfl rfl (by assumption)) ?_) | (refine AL.rd rfl rfl (rd_load_flat Tryd.underlying34 rfl rfl rfl rfl rfl rfl (fun _ => rfl) (by assumption) rfl) ?_))
    (first | (refine AL.rp rfl rfl (rp_len_map Tryd.underlying34 rfl rfl (by assumption)) ?_) | (refine AL.rp rfl rfl (rp_len_own Tryd.underlying34 rfl rfl) ?_) | (refine AL.rp rfl rfl (rp_len_sl Tryd.underlying34 rfl rfl) ?_) | (refine AL.rp rfl rfl (rp_len_nil Tryd.underlying34 rfl rfl) ?_) | (refine AL.rp rfl rfl (rp_len_str Tryd.underlying34 rfl rfl) ?_))
    (first | (refine AL.rp rfl rfl (rp_lssT rfl rfl rfl (by first | assumption | omega | (dsimp only; omega))) ?_) | (refine AL.rp rfl rfl (rp_lssF rfl rfl rfl (by first | assumption | omega | (dsimp only; omega))) ?_) | (refine AL.rp rfl rfl (rp_lss rfl rfl rfl) ?_))
    refine AL.nil ?_
    try simp only [thenS, S.put]
    refine AW.condF rfl ?_
    refine AW.exit ?_
    try simp only [thenS, inBlockS, ↓reduceIte, Nat.reduceEqDiff]
    refine AW.seq ?_
    refine AW.region ?_
    refine AL.rp rfl rfl (rp_move rfl rfl) ?_
    refine AL.rp rfl rfl (rp_assign rfl rfl) ?_
    refine AL.rp rfl rfl (rp_assign rfl rfl) ?_
    refine AL.nil ?_
    try simp only [thenS, S.put]
    refine AW.ret ?_
    exact ⟨[_, _], ⟨rfl, rfl, trivial⟩, rfl, by simp [tupOf, V.pure, V.has, V.hasL]⟩
 ·have hM : papM m = ⟨#[]⟩ := by unfold papM; rw [if_neg h0]
  rw [hM]
  obtain ⟨st, sts⟩ := m
  obtain ⟨e, he⟩ : ∃ e, machE ⟨st, sts⟩ = e := ⟨_, rfl⟩
  rw [he] at h0 ⊢
  refine Fn.intro (n := 93) ⟨Tryd.func17, rfl, rfl, rfl, rfl⟩ (by simp [V.pure, V.has, V.hasL]) (by simp) fun w0 out => ?_
  refine AW.seq ?_
  refine AW.region ?_
  refine AL.sm rfl (sm_box 1 rfl rfl rfl (by first | rfl | simp [S.clean, S.put, S.newObj, S.forget, V.has, V.hasL, junkIf, setL, V.cs, hasL_i, hasL_d, hasL_b, hasL_s, hasL_n, hasL_rep, hasL_flat, hasL_append, -List.map_set]) rfl) ?_
  refine AL.rp rfl rfl (rp_assign rfl rfl) ?_
  refine AL.rp rfl rfl (rp_assign rfl rfl) ?_
  refine AL.nil ?_
  try simp only [thenS, S.put, S.newObj, setL, V.cs, List.length_cons, List.length_nil, List.take_succ_cons, List.take_zero, List.drop_succ_cons, List.drop_zero, List.drop_nil, List.nil_append, List.cons_append, List.append_nil, Nat.zero_add, Nat.reduceAdd, List.map_cons, List.map_nil, List.set_cons_zero, List.set_cons_succ, enum]
  refine AW.seq ?_
  refine AW.region ?_
  (first | (refine AL.rd rfl rfl (rd_loads_ref Tryd.underlying36 rfl inf36 rfl rfl rfl rfl rfl rfl) ?_) | (refine AL.rd rfl rfl (rd_loads_ad Tryd.underlying36 rfl inf36 rfl rfl rfl rfl) ?_))
  refine AL.call (post := ?pc7) rfl (sm_call (args := [_]) ?hc7 ⟨Tryd.func32, rfl, rfl, rfl, rfl⟩ rfl rfl rfl rfl) ?_
  case hc7 => exact Fn.eqi (am_Fault ⟨st, sts⟩) he
  rintro _ rfl -
  try dsimp only
  refine AL.rp rfl rfl (rp_assign rfl rfl) ?_
  refine AL.nil ?_
  try simp only [thenS, S.put, S.newObj, setL, V.cs, List.length_cons, List.length_nil, List.take_succ_cons, List.take_zero, List.drop_succ_cons, List.drop_zero, List.drop_nil, List.nil_append, List.cons_append, List.append_nil, Nat.zero_add, Nat.reduceAdd, List.map_cons, List.map_nil, List.set_cons_zero, List.set_cons_succ]
  refine AW.seq ?_
  refine AW.seq ?_
  refine AW.region ?_
  refine AL.rp rfl rfl (rp_move rfl rfl) ?_
  (first | (refine AL.rp rfl rfl (rp_neqT rfl rfl rfl (by first | assumption | omega | (dsimp only; omega))) ?_) | (refine AL.rp rfl rfl (rp_neqF rfl rfl rfl (by first | assumption | omega | (dsimp only; omega))) ?_) | (refine AL.rp rfl rfl (rp_neq rfl rfl rfl) ?_))
  refine AL.nil ?_
  try simp only [thenS, S.put]
  refine AW.condT rfl ?_
  refine AW.seq ?_
  refine AW.region ?_
  refine AL.rp rfl rfl (rp_move rfl rfl) ?_
  refine AL.rp rfl rfl (rp_assign rfl rfl) ?_
  refine AL.rp rfl rfl (rp_assign rfl rfl) ?_
  refine AL.nil ?_
  try simp only [thenS, S.put]
  refine AW.ret ?_
  exact ⟨[_, _], ⟨rfl, rfl, trivial⟩, rfl, by simp [tupOf, V.pure, V.has, V.hasL]⟩
end Go.Proofs.YthflidjnlnmbiaaDoor
