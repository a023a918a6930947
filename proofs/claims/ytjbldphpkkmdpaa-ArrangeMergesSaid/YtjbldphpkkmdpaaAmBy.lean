/- The closure that arrange.by makes: a drawn region in which two blocks are laid in whatever order among two calls. -/
import Derived.Test.YtjbldphpkkmdpaaAmCmp
import Derived.Test.YtjbldphpkkmdpaaKeep
import Derived.Deep.QuietTactic
namespace Go.Proofs.Ytjbldphpkkmdpaa
open Go.RowKit
open Go.Sort (grow alloc_eq_grow grow_grow)
set_option linter.unusedSimpArgs false
set_option linter.unusedVariables false

section
variable {P : Program} {ops : Array Oper} {Q : Exit → Act → World → Prop} {md : Region.Mode} {S : World → Prop} {z : Nat}
def NxT (P : Program) (md : Region.Mode) (l : List Oper) (Q : Exit → Act → World → Prop) (S : World → Prop) (z : Nat) (n : Nat) (listed : Array Bool) (a : Act) (w : World) (i : Nat) (oi : Oper) : Prop :=
  ∀ K : Act → World → Prop, Hid (∀ a' w', (i ≠ z → S w') → anyThen P md l.toArray Q S z n (listed.setIfInBounds i true) a' w' → K a' w') →
      if Region.wanted oi (yielded l.toArray a.tmps) = true then Oper.wp P oi a w K Q else K (a.put oi.dst undef) w
theorem region_any_k {P : Program} {Q : Exit → Act → World → Prop} (S : World → Prop) (z : Nat) {id : Nat} {l : List Oper} {a : Act} {w : World} (n : Nat) (hn : l.length = n) (hm : P.follows .mixedOrders = true) (hS : S w.drew)
    (h : ∀ wd, wd = w.drew → S wd → anyThen P .any l.toArray Q S z n (Array.replicate n false) a wd) : (Code.region id l.toArray true).wp P Q a w :=
  region_any S z n hn hm hS (h _ rfl)
theorem any_br2 (i j : Nat) {l : List Oper} {oi oj : Oper} {n : Nat} {listed : Array Bool} {a : Act} {w : World} (hr : Region.ready md l.toArray listed = [i, j]) (hi : l[i]? = some oi) (hj : l[j]? = some oj)
    (h1 : NxT P md l Q S z n listed a w i oi) (h2 : NxT P md l Q S z n listed a w j oj) : anyThen P md l.toArray Q S z (n + 1) listed a w := by
  refine ⟨fun h0 => by rw [hr] at h0; exact absurd h0 (by simp), fun k hk => ?_⟩
  rw [hr] at hk
  simp only [List.mem_cons, List.not_mem_nil, or_false] at hk
  rcases hk with rfl | rfl
  · exact wpOp_step (by simpa using hi) fun K hK => h1 K fun a' w' hS hA => hK a' w' ⟨hS, hA⟩
  · exact wpOp_step (by simpa using hj) fun K hK => h2 K fun a' w' hS hA => hK a' w' ⟨hS, hA⟩
theorem any_br3 (i j k : Nat) {l : List Oper} {oi oj ok : Oper} {n : Nat} {listed : Array Bool} {a : Act} {w : World} (hr : Region.ready md l.toArray listed = [i, j, k]) (hi : l[i]? = some oi) (hj : l[j]? = some oj) (hk : l[k]? = some ok)
    (h1 : NxT P md l Q S z n listed a w i oi) (h2 : NxT P md l Q S z n listed a w j oj) (h3 : NxT P md l Q S z n listed a w k ok) : anyThen P md l.toArray Q S z (n + 1) listed a w := by
  refine ⟨fun h0 => by rw [hr] at h0; exact absurd h0 (by simp), fun x hx => ?_⟩
  rw [hr] at hx
  simp only [List.mem_cons, List.not_mem_nil, or_false] at hx
  rcases hx with rfl | rfl | rfl
  · exact wpOp_step (by simpa using hi) fun K hK => h1 K fun a' w' hS hA => hK a' w' ⟨hS, hA⟩
  · exact wpOp_step (by simpa using hj) fun K hK => h2 K fun a' w' hS hA => hK a' w' ⟨hS, hA⟩
  · exact wpOp_step (by simpa using hk) fun K hK => h3 K fun a' w' hS hA => hK a' w' ⟨hS, hA⟩
end
/-- PRINTED by gen/genby.py from here on. -/
theorem row4_al {w : World} {b : Nat} {l : List Int} (h : Row4 w b l) (o : Obj) : Row4 (w.alloc o) b l := fun k x hx => cell_al (h k x hx) o
theorem row4_new (w : World) (b : Nat) (k : Int × Int × Int × Int) (t : TypeId) (f : Nat × Nat) (hb : b = w.heap.size) : Row4 (w.alloc (.cells #[.int .i64 k.1, .int .i64 k.2.1, .int .i64 k.2.2.1, .int .i64 k.2.2.2] t f)) b (keyL k) := by
  subst hb
  intro j x hx
  have hb : (w.alloc (.cells #[.int .i64 k.1, .int .i64 k.2.1, .int .i64 k.2.2.1, .int .i64 k.2.2.2] t f)).heap[w.heap.size]? = some (.cells #[.int .i64 k.1, .int .i64 k.2.1, .int .i64 k.2.2.1, .int .i64 k.2.2.2] t f) := by
    show (w.heap.push _)[w.heap.size]? = _
    simp
  unfold keyL at hx
  simp only [World.cell?, hb, Option.isSome_none, Bool.false_eq_true, if_false]
  match j, hx with
  | 0, hx => simp at hx; subst hx; rfl
  | 1, hx => simp at hx; subst hx; rfl
  | 2, hx => simp at hx; subst hx; rfl
  | 3, hx => simp at hx; subst hx; rfl
  | j + 4, hx => simp at hx
theorem grow_ex (w : World) (A B os : Array Obj) (q n : Nat) : ∃ q' os', (grow ((grow (grow w A) B).drewN q) os).drewN n = grow (w.drewN q') os' :=
  ⟨q + n, A ++ B ++ os, by unfold grow World.drewN; simp [Nat.add_assoc, Array.append_assoc]⟩
/-- How the region of the two calls ends. -/
def ByQ (kf : FuncId) (bk b3 b4 : Nat) (va vb : Value) (ka kb : Int × Int × Int × Int) (w : World) : Exit → Act → World → Prop
  | .normal, a', w' => ∃ b6 b7, a' = { tmps := #[va, vb, .pointer (some ⟨bk, 0, none⟩), .pointer (some ⟨b3, 0, none⟩), .pointer (some ⟨b4, 0, none⟩), .int .i64 0, .pointer (some ⟨b6, 0, none⟩), .pointer (some ⟨b7, 0, none⟩), .func (.func kf) #[] #[], va, keyV ka, .func (.func kf) #[] #[], vb, keyV kb, undef, undef, undef], defers := [] } ∧ Row4 w' b6 (keyL ka) ∧ Row4 w' b7 (keyL kb) ∧ ∃ q os', w' = grow (w.drewN q) os'
  | _, _, _ => False
set_option maxHeartbeats 4000000 in
theorem by_at {kf : FuncId} {key : Ar → Int × Int × Int × Int} (hk : KeyAt Try.prog kf key) (ek : ∀ args w, (callFunc kf args).run Try.prog w = .ok (.enter kf args) w) (bk : Nat) (a b : Ar) (w : World) (hc : w.cell? ⟨bk, 0, none⟩ = some (.func (.func kf) #[] #[])) :
    Calls Try.prog 77 #[arcV a, arcV b, .pointer (some ⟨bk, 0, none⟩)] w fun e w' => e = .returned (.int .i64 (lx4 (key a) (key b))) ∧ ∃ q os', w' = grow (w.drewN q) os' := by
  have hb0 := blt hc
  have hka := fun W => hk a W
  have hkb := fun W => hk b W
  clear hk
  obtain ⟨ka, hka'⟩ : ∃ k, key a = k := ⟨_, rfl⟩
  obtain ⟨kb, hkb'⟩ : ∃ k, key b = k := ⟨_, rfl⟩
  rw [hka', hkb']
  rw [hka'] at hka
  rw [hkb'] at hkb
  clear hka' hkb'
  obtain ⟨ai, ao, aw, at'⟩ := a
  obtain ⟨bi, bo, bw, bt⟩ := b
  obtain ⟨k1, k2, k3, k4⟩ := ka
  obtain ⟨l1, l2, l3, l4⟩ := kb
  simp only [arcV, keyV] at hka hkb ⊢
  go_enter Try.func77, Try.ntmps77
  go_wp2_with fail
  refine wp_mono (Q := ByQ kf bk w.heap.size (w.heap.size + 1) (.agg #[.int .i64 ai, .int .i64 ao, .int .i64 aw, .int .i64 at']) (.agg #[.int .i64 bi, .int .i64 bo, .int .i64 bw, .int .i64 bt]) (k1, k2, k3, k4) (l1, l2, l3, l4) ((w.alloc (.cells #[.int .i64 ai, .int .i64 ao, .int .i64 aw, .int .i64 at'] 56 (0, 0))).alloc (.cells #[.int .i64 bi, .int .i64 bo, .int .i64 bw, .int .i64 bt] 56 (0, 0)))) ?_ ?_
  · have hA := row4_al (row4_new w _ (ai, ao, aw, at') 56 (0, 0) rfl) (.cells #[.int .i64 bi, .int .i64 bo, .int .i64 bw, .int .i64 bt] 56 (0, 0))
    have hB := row4_new (w.alloc (.cells #[.int .i64 ai, .int .i64 ao, .int .i64 aw, .int .i64 at'] 56 (0, 0))) (w.heap.size + 1) (bi, bo, bw, bt) 56 (0, 0) (by simp)
    refine region_any_k (fun w' => w'.cell? ⟨bk, 0, none⟩ = some (.func (.func kf) #[] #[]) ∧ w'.cell? ⟨w.heap.size, 0, none⟩ = some (.int .i64 ai) ∧ w'.cell? ⟨w.heap.size, 1, none⟩ = some (.int .i64 ao) ∧ w'.cell? ⟨w.heap.size, 2, none⟩ = some (.int .i64 aw) ∧ w'.cell? ⟨w.heap.size, 3, none⟩ = some (.int .i64 at') ∧ w'.cell? ⟨w.heap.size + 1, 0, none⟩ = some (.int .i64 bi) ∧ w'.cell? ⟨w.heap.size + 1, 1, none⟩ = some (.int .i64 bo) ∧ w'.cell? ⟨w.heap.size + 1, 2, none⟩ = some (.int .i64 bw) ∧ w'.cell? ⟨w.heap.size + 1, 3, none⟩ = some (.int .i64 bt)) 9 10 rfl (by kernel_rfl)
      ⟨cell_al (cell_al hc _) _, hA 0 _ rfl, hA 1 _ rfl, hA 2 _ rfl, hA 3 _ rfl, hB 0 _ rfl, hB 1 _ rfl, hB 2 _ rfl, hB 3 _ rfl⟩ (fun wd hwd hS => ?_)
    clear hA hB
    (refine any_take 0 (v := ?_) (by kernel_rfl) rfl rfl (by kernel_rfl) (by kernel_rfl) (by kernel_rfl) (fun _ _ _ h => h) (Or.inl ⟨by rfl, ?_⟩) (by assumption) ?_; rotate_left; (focus (intro w' hS'; (try dsimp only at hS'); go_split_ands; go_simp; try with_reducible rfl)); try simp only [Act.put, List.setIfInBounds_toArray, List.set_cons_zero, List.set_cons_succ])
    (refine any_take 1 (v := ?_) (by kernel_rfl) rfl rfl (by kernel_rfl) (by kernel_rfl) (by kernel_rfl) (fun _ _ _ h => h) (Or.inl ⟨by rfl, ?_⟩) (by assumption) ?_; rotate_left; (focus (intro w' hS'; (try dsimp only at hS'); go_split_ands; go_simp; try with_reducible rfl)); try simp only [Act.put, List.setIfInBounds_toArray, List.set_cons_zero, List.set_cons_succ])
    (refine any_take 3 (v := ?_) (by kernel_rfl) rfl rfl (by kernel_rfl) (by kernel_rfl) (by kernel_rfl) (fun _ _ _ h => h) (Or.inl ⟨by rfl, ?_⟩) (by assumption) ?_; rotate_left; (focus (intro w' hS'; (try dsimp only at hS'); go_split_ands; go_simp; try with_reducible rfl)); try simp only [Act.put, List.setIfInBounds_toArray, List.set_cons_zero, List.set_cons_succ])
    (refine any_take 4 (v := ?_) (by kernel_rfl) rfl rfl (by kernel_rfl) (by kernel_rfl) (by kernel_rfl) (fun _ _ _ h => h) (Or.inl ⟨by rfl, ?_⟩) (by assumption) ?_; rotate_left; (focus (intro w' hS'; (try dsimp only at hS'); go_split_ands; go_simp; try with_reducible rfl)); try simp only [Act.put, List.setIfInBounds_toArray, List.set_cons_zero, List.set_cons_succ])
    have HW := hS
    have HWD := Lib.hid hwd
    clear hwd
    refine any_br3 2 6 7 (by kernel_rfl) rfl rfl rfl (fun K hK => ?_) (fun K hK => ?_) (fun K hK => ?_)
    · rw [if_pos (by rfl)]
      go_wp2_with (go_at_fn kf; refine (hka _).mono ?_; rintro e w1 ⟨rfl, o1, o2, rfl⟩)
      refine any_hand hK (fun _ => ⟨cell_al (cell_al hS.1 _) _, cell_al (cell_al hS.2.1 _) _, cell_al (cell_al hS.2.2.1 _) _, cell_al (cell_al hS.2.2.2.1 _) _, cell_al (cell_al hS.2.2.2.2.1 _) _, cell_al (cell_al hS.2.2.2.2.2.1 _) _, cell_al (cell_al hS.2.2.2.2.2.2.1 _) _, cell_al (cell_al hS.2.2.2.2.2.2.2.1 _) _, cell_al (cell_al hS.2.2.2.2.2.2.2.2 _) _⟩) (fun hx => ?_)
      have hS2 := hx (by decide)
      clear hx hK K hS
      have hS := hS2
      clear hS2
      refine any_br3 5 6 7 (by kernel_rfl) rfl rfl rfl (fun K hK => ?_) (fun K hK => ?_) (fun K hK => ?_)
      · rw [if_pos (by rfl)]
        go_wp2_with (go_at_fn kf; refine (hkb _).mono ?_; rintro e w1 ⟨rfl, o1, o2, rfl⟩)
        refine any_hand hK (fun _ => ⟨cell_al (cell_al hS.1 _) _, cell_al (cell_al hS.2.1 _) _, cell_al (cell_al hS.2.2.1 _) _, cell_al (cell_al hS.2.2.2.1 _) _, cell_al (cell_al hS.2.2.2.2.1 _) _, cell_al (cell_al hS.2.2.2.2.2.1 _) _, cell_al (cell_al hS.2.2.2.2.2.2.1 _) _, cell_al (cell_al hS.2.2.2.2.2.2.2.1 _) _, cell_al (cell_al hS.2.2.2.2.2.2.2.2 _) _⟩) (fun hx => ?_)
        have hS2 := hx (by decide)
        clear hx hK K hS
        have hS := hS2
        clear hS2
        refine any_br2 6 7 (by kernel_rfl) rfl rfl (fun K hK => ?_) (fun K hK => ?_)
        · rw [if_pos (by rfl)]
          go_simp
          refine any_hand hK (fun _ => ⟨cell_al hS.1 _, cell_al hS.2.1 _, cell_al hS.2.2.1 _, cell_al hS.2.2.2.1 _, cell_al hS.2.2.2.2.1 _, cell_al hS.2.2.2.2.2.1 _, cell_al hS.2.2.2.2.2.2.1 _, cell_al hS.2.2.2.2.2.2.2.1 _, cell_al hS.2.2.2.2.2.2.2.2 _⟩) (fun hx => ?_)
          have hS2 := hx (by decide)
          clear hx hK K hS
          have hS := hS2
          clear hS2
          refine any_one 7 (by kernel_rfl) rfl (fun K hK => ?_)
          rw [if_pos (by rfl)]
          go_simp
          refine any_hand hK (fun _ => ⟨cell_al hS.1 _, cell_al hS.2.1 _, cell_al hS.2.2.1 _, cell_al hS.2.2.2.1 _, cell_al hS.2.2.2.2.1 _, cell_al hS.2.2.2.2.2.1 _, cell_al hS.2.2.2.2.2.2.1 _, cell_al hS.2.2.2.2.2.2.2.1 _, cell_al hS.2.2.2.2.2.2.2.2 _⟩) (fun hx => ?_)
          have hS2 := hx (by decide)
          clear hx hK K hS
          have hS := hS2
          clear hS2
          refine any_one 8 (by kernel_rfl) rfl (fun K hK => ?_)
          rw [if_pos (by rfl)]
          go_simp
          refine any_hand hK (fun _ => ⟨by repeat (first | exact HW.1 | refine cell_al ?_ _), by repeat (first | exact HW.2.1 | refine cell_al ?_ _), by repeat (first | exact HW.2.2.1 | refine cell_al ?_ _), by repeat (first | exact HW.2.2.2.1 | refine cell_al ?_ _), by repeat (first | exact HW.2.2.2.2.1 | refine cell_al ?_ _), by repeat (first | exact HW.2.2.2.2.2.1 | refine cell_al ?_ _), by repeat (first | exact HW.2.2.2.2.2.2.1 | refine cell_al ?_ _), by repeat (first | exact HW.2.2.2.2.2.2.2.1 | refine cell_al ?_ _), by repeat (first | exact HW.2.2.2.2.2.2.2.2 | refine cell_al ?_ _)⟩) (fun hx => ?_)
          clear hx hK K hS
          refine any_one 9 (by kernel_rfl) rfl (fun K hK => ?_)
          rw [if_pos (by rfl)]
          go_simp
          refine any_hand hK (fun h => absurd rfl h) (fun hx => ?_)
          clear hx hK K
          refine any_done (by kernel_rfl) ?_
          exact ⟨_, _, rfl, (by repeat (first | exact row4_new _ _ (k1, k2, k3, k4) _ _ (by simp) | refine row4_al ?_ _)), (by repeat (first | exact row4_new _ _ (l1, l2, l3, l4) _ _ (by simp) | refine row4_al ?_ _)), 1, _, (by rw [HWD.out]; (repeat rw [alloc_eq_grow]); (repeat rw [grow_grow]); rfl)⟩
        · rw [if_pos (by rfl)]
          go_simp
          refine any_hand hK (fun _ => ⟨cell_al hS.1 _, cell_al hS.2.1 _, cell_al hS.2.2.1 _, cell_al hS.2.2.2.1 _, cell_al hS.2.2.2.2.1 _, cell_al hS.2.2.2.2.2.1 _, cell_al hS.2.2.2.2.2.2.1 _, cell_al hS.2.2.2.2.2.2.2.1 _, cell_al hS.2.2.2.2.2.2.2.2 _⟩) (fun hx => ?_)
          have hS2 := hx (by decide)
          clear hx hK K hS
          have hS := hS2
          clear hS2
          refine any_one 6 (by kernel_rfl) rfl (fun K hK => ?_)
          rw [if_pos (by rfl)]
          go_simp
          refine any_hand hK (fun _ => ⟨cell_al hS.1 _, cell_al hS.2.1 _, cell_al hS.2.2.1 _, cell_al hS.2.2.2.1 _, cell_al hS.2.2.2.2.1 _, cell_al hS.2.2.2.2.2.1 _, cell_al hS.2.2.2.2.2.2.1 _, cell_al hS.2.2.2.2.2.2.2.1 _, cell_al hS.2.2.2.2.2.2.2.2 _⟩) (fun hx => ?_)
          have hS2 := hx (by decide)
          clear hx hK K hS
          have hS := hS2
          clear hS2
          refine any_one 8 (by kernel_rfl) rfl (fun K hK => ?_)
          rw [if_pos (by rfl)]
          go_simp
          refine any_hand hK (fun _ => ⟨by repeat (first | exact HW.1 | refine cell_al ?_ _), by repeat (first | exact HW.2.1 | refine cell_al ?_ _), by repeat (first | exact HW.2.2.1 | refine cell_al ?_ _), by repeat (first | exact HW.2.2.2.1 | refine cell_al ?_ _), by repeat (first | exact HW.2.2.2.2.1 | refine cell_al ?_ _), by repeat (first | exact HW.2.2.2.2.2.1 | refine cell_al ?_ _), by repeat (first | exact HW.2.2.2.2.2.2.1 | refine cell_al ?_ _), by repeat (first | exact HW.2.2.2.2.2.2.2.1 | refine cell_al ?_ _), by repeat (first | exact HW.2.2.2.2.2.2.2.2 | refine cell_al ?_ _)⟩) (fun hx => ?_)
          clear hx hK K hS
          refine any_one 9 (by kernel_rfl) rfl (fun K hK => ?_)
          rw [if_pos (by rfl)]
          go_simp
          refine any_hand hK (fun h => absurd rfl h) (fun hx => ?_)
          clear hx hK K
          refine any_done (by kernel_rfl) ?_
          exact ⟨_, _, rfl, (by repeat (first | exact row4_new _ _ (k1, k2, k3, k4) _ _ (by simp) | refine row4_al ?_ _)), (by repeat (first | exact row4_new _ _ (l1, l2, l3, l4) _ _ (by simp) | refine row4_al ?_ _)), 1, _, (by rw [HWD.out]; (repeat rw [alloc_eq_grow]); (repeat rw [grow_grow]); rfl)⟩
      · rw [if_pos (by rfl)]
        go_simp
        refine any_hand hK (fun _ => ⟨cell_al hS.1 _, cell_al hS.2.1 _, cell_al hS.2.2.1 _, cell_al hS.2.2.2.1 _, cell_al hS.2.2.2.2.1 _, cell_al hS.2.2.2.2.2.1 _, cell_al hS.2.2.2.2.2.2.1 _, cell_al hS.2.2.2.2.2.2.2.1 _, cell_al hS.2.2.2.2.2.2.2.2 _⟩) (fun hx => ?_)
        have hS2 := hx (by decide)
        clear hx hK K hS
        have hS := hS2
        clear hS2
        refine any_br2 5 7 (by kernel_rfl) rfl rfl (fun K hK => ?_) (fun K hK => ?_)
        · rw [if_pos (by rfl)]
          go_wp2_with (go_at_fn kf; refine (hkb _).mono ?_; rintro e w1 ⟨rfl, o1, o2, rfl⟩)
          refine any_hand hK (fun _ => ⟨cell_al (cell_al hS.1 _) _, cell_al (cell_al hS.2.1 _) _, cell_al (cell_al hS.2.2.1 _) _, cell_al (cell_al hS.2.2.2.1 _) _, cell_al (cell_al hS.2.2.2.2.1 _) _, cell_al (cell_al hS.2.2.2.2.2.1 _) _, cell_al (cell_al hS.2.2.2.2.2.2.1 _) _, cell_al (cell_al hS.2.2.2.2.2.2.2.1 _) _, cell_al (cell_al hS.2.2.2.2.2.2.2.2 _) _⟩) (fun hx => ?_)
          have hS2 := hx (by decide)
          clear hx hK K hS
          have hS := hS2
          clear hS2
          refine any_one 7 (by kernel_rfl) rfl (fun K hK => ?_)
          rw [if_pos (by rfl)]
          go_simp
          refine any_hand hK (fun _ => ⟨cell_al hS.1 _, cell_al hS.2.1 _, cell_al hS.2.2.1 _, cell_al hS.2.2.2.1 _, cell_al hS.2.2.2.2.1 _, cell_al hS.2.2.2.2.2.1 _, cell_al hS.2.2.2.2.2.2.1 _, cell_al hS.2.2.2.2.2.2.2.1 _, cell_al hS.2.2.2.2.2.2.2.2 _⟩) (fun hx => ?_)
          have hS2 := hx (by decide)
          clear hx hK K hS
          have hS := hS2
          clear hS2
          refine any_one 8 (by kernel_rfl) rfl (fun K hK => ?_)
          rw [if_pos (by rfl)]
          go_simp
          refine any_hand hK (fun _ => ⟨by repeat (first | exact HW.1 | refine cell_al ?_ _), by repeat (first | exact HW.2.1 | refine cell_al ?_ _), by repeat (first | exact HW.2.2.1 | refine cell_al ?_ _), by repeat (first | exact HW.2.2.2.1 | refine cell_al ?_ _), by repeat (first | exact HW.2.2.2.2.1 | refine cell_al ?_ _), by repeat (first | exact HW.2.2.2.2.2.1 | refine cell_al ?_ _), by repeat (first | exact HW.2.2.2.2.2.2.1 | refine cell_al ?_ _), by repeat (first | exact HW.2.2.2.2.2.2.2.1 | refine cell_al ?_ _), by repeat (first | exact HW.2.2.2.2.2.2.2.2 | refine cell_al ?_ _)⟩) (fun hx => ?_)
          clear hx hK K hS
          refine any_one 9 (by kernel_rfl) rfl (fun K hK => ?_)
          rw [if_pos (by rfl)]
          go_simp
          refine any_hand hK (fun h => absurd rfl h) (fun hx => ?_)
          clear hx hK K
          refine any_done (by kernel_rfl) ?_
          exact ⟨_, _, rfl, (by repeat (first | exact row4_new _ _ (k1, k2, k3, k4) _ _ (by simp) | refine row4_al ?_ _)), (by repeat (first | exact row4_new _ _ (l1, l2, l3, l4) _ _ (by simp) | refine row4_al ?_ _)), 1, _, (by rw [HWD.out]; (repeat rw [alloc_eq_grow]); (repeat rw [grow_grow]); rfl)⟩
        · rw [if_pos (by rfl)]
          go_simp
          refine any_hand hK (fun _ => ⟨cell_al hS.1 _, cell_al hS.2.1 _, cell_al hS.2.2.1 _, cell_al hS.2.2.2.1 _, cell_al hS.2.2.2.2.1 _, cell_al hS.2.2.2.2.2.1 _, cell_al hS.2.2.2.2.2.2.1 _, cell_al hS.2.2.2.2.2.2.2.1 _, cell_al hS.2.2.2.2.2.2.2.2 _⟩) (fun hx => ?_)
          have hS2 := hx (by decide)
          clear hx hK K hS
          have hS := hS2
          clear hS2
          refine any_one 5 (by kernel_rfl) rfl (fun K hK => ?_)
          rw [if_pos (by rfl)]
          go_wp2_with (go_at_fn kf; refine (hkb _).mono ?_; rintro e w1 ⟨rfl, o1, o2, rfl⟩)
          refine any_hand hK (fun _ => ⟨cell_al (cell_al hS.1 _) _, cell_al (cell_al hS.2.1 _) _, cell_al (cell_al hS.2.2.1 _) _, cell_al (cell_al hS.2.2.2.1 _) _, cell_al (cell_al hS.2.2.2.2.1 _) _, cell_al (cell_al hS.2.2.2.2.2.1 _) _, cell_al (cell_al hS.2.2.2.2.2.2.1 _) _, cell_al (cell_al hS.2.2.2.2.2.2.2.1 _) _, cell_al (cell_al hS.2.2.2.2.2.2.2.2 _) _⟩) (fun hx => ?_)
          have hS2 := hx (by decide)
          clear hx hK K hS
          have hS := hS2
          clear hS2
          refine any_one 8 (by kernel_rfl) rfl (fun K hK => ?_)
          rw [if_pos (by rfl)]
          go_simp
          refine any_hand hK (fun _ => ⟨by repeat (first | exact HW.1 | refine cell_al ?_ _), by repeat (first | exact HW.2.1 | refine cell_al ?_ _), by repeat (first | exact HW.2.2.1 | refine cell_al ?_ _), by repeat (first | exact HW.2.2.2.1 | refine cell_al ?_ _), by repeat (first | exact HW.2.2.2.2.1 | refine cell_al ?_ _), by repeat (first | exact HW.2.2.2.2.2.1 | refine cell_al ?_ _), by repeat (first | exact HW.2.2.2.2.2.2.1 | refine cell_al ?_ _), by repeat (first | exact HW.2.2.2.2.2.2.2.1 | refine cell_al ?_ _), by repeat (first | exact HW.2.2.2.2.2.2.2.2 | refine cell_al ?_ _)⟩) (fun hx => ?_)
          clear hx hK K hS
          refine any_one 9 (by kernel_rfl) rfl (fun K hK => ?_)
          rw [if_pos (by rfl)]
          go_simp
          refine any_hand hK (fun h => absurd rfl h) (fun hx => ?_)
          clear hx hK K
          refine any_done (by kernel_rfl) ?_
          exact ⟨_, _, rfl, (by repeat (first | exact row4_new _ _ (k1, k2, k3, k4) _ _ (by simp) | refine row4_al ?_ _)), (by repeat (first | exact row4_new _ _ (l1, l2, l3, l4) _ _ (by simp) | refine row4_al ?_ _)), 1, _, (by rw [HWD.out]; (repeat rw [alloc_eq_grow]); (repeat rw [grow_grow]); rfl)⟩
      · rw [if_pos (by rfl)]
        go_simp
        refine any_hand hK (fun _ => ⟨cell_al hS.1 _, cell_al hS.2.1 _, cell_al hS.2.2.1 _, cell_al hS.2.2.2.1 _, cell_al hS.2.2.2.2.1 _, cell_al hS.2.2.2.2.2.1 _, cell_al hS.2.2.2.2.2.2.1 _, cell_al hS.2.2.2.2.2.2.2.1 _, cell_al hS.2.2.2.2.2.2.2.2 _⟩) (fun hx => ?_)
        have hS2 := hx (by decide)
        clear hx hK K hS
        have hS := hS2
        clear hS2
        refine any_br2 5 6 (by kernel_rfl) rfl rfl (fun K hK => ?_) (fun K hK => ?_)
        · rw [if_pos (by rfl)]
          go_wp2_with (go_at_fn kf; refine (hkb _).mono ?_; rintro e w1 ⟨rfl, o1, o2, rfl⟩)
          refine any_hand hK (fun _ => ⟨cell_al (cell_al hS.1 _) _, cell_al (cell_al hS.2.1 _) _, cell_al (cell_al hS.2.2.1 _) _, cell_al (cell_al hS.2.2.2.1 _) _, cell_al (cell_al hS.2.2.2.2.1 _) _, cell_al (cell_al hS.2.2.2.2.2.1 _) _, cell_al (cell_al hS.2.2.2.2.2.2.1 _) _, cell_al (cell_al hS.2.2.2.2.2.2.2.1 _) _, cell_al (cell_al hS.2.2.2.2.2.2.2.2 _) _⟩) (fun hx => ?_)
          have hS2 := hx (by decide)
          clear hx hK K hS
          have hS := hS2
          clear hS2
          refine any_one 6 (by kernel_rfl) rfl (fun K hK => ?_)
          rw [if_pos (by rfl)]
          go_simp
          refine any_hand hK (fun _ => ⟨cell_al hS.1 _, cell_al hS.2.1 _, cell_al hS.2.2.1 _, cell_al hS.2.2.2.1 _, cell_al hS.2.2.2.2.1 _, cell_al hS.2.2.2.2.2.1 _, cell_al hS.2.2.2.2.2.2.1 _, cell_al hS.2.2.2.2.2.2.2.1 _, cell_al hS.2.2.2.2.2.2.2.2 _⟩) (fun hx => ?_)
          have hS2 := hx (by decide)
          clear hx hK K hS
          have hS := hS2
          clear hS2
          refine any_one 8 (by kernel_rfl) rfl (fun K hK => ?_)
          rw [if_pos (by rfl)]
          go_simp
          refine any_hand hK (fun _ => ⟨by repeat (first | exact HW.1 | refine cell_al ?_ _), by repeat (first | exact HW.2.1 | refine cell_al ?_ _), by repeat (first | exact HW.2.2.1 | refine cell_al ?_ _), by repeat (first | exact HW.2.2.2.1 | refine cell_al ?_ _), by repeat (first | exact HW.2.2.2.2.1 | refine cell_al ?_ _), by repeat (first | exact HW.2.2.2.2.2.1 | refine cell_al ?_ _), by repeat (first | exact HW.2.2.2.2.2.2.1 | refine cell_al ?_ _), by repeat (first | exact HW.2.2.2.2.2.2.2.1 | refine cell_al ?_ _), by repeat (first | exact HW.2.2.2.2.2.2.2.2 | refine cell_al ?_ _)⟩) (fun hx => ?_)
          clear hx hK K hS
          refine any_one 9 (by kernel_rfl) rfl (fun K hK => ?_)
          rw [if_pos (by rfl)]
          go_simp
          refine any_hand hK (fun h => absurd rfl h) (fun hx => ?_)
          clear hx hK K
          refine any_done (by kernel_rfl) ?_
          exact ⟨_, _, rfl, (by repeat (first | exact row4_new _ _ (k1, k2, k3, k4) _ _ (by simp) | refine row4_al ?_ _)), (by repeat (first | exact row4_new _ _ (l1, l2, l3, l4) _ _ (by simp) | refine row4_al ?_ _)), 1, _, (by rw [HWD.out]; (repeat rw [alloc_eq_grow]); (repeat rw [grow_grow]); rfl)⟩
        · rw [if_pos (by rfl)]
          go_simp
          refine any_hand hK (fun _ => ⟨cell_al hS.1 _, cell_al hS.2.1 _, cell_al hS.2.2.1 _, cell_al hS.2.2.2.1 _, cell_al hS.2.2.2.2.1 _, cell_al hS.2.2.2.2.2.1 _, cell_al hS.2.2.2.2.2.2.1 _, cell_al hS.2.2.2.2.2.2.2.1 _, cell_al hS.2.2.2.2.2.2.2.2 _⟩) (fun hx => ?_)
          have hS2 := hx (by decide)
          clear hx hK K hS
          have hS := hS2
          clear hS2
          refine any_one 5 (by kernel_rfl) rfl (fun K hK => ?_)
          rw [if_pos (by rfl)]
          go_wp2_with (go_at_fn kf; refine (hkb _).mono ?_; rintro e w1 ⟨rfl, o1, o2, rfl⟩)
          refine any_hand hK (fun _ => ⟨cell_al (cell_al hS.1 _) _, cell_al (cell_al hS.2.1 _) _, cell_al (cell_al hS.2.2.1 _) _, cell_al (cell_al hS.2.2.2.1 _) _, cell_al (cell_al hS.2.2.2.2.1 _) _, cell_al (cell_al hS.2.2.2.2.2.1 _) _, cell_al (cell_al hS.2.2.2.2.2.2.1 _) _, cell_al (cell_al hS.2.2.2.2.2.2.2.1 _) _, cell_al (cell_al hS.2.2.2.2.2.2.2.2 _) _⟩) (fun hx => ?_)
          have hS2 := hx (by decide)
          clear hx hK K hS
          have hS := hS2
          clear hS2
          refine any_one 8 (by kernel_rfl) rfl (fun K hK => ?_)
          rw [if_pos (by rfl)]
          go_simp
          refine any_hand hK (fun _ => ⟨by repeat (first | exact HW.1 | refine cell_al ?_ _), by repeat (first | exact HW.2.1 | refine cell_al ?_ _), by repeat (first | exact HW.2.2.1 | refine cell_al ?_ _), by repeat (first | exact HW.2.2.2.1 | refine cell_al ?_ _), by repeat (first | exact HW.2.2.2.2.1 | refine cell_al ?_ _), by repeat (first | exact HW.2.2.2.2.2.1 | refine cell_al ?_ _), by repeat (first | exact HW.2.2.2.2.2.2.1 | refine cell_al ?_ _), by repeat (first | exact HW.2.2.2.2.2.2.2.1 | refine cell_al ?_ _), by repeat (first | exact HW.2.2.2.2.2.2.2.2 | refine cell_al ?_ _)⟩) (fun hx => ?_)
          clear hx hK K hS
          refine any_one 9 (by kernel_rfl) rfl (fun K hK => ?_)
          rw [if_pos (by rfl)]
          go_simp
          refine any_hand hK (fun h => absurd rfl h) (fun hx => ?_)
          clear hx hK K
          refine any_done (by kernel_rfl) ?_
          exact ⟨_, _, rfl, (by repeat (first | exact row4_new _ _ (k1, k2, k3, k4) _ _ (by simp) | refine row4_al ?_ _)), (by repeat (first | exact row4_new _ _ (l1, l2, l3, l4) _ _ (by simp) | refine row4_al ?_ _)), 1, _, (by rw [HWD.out]; (repeat rw [alloc_eq_grow]); (repeat rw [grow_grow]); rfl)⟩
    · rw [if_pos (by rfl)]
      go_simp
      refine any_hand hK (fun _ => ⟨cell_al hS.1 _, cell_al hS.2.1 _, cell_al hS.2.2.1 _, cell_al hS.2.2.2.1 _, cell_al hS.2.2.2.2.1 _, cell_al hS.2.2.2.2.2.1 _, cell_al hS.2.2.2.2.2.2.1 _, cell_al hS.2.2.2.2.2.2.2.1 _, cell_al hS.2.2.2.2.2.2.2.2 _⟩) (fun hx => ?_)
      have hS2 := hx (by decide)
      clear hx hK K hS
      have hS := hS2
      clear hS2
      refine any_br2 2 7 (by kernel_rfl) rfl rfl (fun K hK => ?_) (fun K hK => ?_)
      · rw [if_pos (by rfl)]
        go_wp2_with (go_at_fn kf; refine (hka _).mono ?_; rintro e w1 ⟨rfl, o1, o2, rfl⟩)
        refine any_hand hK (fun _ => ⟨cell_al (cell_al hS.1 _) _, cell_al (cell_al hS.2.1 _) _, cell_al (cell_al hS.2.2.1 _) _, cell_al (cell_al hS.2.2.2.1 _) _, cell_al (cell_al hS.2.2.2.2.1 _) _, cell_al (cell_al hS.2.2.2.2.2.1 _) _, cell_al (cell_al hS.2.2.2.2.2.2.1 _) _, cell_al (cell_al hS.2.2.2.2.2.2.2.1 _) _, cell_al (cell_al hS.2.2.2.2.2.2.2.2 _) _⟩) (fun hx => ?_)
        have hS2 := hx (by decide)
        clear hx hK K hS
        have hS := hS2
        clear hS2
        refine any_br2 5 7 (by kernel_rfl) rfl rfl (fun K hK => ?_) (fun K hK => ?_)
        · rw [if_pos (by rfl)]
          go_wp2_with (go_at_fn kf; refine (hkb _).mono ?_; rintro e w1 ⟨rfl, o1, o2, rfl⟩)
          refine any_hand hK (fun _ => ⟨cell_al (cell_al hS.1 _) _, cell_al (cell_al hS.2.1 _) _, cell_al (cell_al hS.2.2.1 _) _, cell_al (cell_al hS.2.2.2.1 _) _, cell_al (cell_al hS.2.2.2.2.1 _) _, cell_al (cell_al hS.2.2.2.2.2.1 _) _, cell_al (cell_al hS.2.2.2.2.2.2.1 _) _, cell_al (cell_al hS.2.2.2.2.2.2.2.1 _) _, cell_al (cell_al hS.2.2.2.2.2.2.2.2 _) _⟩) (fun hx => ?_)
          have hS2 := hx (by decide)
          clear hx hK K hS
          have hS := hS2
          clear hS2
          refine any_one 7 (by kernel_rfl) rfl (fun K hK => ?_)
          rw [if_pos (by rfl)]
          go_simp
          refine any_hand hK (fun _ => ⟨cell_al hS.1 _, cell_al hS.2.1 _, cell_al hS.2.2.1 _, cell_al hS.2.2.2.1 _, cell_al hS.2.2.2.2.1 _, cell_al hS.2.2.2.2.2.1 _, cell_al hS.2.2.2.2.2.2.1 _, cell_al hS.2.2.2.2.2.2.2.1 _, cell_al hS.2.2.2.2.2.2.2.2 _⟩) (fun hx => ?_)
          have hS2 := hx (by decide)
          clear hx hK K hS
          have hS := hS2
          clear hS2
          refine any_one 8 (by kernel_rfl) rfl (fun K hK => ?_)
          rw [if_pos (by rfl)]
          go_simp
          refine any_hand hK (fun _ => ⟨by repeat (first | exact HW.1 | refine cell_al ?_ _), by repeat (first | exact HW.2.1 | refine cell_al ?_ _), by repeat (first | exact HW.2.2.1 | refine cell_al ?_ _), by repeat (first | exact HW.2.2.2.1 | refine cell_al ?_ _), by repeat (first | exact HW.2.2.2.2.1 | refine cell_al ?_ _), by repeat (first | exact HW.2.2.2.2.2.1 | refine cell_al ?_ _), by repeat (first | exact HW.2.2.2.2.2.2.1 | refine cell_al ?_ _), by repeat (first | exact HW.2.2.2.2.2.2.2.1 | refine cell_al ?_ _), by repeat (first | exact HW.2.2.2.2.2.2.2.2 | refine cell_al ?_ _)⟩) (fun hx => ?_)
          clear hx hK K hS
          refine any_one 9 (by kernel_rfl) rfl (fun K hK => ?_)
          rw [if_pos (by rfl)]
          go_simp
          refine any_hand hK (fun h => absurd rfl h) (fun hx => ?_)
          clear hx hK K
          refine any_done (by kernel_rfl) ?_
          exact ⟨_, _, rfl, (by repeat (first | exact row4_new _ _ (k1, k2, k3, k4) _ _ (by simp) | refine row4_al ?_ _)), (by repeat (first | exact row4_new _ _ (l1, l2, l3, l4) _ _ (by simp) | refine row4_al ?_ _)), 1, _, (by rw [HWD.out]; (repeat rw [alloc_eq_grow]); (repeat rw [grow_grow]); rfl)⟩
        · rw [if_pos (by rfl)]
          go_simp
          refine any_hand hK (fun _ => ⟨cell_al hS.1 _, cell_al hS.2.1 _, cell_al hS.2.2.1 _, cell_al hS.2.2.2.1 _, cell_al hS.2.2.2.2.1 _, cell_al hS.2.2.2.2.2.1 _, cell_al hS.2.2.2.2.2.2.1 _, cell_al hS.2.2.2.2.2.2.2.1 _, cell_al hS.2.2.2.2.2.2.2.2 _⟩) (fun hx => ?_)
          have hS2 := hx (by decide)
          clear hx hK K hS
          have hS := hS2
          clear hS2
          refine any_one 5 (by kernel_rfl) rfl (fun K hK => ?_)
          rw [if_pos (by rfl)]
          go_wp2_with (go_at_fn kf; refine (hkb _).mono ?_; rintro e w1 ⟨rfl, o1, o2, rfl⟩)
          refine any_hand hK (fun _ => ⟨cell_al (cell_al hS.1 _) _, cell_al (cell_al hS.2.1 _) _, cell_al (cell_al hS.2.2.1 _) _, cell_al (cell_al hS.2.2.2.1 _) _, cell_al (cell_al hS.2.2.2.2.1 _) _, cell_al (cell_al hS.2.2.2.2.2.1 _) _, cell_al (cell_al hS.2.2.2.2.2.2.1 _) _, cell_al (cell_al hS.2.2.2.2.2.2.2.1 _) _, cell_al (cell_al hS.2.2.2.2.2.2.2.2 _) _⟩) (fun hx => ?_)
          have hS2 := hx (by decide)
          clear hx hK K hS
          have hS := hS2
          clear hS2
          refine any_one 8 (by kernel_rfl) rfl (fun K hK => ?_)
          rw [if_pos (by rfl)]
          go_simp
          refine any_hand hK (fun _ => ⟨by repeat (first | exact HW.1 | refine cell_al ?_ _), by repeat (first | exact HW.2.1 | refine cell_al ?_ _), by repeat (first | exact HW.2.2.1 | refine cell_al ?_ _), by repeat (first | exact HW.2.2.2.1 | refine cell_al ?_ _), by repeat (first | exact HW.2.2.2.2.1 | refine cell_al ?_ _), by repeat (first | exact HW.2.2.2.2.2.1 | refine cell_al ?_ _), by repeat (first | exact HW.2.2.2.2.2.2.1 | refine cell_al ?_ _), by repeat (first | exact HW.2.2.2.2.2.2.2.1 | refine cell_al ?_ _), by repeat (first | exact HW.2.2.2.2.2.2.2.2 | refine cell_al ?_ _)⟩) (fun hx => ?_)
          clear hx hK K hS
          refine any_one 9 (by kernel_rfl) rfl (fun K hK => ?_)
          rw [if_pos (by rfl)]
          go_simp
          refine any_hand hK (fun h => absurd rfl h) (fun hx => ?_)
          clear hx hK K
          refine any_done (by kernel_rfl) ?_
          exact ⟨_, _, rfl, (by repeat (first | exact row4_new _ _ (k1, k2, k3, k4) _ _ (by simp) | refine row4_al ?_ _)), (by repeat (first | exact row4_new _ _ (l1, l2, l3, l4) _ _ (by simp) | refine row4_al ?_ _)), 1, _, (by rw [HWD.out]; (repeat rw [alloc_eq_grow]); (repeat rw [grow_grow]); rfl)⟩
      · rw [if_pos (by rfl)]
        go_simp
        refine any_hand hK (fun _ => ⟨cell_al hS.1 _, cell_al hS.2.1 _, cell_al hS.2.2.1 _, cell_al hS.2.2.2.1 _, cell_al hS.2.2.2.2.1 _, cell_al hS.2.2.2.2.2.1 _, cell_al hS.2.2.2.2.2.2.1 _, cell_al hS.2.2.2.2.2.2.2.1 _, cell_al hS.2.2.2.2.2.2.2.2 _⟩) (fun hx => ?_)
        have hS2 := hx (by decide)
        clear hx hK K hS
        have hS := hS2
        clear hS2
        refine any_one 2 (by kernel_rfl) rfl (fun K hK => ?_)
        rw [if_pos (by rfl)]
        go_wp2_with (go_at_fn kf; refine (hka _).mono ?_; rintro e w1 ⟨rfl, o1, o2, rfl⟩)
        refine any_hand hK (fun _ => ⟨cell_al (cell_al hS.1 _) _, cell_al (cell_al hS.2.1 _) _, cell_al (cell_al hS.2.2.1 _) _, cell_al (cell_al hS.2.2.2.1 _) _, cell_al (cell_al hS.2.2.2.2.1 _) _, cell_al (cell_al hS.2.2.2.2.2.1 _) _, cell_al (cell_al hS.2.2.2.2.2.2.1 _) _, cell_al (cell_al hS.2.2.2.2.2.2.2.1 _) _, cell_al (cell_al hS.2.2.2.2.2.2.2.2 _) _⟩) (fun hx => ?_)
        have hS2 := hx (by decide)
        clear hx hK K hS
        have hS := hS2
        clear hS2
        refine any_one 5 (by kernel_rfl) rfl (fun K hK => ?_)
        rw [if_pos (by rfl)]
        go_wp2_with (go_at_fn kf; refine (hkb _).mono ?_; rintro e w1 ⟨rfl, o1, o2, rfl⟩)
        refine any_hand hK (fun _ => ⟨cell_al (cell_al hS.1 _) _, cell_al (cell_al hS.2.1 _) _, cell_al (cell_al hS.2.2.1 _) _, cell_al (cell_al hS.2.2.2.1 _) _, cell_al (cell_al hS.2.2.2.2.1 _) _, cell_al (cell_al hS.2.2.2.2.2.1 _) _, cell_al (cell_al hS.2.2.2.2.2.2.1 _) _, cell_al (cell_al hS.2.2.2.2.2.2.2.1 _) _, cell_al (cell_al hS.2.2.2.2.2.2.2.2 _) _⟩) (fun hx => ?_)
        have hS2 := hx (by decide)
        clear hx hK K hS
        have hS := hS2
        clear hS2
        refine any_one 8 (by kernel_rfl) rfl (fun K hK => ?_)
        rw [if_pos (by rfl)]
        go_simp
        refine any_hand hK (fun _ => ⟨by repeat (first | exact HW.1 | refine cell_al ?_ _), by repeat (first | exact HW.2.1 | refine cell_al ?_ _), by repeat (first | exact HW.2.2.1 | refine cell_al ?_ _), by repeat (first | exact HW.2.2.2.1 | refine cell_al ?_ _), by repeat (first | exact HW.2.2.2.2.1 | refine cell_al ?_ _), by repeat (first | exact HW.2.2.2.2.2.1 | refine cell_al ?_ _), by repeat (first | exact HW.2.2.2.2.2.2.1 | refine cell_al ?_ _), by repeat (first | exact HW.2.2.2.2.2.2.2.1 | refine cell_al ?_ _), by repeat (first | exact HW.2.2.2.2.2.2.2.2 | refine cell_al ?_ _)⟩) (fun hx => ?_)
        clear hx hK K hS
        refine any_one 9 (by kernel_rfl) rfl (fun K hK => ?_)
        rw [if_pos (by rfl)]
        go_simp
        refine any_hand hK (fun h => absurd rfl h) (fun hx => ?_)
        clear hx hK K
        refine any_done (by kernel_rfl) ?_
        exact ⟨_, _, rfl, (by repeat (first | exact row4_new _ _ (k1, k2, k3, k4) _ _ (by simp) | refine row4_al ?_ _)), (by repeat (first | exact row4_new _ _ (l1, l2, l3, l4) _ _ (by simp) | refine row4_al ?_ _)), 1, _, (by rw [HWD.out]; (repeat rw [alloc_eq_grow]); (repeat rw [grow_grow]); rfl)⟩
    · rw [if_pos (by rfl)]
      go_simp
      refine any_hand hK (fun _ => ⟨cell_al hS.1 _, cell_al hS.2.1 _, cell_al hS.2.2.1 _, cell_al hS.2.2.2.1 _, cell_al hS.2.2.2.2.1 _, cell_al hS.2.2.2.2.2.1 _, cell_al hS.2.2.2.2.2.2.1 _, cell_al hS.2.2.2.2.2.2.2.1 _, cell_al hS.2.2.2.2.2.2.2.2 _⟩) (fun hx => ?_)
      have hS2 := hx (by decide)
      clear hx hK K hS
      have hS := hS2
      clear hS2
      refine any_br2 2 6 (by kernel_rfl) rfl rfl (fun K hK => ?_) (fun K hK => ?_)
      · rw [if_pos (by rfl)]
        go_wp2_with (go_at_fn kf; refine (hka _).mono ?_; rintro e w1 ⟨rfl, o1, o2, rfl⟩)
        refine any_hand hK (fun _ => ⟨cell_al (cell_al hS.1 _) _, cell_al (cell_al hS.2.1 _) _, cell_al (cell_al hS.2.2.1 _) _, cell_al (cell_al hS.2.2.2.1 _) _, cell_al (cell_al hS.2.2.2.2.1 _) _, cell_al (cell_al hS.2.2.2.2.2.1 _) _, cell_al (cell_al hS.2.2.2.2.2.2.1 _) _, cell_al (cell_al hS.2.2.2.2.2.2.2.1 _) _, cell_al (cell_al hS.2.2.2.2.2.2.2.2 _) _⟩) (fun hx => ?_)
        have hS2 := hx (by decide)
        clear hx hK K hS
        have hS := hS2
        clear hS2
        refine any_br2 5 6 (by kernel_rfl) rfl rfl (fun K hK => ?_) (fun K hK => ?_)
        · rw [if_pos (by rfl)]
          go_wp2_with (go_at_fn kf; refine (hkb _).mono ?_; rintro e w1 ⟨rfl, o1, o2, rfl⟩)
          refine any_hand hK (fun _ => ⟨cell_al (cell_al hS.1 _) _, cell_al (cell_al hS.2.1 _) _, cell_al (cell_al hS.2.2.1 _) _, cell_al (cell_al hS.2.2.2.1 _) _, cell_al (cell_al hS.2.2.2.2.1 _) _, cell_al (cell_al hS.2.2.2.2.2.1 _) _, cell_al (cell_al hS.2.2.2.2.2.2.1 _) _, cell_al (cell_al hS.2.2.2.2.2.2.2.1 _) _, cell_al (cell_al hS.2.2.2.2.2.2.2.2 _) _⟩) (fun hx => ?_)
          have hS2 := hx (by decide)
          clear hx hK K hS
          have hS := hS2
          clear hS2
          refine any_one 6 (by kernel_rfl) rfl (fun K hK => ?_)
          rw [if_pos (by rfl)]
          go_simp
          refine any_hand hK (fun _ => ⟨cell_al hS.1 _, cell_al hS.2.1 _, cell_al hS.2.2.1 _, cell_al hS.2.2.2.1 _, cell_al hS.2.2.2.2.1 _, cell_al hS.2.2.2.2.2.1 _, cell_al hS.2.2.2.2.2.2.1 _, cell_al hS.2.2.2.2.2.2.2.1 _, cell_al hS.2.2.2.2.2.2.2.2 _⟩) (fun hx => ?_)
          have hS2 := hx (by decide)
          clear hx hK K hS
          have hS := hS2
          clear hS2
          refine any_one 8 (by kernel_rfl) rfl (fun K hK => ?_)
          rw [if_pos (by rfl)]
          go_simp
          refine any_hand hK (fun _ => ⟨by repeat (first | exact HW.1 | refine cell_al ?_ _), by repeat (first | exact HW.2.1 | refine cell_al ?_ _), by repeat (first | exact HW.2.2.1 | refine cell_al ?_ _), by repeat (first | exact HW.2.2.2.1 | refine cell_al ?_ _), by repeat (first | exact HW.2.2.2.2.1 | refine cell_al ?_ _), by repeat (first | exact HW.2.2.2.2.2.1 | refine cell_al ?_ _), by repeat (first | exact HW.2.2.2.2.2.2.1 | refine cell_al ?_ _), by repeat (first | exact HW.2.2.2.2.2.2.2.1 | refine cell_al ?_ _), by repeat (first | exact HW.2.2.2.2.2.2.2.2 | refine cell_al ?_ _)⟩) (fun hx => ?_)
          clear hx hK K hS
          refine any_one 9 (by kernel_rfl) rfl (fun K hK => ?_)
          rw [if_pos (by rfl)]
          go_simp
          refine any_hand hK (fun h => absurd rfl h) (fun hx => ?_)
          clear hx hK K
          refine any_done (by kernel_rfl) ?_
          exact ⟨_, _, rfl, (by repeat (first | exact row4_new _ _ (k1, k2, k3, k4) _ _ (by simp) | refine row4_al ?_ _)), (by repeat (first | exact row4_new _ _ (l1, l2, l3, l4) _ _ (by simp) | refine row4_al ?_ _)), 1, _, (by rw [HWD.out]; (repeat rw [alloc_eq_grow]); (repeat rw [grow_grow]); rfl)⟩
        · rw [if_pos (by rfl)]
          go_simp
          refine any_hand hK (fun _ => ⟨cell_al hS.1 _, cell_al hS.2.1 _, cell_al hS.2.2.1 _, cell_al hS.2.2.2.1 _, cell_al hS.2.2.2.2.1 _, cell_al hS.2.2.2.2.2.1 _, cell_al hS.2.2.2.2.2.2.1 _, cell_al hS.2.2.2.2.2.2.2.1 _, cell_al hS.2.2.2.2.2.2.2.2 _⟩) (fun hx => ?_)
          have hS2 := hx (by decide)
          clear hx hK K hS
          have hS := hS2
          clear hS2
          refine any_one 5 (by kernel_rfl) rfl (fun K hK => ?_)
          rw [if_pos (by rfl)]
          go_wp2_with (go_at_fn kf; refine (hkb _).mono ?_; rintro e w1 ⟨rfl, o1, o2, rfl⟩)
          refine any_hand hK (fun _ => ⟨cell_al (cell_al hS.1 _) _, cell_al (cell_al hS.2.1 _) _, cell_al (cell_al hS.2.2.1 _) _, cell_al (cell_al hS.2.2.2.1 _) _, cell_al (cell_al hS.2.2.2.2.1 _) _, cell_al (cell_al hS.2.2.2.2.2.1 _) _, cell_al (cell_al hS.2.2.2.2.2.2.1 _) _, cell_al (cell_al hS.2.2.2.2.2.2.2.1 _) _, cell_al (cell_al hS.2.2.2.2.2.2.2.2 _) _⟩) (fun hx => ?_)
          have hS2 := hx (by decide)
          clear hx hK K hS
          have hS := hS2
          clear hS2
          refine any_one 8 (by kernel_rfl) rfl (fun K hK => ?_)
          rw [if_pos (by rfl)]
          go_simp
          refine any_hand hK (fun _ => ⟨by repeat (first | exact HW.1 | refine cell_al ?_ _), by repeat (first | exact HW.2.1 | refine cell_al ?_ _), by repeat (first | exact HW.2.2.1 | refine cell_al ?_ _), by repeat (first | exact HW.2.2.2.1 | refine cell_al ?_ _), by repeat (first | exact HW.2.2.2.2.1 | refine cell_al ?_ _), by repeat (first | exact HW.2.2.2.2.2.1 | refine cell_al ?_ _), by repeat (first | exact HW.2.2.2.2.2.2.1 | refine cell_al ?_ _), by repeat (first | exact HW.2.2.2.2.2.2.2.1 | refine cell_al ?_ _), by repeat (first | exact HW.2.2.2.2.2.2.2.2 | refine cell_al ?_ _)⟩) (fun hx => ?_)
          clear hx hK K hS
          refine any_one 9 (by kernel_rfl) rfl (fun K hK => ?_)
          rw [if_pos (by rfl)]
          go_simp
          refine any_hand hK (fun h => absurd rfl h) (fun hx => ?_)
          clear hx hK K
          refine any_done (by kernel_rfl) ?_
          exact ⟨_, _, rfl, (by repeat (first | exact row4_new _ _ (k1, k2, k3, k4) _ _ (by simp) | refine row4_al ?_ _)), (by repeat (first | exact row4_new _ _ (l1, l2, l3, l4) _ _ (by simp) | refine row4_al ?_ _)), 1, _, (by rw [HWD.out]; (repeat rw [alloc_eq_grow]); (repeat rw [grow_grow]); rfl)⟩
      · rw [if_pos (by rfl)]
        go_simp
        refine any_hand hK (fun _ => ⟨cell_al hS.1 _, cell_al hS.2.1 _, cell_al hS.2.2.1 _, cell_al hS.2.2.2.1 _, cell_al hS.2.2.2.2.1 _, cell_al hS.2.2.2.2.2.1 _, cell_al hS.2.2.2.2.2.2.1 _, cell_al hS.2.2.2.2.2.2.2.1 _, cell_al hS.2.2.2.2.2.2.2.2 _⟩) (fun hx => ?_)
        have hS2 := hx (by decide)
        clear hx hK K hS
        have hS := hS2
        clear hS2
        refine any_one 2 (by kernel_rfl) rfl (fun K hK => ?_)
        rw [if_pos (by rfl)]
        go_wp2_with (go_at_fn kf; refine (hka _).mono ?_; rintro e w1 ⟨rfl, o1, o2, rfl⟩)
        refine any_hand hK (fun _ => ⟨cell_al (cell_al hS.1 _) _, cell_al (cell_al hS.2.1 _) _, cell_al (cell_al hS.2.2.1 _) _, cell_al (cell_al hS.2.2.2.1 _) _, cell_al (cell_al hS.2.2.2.2.1 _) _, cell_al (cell_al hS.2.2.2.2.2.1 _) _, cell_al (cell_al hS.2.2.2.2.2.2.1 _) _, cell_al (cell_al hS.2.2.2.2.2.2.2.1 _) _, cell_al (cell_al hS.2.2.2.2.2.2.2.2 _) _⟩) (fun hx => ?_)
        have hS2 := hx (by decide)
        clear hx hK K hS
        have hS := hS2
        clear hS2
        refine any_one 5 (by kernel_rfl) rfl (fun K hK => ?_)
        rw [if_pos (by rfl)]
        go_wp2_with (go_at_fn kf; refine (hkb _).mono ?_; rintro e w1 ⟨rfl, o1, o2, rfl⟩)
        refine any_hand hK (fun _ => ⟨cell_al (cell_al hS.1 _) _, cell_al (cell_al hS.2.1 _) _, cell_al (cell_al hS.2.2.1 _) _, cell_al (cell_al hS.2.2.2.1 _) _, cell_al (cell_al hS.2.2.2.2.1 _) _, cell_al (cell_al hS.2.2.2.2.2.1 _) _, cell_al (cell_al hS.2.2.2.2.2.2.1 _) _, cell_al (cell_al hS.2.2.2.2.2.2.2.1 _) _, cell_al (cell_al hS.2.2.2.2.2.2.2.2 _) _⟩) (fun hx => ?_)
        have hS2 := hx (by decide)
        clear hx hK K hS
        have hS := hS2
        clear hS2
        refine any_one 8 (by kernel_rfl) rfl (fun K hK => ?_)
        rw [if_pos (by rfl)]
        go_simp
        refine any_hand hK (fun _ => ⟨by repeat (first | exact HW.1 | refine cell_al ?_ _), by repeat (first | exact HW.2.1 | refine cell_al ?_ _), by repeat (first | exact HW.2.2.1 | refine cell_al ?_ _), by repeat (first | exact HW.2.2.2.1 | refine cell_al ?_ _), by repeat (first | exact HW.2.2.2.2.1 | refine cell_al ?_ _), by repeat (first | exact HW.2.2.2.2.2.1 | refine cell_al ?_ _), by repeat (first | exact HW.2.2.2.2.2.2.1 | refine cell_al ?_ _), by repeat (first | exact HW.2.2.2.2.2.2.2.1 | refine cell_al ?_ _), by repeat (first | exact HW.2.2.2.2.2.2.2.2 | refine cell_al ?_ _)⟩) (fun hx => ?_)
        clear hx hK K hS
        refine any_one 9 (by kernel_rfl) rfl (fun K hK => ?_)
        rw [if_pos (by rfl)]
        go_simp
        refine any_hand hK (fun h => absurd rfl h) (fun hx => ?_)
        clear hx hK K
        refine any_done (by kernel_rfl) ?_
        exact ⟨_, _, rfl, (by repeat (first | exact row4_new _ _ (k1, k2, k3, k4) _ _ (by simp) | refine row4_al ?_ _)), (by repeat (first | exact row4_new _ _ (l1, l2, l3, l4) _ _ (by simp) | refine row4_al ?_ _)), 1, _, (by rw [HWD.out]; (repeat rw [alloc_eq_grow]); (repeat rw [grow_grow]); rfl)⟩
  · intro e a' w' hq
    cases e with
    | normal =>
      obtain ⟨b6, b7, rfl, h6, h7, q, os', hw⟩ := hq
      have HW := Lib.hid hw
      clear hw hka hkb ek hc hb0
      have hcon := fun W => cmps_at 4 b6 b7 (keyL (k1, k2, k3, k4)) (keyL (l1, l2, l3, l4)) W rfl rfl (by omega)
      rw [lexL_key] at hcon
      have H6 := Lib.hid h6
      have H7 := Lib.hid h7
      clear h6 h7
      simp only [Exit.then]
      go_wp2_with fail
      go_quiet ((go_at_call 78; exact Calls.quiet_of_same (hcon _ H6.out H7.out)))
      go_wp2_with fail
      go_ret
      refine ⟨rfl, ?_⟩
      rw [HW.out]
      simp only [alloc_eq_grow]
      exact grow_ex _ _ _ _ _ _
    | _ => exact hq.elim
end Go.Proofs.Ytjbldphpkkmdpaa
