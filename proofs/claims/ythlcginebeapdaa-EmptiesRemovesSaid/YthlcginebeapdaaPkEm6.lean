/- Part 6 of what the law EmptiesRemoves rests on. -/
import Derived.Deep.QuietTactic
import Derived.Test.YthlcginebeapdaaPkEm1
import Derived.Test.YthlcginebeapdaaPkEm2
import Derived.Test.YthlcginebeapdaaPkEm3
import Derived.Test.YthlcginebeapdaaPkEm4
import Derived.Test.YthlcginebeapdaaPkEm5
namespace Go.Proofs.Ythlcginebeapdaa
open Go.RowKit
open Go.Sort (grow alloc_eq_grow grow_grow)
set_option linter.unusedSimpArgs false
set_option linter.unusedVariables false

section
variable {P : Program} {ops : Array Oper} {Q : Exit → Act → World → Prop} {md : Region.Mode} {S : World → Prop} {z : Nat}
def NxT (P : Program) (md : Region.Mode) (l : List Oper) (Q : Exit → Act → World → Prop) (S : World → Prop) (z : Nat) (n : Nat) (listed : Array Bool) (a : Act) (w : World) (i : Nat) (oi : Oper) : Prop :=
  ∀ K : Act → World → Prop, Hid (∀ a' w', (i ≠ z → S w') → anyThen P md l.toArray Q S z n (listed.setIfInBounds i true) a' w' → K a' w') →
      if Region.wanted oi (yielded l.toArray a.tmps) = true then Oper.wp P oi a w K Q else K (a.put oi.dst undef) w
theorem region_any_k {P : Program} {Q : Exit → Act → World → Prop} (S : World → Prop) (z : Nat) {id : Nat} {l : List Oper} {a : Act} {w : World} (n : Nat) (hn : l.length = n) (hm : P.follows .mixedOrders = true) (hS : S w.drew)
    (h : ∀ wd, wd = w.drew → S wd → anyThen P .any l.toArray Q S z n (Array.replicate n false) a wd) : (Code.region id l.toArray true).wp P Q a w :=
  region_any S z n hn hm hS (h _ rfl)
theorem any_br2 (i j : Nat) {l : List Oper} {oi oj : Oper} {n : Nat} {listed : Array Bool} {a : Act} {w : World} (hr : Region.ready md l.toArray listed = [i, j]) (hi : l[i]? = some oi) (hj : l[j]? = some oj)
    (h1 : NxT P md l Q S z n listed a w i oi) (h2 : NxT P md l Q S z n listed a w j oj) : anyThen P md l.toArray Q S z (n + 1) listed a w := by
  refine ⟨fun h0 => by rw [hr] at h0; exact absurd h0 (by simp), fun k hk => ?_⟩
  rw [hr] at hk
  simp only [List.mem_cons, List.not_mem_nil, or_false] at hk
  rcases hk with rfl | rfl
  · exact wpOp_step (by simpa using hi) fun K hK => h1 K fun a' w' hS hA => hK a' w' ⟨hS, hA⟩
  · exact wpOp_step (by simpa using hj) fun K hK => h2 K fun a' w' hS hA => hK a' w' ⟨hS, hA⟩
theorem any_br3 (i j k : Nat) {l : List Oper} {oi oj ok : Oper} {n : Nat} {listed : Array Bool} {a : Act} {w : World} (hr : Region.ready md l.toArray listed = [i, j, k]) (hi : l[i]? = some oi) (hj : l[j]? = some oj) (hk : l[k]? = some ok)
    (h1 : NxT P md l Q S z n listed a w i oi) (h2 : NxT P md l Q S z n listed a w j oj) (h3 : NxT P md l Q S z n listed a w k ok) : anyThen P md l.toArray Q S z (n + 1) listed a w := by
  refine ⟨fun h0 => by rw [hr] at h0; exact absurd h0 (by simp), fun x hx => ?_⟩
  rw [hr] at hx
  simp only [List.mem_cons, List.not_mem_nil, or_false] at hx
  rcases hx with rfl | rfl | rfl
  · exact wpOp_step (by simpa using hi) fun K hK => h1 K fun a' w' hS hA => hK a' w' ⟨hS, hA⟩
  · exact wpOp_step (by simpa using hj) fun K hK => h2 K fun a' w' hS hA => hK a' w' ⟨hS, hA⟩
  · exact wpOp_step (by simpa using hk) fun K hK => h3 K fun a' w' hS hA => hK a' w' ⟨hS, hA⟩
end
/-- PRINTED by gen/genby.py from here on. -/
theorem row4_al {w : World} {b : Nat} {l : List Int} (h : Row4 w b l) (o : Obj) : Row4 (w.alloc o) b l := fun k x hx => cell_al (h k x hx) o
theorem row4_new (w : World) (b : Nat) (k : Int × Int × Int × Int) (t : TypeId) (f : Nat × Nat) (hb : b = w.heap.size) : Row4 (w.alloc (.cells #[.int .i64 k.1, .int .i64 k.2.1, .int .i64 k.2.2.1, .int .i64 k.2.2.2] t f)) b (keyL k) := by
  subst hb
  intro j x hx
  have hb : (w.alloc (.cells #[.int .i64 k.1, .int .i64 k.2.1, .int .i64 k.2.2.1, .int .i64 k.2.2.2] t f)).heap[w.heap.size]? = some (.cells #[.int .i64 k.1, .int .i64 k.2.1, .int .i64 k.2.2.1, .int .i64 k.2.2.2] t f) := by
    show (w.heap.push _)[w.heap.size]? = _
    simp
  unfold keyL at hx
  simp only [World.cell?, hb, Option.isSome_none, Bool.false_eq_true, if_false]
  match j, hx with
  | 0, hx => simp at hx; subst hx; rfl
  | 1, hx => simp at hx; subst hx; rfl
  | 2, hx => simp at hx; subst hx; rfl
  | 3, hx => simp at hx; subst hx; rfl
  | j + 4, hx => simp at hx
theorem grow_ex (w : World) (A B os : Array Obj) (q n : Nat) : ∃ q' os', (grow ((grow (grow w A) B).drewN q) os).drewN n = grow (w.drewN q') os' :=
  ⟨q + n, A ++ B ++ os, by unfold grow World.drewN; simp [Nat.add_assoc, Array.append_assoc]⟩
/-- How the region of the two calls ends. -/
def ByQ (kf : FuncId) (bk b3 b4 : Nat) (va vb : Value) (ka kb : Int × Int × Int × Int) (w : World) : Exit → Act → World → Prop
  | .normal, a', w' => ∃ b6 b7, a' = { tmps := #[va, vb, .pointer (some ⟨bk, 0, none⟩), .pointer (some ⟨b3, 0, none⟩), .pointer (some ⟨b4, 0, none⟩), .int .i64 0, .pointer (some ⟨b6, 0, none⟩), .pointer (some ⟨b7, 0, none⟩), .func (.func kf) #[] #[], va, keyV ka, .func (.func kf) #[] #[], vb, keyV kb, undef, undef, undef], defers := [] } ∧ Row4 w' b6 (keyL ka) ∧ Row4 w' b7 (keyL kb) ∧ ∃ q os', w' = grow (w.drewN q) os'
  | _, _, _ => False
set_option maxHeartbeats 4000000 in
theorem by_at {kf : FuncId} {key : Ar → Int × Int × Int × Int} (hk : KeyAt Try.prog kf key) (ek : ∀ args w, (callFunc kf args).run Try.prog w = .ok (.enter kf args) w) (bk : Nat) (a b : Ar) (w : World) (hc : w.cell? ⟨bk, 0, none⟩ = some (.func (.func kf) #[] #[])) :
    Calls Try.prog 70 #[arcV a, arcV b, .pointer (some ⟨bk, 0, none⟩)] w fun e w' => e = .returned (.int .i64 (lx4 (key a) (key b))) ∧ ∃ q os', w' = grow (w.drewN q) os' := by
  have hb0 := blt hc
  have hka := fun W => hk a W
  have hkb := fun W => hk b W
  clear hk
  obtain ⟨ka, hka'⟩ : ∃ k, key a = k := ⟨_, rfl⟩
  obtain ⟨kb, hkb'⟩ : ∃ k, key b = k := ⟨_, rfl⟩
  rw [hka', hkb']
  rw [hka'] at hka
  rw [hkb'] at hkb
  clear hka' hkb'
  obtain ⟨ai, ao, aw, at'⟩ := a
  obtain ⟨bi, bo, bw, bt⟩ := b
  obtain ⟨k1, k2, k3, k4⟩ := ka
  obtain ⟨l1, l2, l3, l4⟩ := kb
  simp only [arcV, keyV] at hka hkb ⊢
  go_enter Try.func70, Try.ntmps70
  go_wp2_with fail
  refine wp_mono (Q := ByQ kf bk w.heap.size (w.heap.size + 1) (.agg #[.int .i64 ai, .int .i64 ao, .int .i64 aw, .int .i64 at']) (.agg #[.int .i64 bi, .int .i64 bo, .int .i64 bw, .int .i64 bt]) (k1, k2, k3, k4) (l1, l2, l3, l4) ((w.alloc (.cells #[.int .i64 ai, .int .i64 ao, .int .i64 aw, .int .i64 at'] 54 (0, 0))).alloc (.cells #[.int .i64 bi, .int .i64 bo, .int .i64 bw, .int .i64 bt] 54 (0, 0)))) ?_ ?_
  · have hA := row4_al (row4_new w _ (ai, ao, aw, at') 54 (0, 0) rfl) (.cells #[.int .i64 bi, .int .i64 bo, .int .i64 bw, .int .i64 bt] 54 (0, 0))
    have hB := row4_new (w.alloc (.cells #[.int .i64 ai, .int .i64 ao, .int .i64 aw, .int .i64 at'] 54 (0, 0))) (w.heap.size + 1) (bi, bo, bw, bt) 54 (0, 0) (by simp)
    refine region_any_k (fun w' => w'.cell? ⟨bk, 0, none⟩ = some (.func (.func kf) #[] #[]) ∧ w'.cell? ⟨w.heap.size, 0, none⟩ = some (.int .i64 ai) ∧ w'.cell? ⟨w.heap.size, 1, none⟩ = some (.int .i64 ao) ∧ w'.cell? ⟨w.heap.size, 2, none⟩ = some (.int .i64 aw) ∧ w'.cell? ⟨w.heap.size, 3, none⟩ = some (.int .i64 at') ∧ w'.cell? ⟨w.heap.size + 1, 0, none⟩ = some (.int .i64 bi) ∧ w'.cell? ⟨w.heap.size + 1, 1, none⟩ = some (.int .i64 bo) ∧ w'.cell? ⟨w.heap.size + 1, 2, none⟩ = some (.int .i64 bw) ∧ w'.cell? ⟨w.heap.size + 1, 3, none⟩ = some (.int .i64 bt)) 9 10 rfl (by kernel_rfl)
      ⟨cell_al (cell_al hc _) _, hA 0 _ rfl, hA 1 _ rfl, hA 2 _ rfl, hA 3 _ rfl, hB 0 _ rfl, hB 1 _ rfl, hB 2 _ rfl, hB 3 _ rfl⟩ (fun wd hwd hS => ?_)
    clear hA hB
    (refine any_take 0 (v := ?_) (by kernel_rfl) rfl rfl (by kernel_rfl) (by kernel_rfl) (by kernel_rfl) (fun _ _ _ h => h) (Or.inl ⟨by rfl, ?_⟩) (by assumption) ?_; rotate_left; (focus (intro w' hS'; (try dsimp only at hS'); go_split_ands; go_simp; try with_reducible rfl)); try simp only [Act.put, List.setIfInBounds_toArray, List.set_cons_zero, List.set_cons_succ])
    (refine any_take 1 (v := ?_) (by kernel_rfl) rfl rfl (by kernel_rfl) (by kernel_rfl) (by kernel_rfl) (fun _ _ _ h => h) (Or.inl ⟨by rfl, ?_⟩) (by assumption) ?_; rotate_left; (focus (intro w' hS'; (try dsimp only at hS'); go_split_ands; go_simp; try with_reducible rfl)); try simp only [Act.put, List.setIfInBounds_toArray, List.set_cons_zero, List.set_cons_succ])
    (refine any_take 3 (v := ?_) (by kernel_rfl) rfl rfl (by kernel_rfl) (by kernel_rfl) (by kernel_rfl) (fun _ _ _ h => h) (Or.inl ⟨by rfl, ?_⟩) (by assumption) ?_; rotate_left; (focus (intro w' hS'; (try dsimp only at hS'); go_split_ands; go_simp; try with_reducible rfl)); try simp only [Act.put, List.setIfInBounds_toArray, List.set_cons_zero, List.set_cons_succ])
    (refine any_take 4 (v := ?_) (by kernel_rfl) rfl rfl (by kernel_rfl) (by kernel_rfl) (by kernel_rfl) (fun _ _ _ h => h) (Or.inl ⟨by rfl, ?_⟩) (by assumption) ?_; rotate_left; (focus (intro w' hS'; (try dsimp only at hS'); go_split_ands; go_simp; try with_reducible rfl)); try simp only [Act.put, List.setIfInBounds_toArray, List.set_cons_zero, List.set_cons_succ])
    have HW := hS
    have HWD := Lib.hid hwd
    clear hwd
    refine any_br3 2 6 7 (by kernel_rfl) rfl rfl rfl (fun K hK => ?_) (fun K hK => ?_) (fun K hK => ?_)
    · rw [if_pos (by rfl)]
      go_wp2_with (go_at_fn kf; refine (hka _).mono ?_; rintro e w1 ⟨rfl, o1, o2, rfl⟩)
      refine any_hand hK (fun _ => ⟨cell_al (cell_al hS.1 _) _, cell_al (cell_al hS.2.1 _) _, cell_al (cell_al hS.2.2.1 _) _, cell_al (cell_al hS.2.2.2.1 _) _, cell_al (cell_al hS.2.2.2.2.1 _) _, cell_al (cell_al hS.2.2.2.2.2.1 _) _, cell_al (cell_al hS.2.2.2.2.2.2.1 _) _, cell_al (cell_al hS.2.2.2.2.2.2.2.1 _) _, cell_al (cell_al hS.2.2.2.2.2.2.2.2 _) _⟩) (fun hx => ?_)
      have hS2 := hx (by decide)
      clear hx hK K hS
      have hS := hS2
      clear hS2
      refine any_br3 5 6 7 (by kernel_rfl) rfl rfl rfl (fun K hK => ?_) (fun K hK => ?_) (fun K hK => ?_)
      · rw [if_pos (by rfl)]
        go_wp2_with (go_at_fn kf; refine (hkb _).mono ?_; rintro e w1 ⟨rfl, o1, o2, rfl⟩)
        refine any_hand hK (fun _ => ⟨cell_al (cell_al hS.1 _) _, cell_al (cell_al hS.2.1 _) _, cell_al (cell_al hS.2.2.1 _) _, cell_al (cell_al hS.2.2.2.1 _) _, cell_al (cell_al hS.2.2.2.2.1 _) _, cell_al (cell_al hS.2.2.2.2.2.1 _) _, cell_al (cell_al hS.2.2.2.2.2.2.1 _) _, cell_al (cell_al hS.2.2.2.2.2.2.2.1 _) _, cell_al (cell_al hS.2.2.2.2.2.2.2.2 _) _⟩) (fun hx => ?_)
        have hS2 := hx (by decide)
        clear hx hK K hS
        have hS := hS2
        clear hS2
        refine any_br2 6 7 (by kernel_rfl) rfl rfl (fun K hK => ?_) (fun K hK => ?_)
        · rw [if_pos (by rfl)]
          go_simp
          refine any_hand hK (fun _ => ⟨cell_al hS.1 _, cell_al hS.2.1 _, cell_al hS.2.2.1 _, cell_al hS.2.2.2.1 _, cell_al hS.2.2.2.2.1 _, cell_al hS.2.2.2.2.2.1 _, cell_al hS.2.2.2.2.2.2.1 _, cell_al hS.2.2.2.2.2.2.2.1 _, cell_al hS.2.2.2.2.2.2.2.2 _⟩) (fun hx => ?_)
          have hS2 := hx (by decide)
          clear hx hK K hS
          have hS := hS2
          clear hS2
          refine any_one 7 (by kernel_rfl) rfl (fun K hK => ?_)
          rw [if_pos (by rfl)]
          go_simp
          refine any_hand hK (fun _ => ⟨cell_al hS.1 _, cell_al hS.2.1 _, cell_al hS.2.2.1 _, cell_al hS.2.2.2.1 _, cell_al hS.2.2.2.2.1 _, cell_al hS.2.2.2.2.2.1 _, cell_al hS.2.2.2.2.2.2.1 _, cell_al hS.2.2.2.2.2.2.2.1 _, cell_al hS.2.2.2.2.2.2.2.2 _⟩) (fun hx => ?_)
          have hS2 := hx (by decide)
          clear hx hK K hS
          have hS := hS2
          clear hS2
          refine any_one 8 (by kernel_rfl) rfl (fun K hK => ?_)
          rw [if_pos (by rfl)]
          go_simp
          refine any_hand hK (fun _ => ⟨by repeat (first | exact HW.1 | refine cell_al ?_ _), by repeat (first | exact HW.2.1 | refine cell_al ?_ _), by repeat (first | exact HW.2.2.1 | refine cell_al ?_ _), by repeat (first | exact HW.2.2.2.1 | refine cell_al ?_ _), by repeat (first | exact HW.2.2.2.2.1 | refine cell_al ?_ _), by repeat (first | exact HW.2.2.2.2.2.1 | refine cell_al ?_ _), by repeat (first | exact HW.2.2.2.2.2.2.1 | refine cell_al ?_ _), by repeat (first | exact HW.2.2.2.2.2.2.2.1 | refine cell_al ?_ _), by repeat (first | exact HW.2.2.2.2.2.2.2.2 | refine cell_al ?_ _)⟩) (fun hx => ?_)
          clear hx hK K hS
          refine any_one 9 (by kernel_rfl) rfl (fun K hK => ?_)
          rw [if_pos (by rfl)]
          go_simp
          refine any_hand hK (fun h => absurd rfl h) (fun hx => ?_)
          clear hx hK K
          refine any_done (by kernel_rfl) ?_
          exact ⟨_, _, rfl, (by repeat (first | exact row4_new _ _ (k1, k2, k3, k4) _ _ (by simp) | refine row4_al ?_ _)), (by repeat (first | exact row4_new _ _ (l1, l2, l3, l4) _ _ (by simp) | refine row4_al ?_ _)), 1, _, (by rw [HWD.out]; (repeat rw [alloc_eq_grow]); (repeat rw [grow_grow]); rfl)⟩
        · rw [if_pos (by rfl)]
          go_simp
          refine any_hand hK (fun _ => ⟨cell_al hS.1 _, cell_al hS.2.1 _, cell_al hS.2.2.1 _, cell_al hS.2.2.2.1 _, cell_al hS.2.2.2.2.1 _, cell_al hS.2.2.2.2.2.1 _, cell_al hS.2.2.2.2.2.2.1 _, cell_al hS.2.2.2.2.2.2.2.1 _, cell_al hS.2.2.2.2.2.2.2.2 _⟩) (fun hx => ?_)
          have hS2 := hx (by decide)
          clear hx hK K hS
          have hS := hS2
          clear hS2
          refine any_one 6 (by kernel_rfl) rfl (fun K hK => ?_)
          rw [if_pos (by rfl)]
          go_simp
          refine any_hand hK (fun _ => ⟨cell_al hS.1 _, cell_al hS.2.1 _, cell_al hS.2.2.1 _, cell_al hS.2.2.2.1 _, cell_al hS.2.2.2.2.1 _, cell_al hS.2.2.2.2.2.1 _, cell_al hS.2.2.2.2.2.2.1 _, cell_al hS.2.2.2.2.2.2.2.1 _, cell_al hS.2.2.2.2.2.2.2.2 _⟩) (fun hx => ?_)
          have hS2 := hx (by decide)
          clear hx hK K hS
          have hS := hS2
          clear hS2
          refine any_one 8 (by kernel_rfl) rfl (fun K hK => ?_)
          rw [if_pos (by rfl)]
          go_simp
          refine any_hand hK (fun _ => ⟨by repeat (first | exact HW.1 | refine cell_al ?_ _), by repeat (first | exact HW.2.1 | refine cell_al ?_ _), by repeat (first | exact HW.2.2.1 | refine cell_al ?_ _), by repeat (first | exact HW.2.2.2.1 | refine cell_al ?_ _), by repeat (first | exact HW.2.2.2.2.1 | refine cell_al ?_ _), by repeat (first | exact HW.2.2.2.2.2.1 | refine cell_al ?_ _), by repeat (first | exact HW.2.2.2.2.2.2.1 | refine cell_al ?_ _), by repeat (first | exact HW.2.2.2.2.2.2.2.1 | refine cell_al ?_ _), by repeat (first | exact HW.2.2.2.2.2.2.2.2 | refine cell_al ?_ _)⟩) (fun hx => ?_)
          clear hx hK K hS
          refine any_one 9 (by kernel_rfl) rfl (fun K hK => ?_)
          rw [if_pos (by rfl)]
          go_simp
          refine any_hand hK (fun h => absurd rfl h) (fun hx => ?_)
          clear hx hK K
          refine any_done (by kernel_rfl) ?_
          exact ⟨_, _, rfl, (by repeat (first | exact row4_new _ _ (k1, k2, k3, k4) _ _ (by simp) | refine row4_al ?_ _)), (by repeat (first | exact row4_new _ _ (l1, l2, l3, l4) _ _ (by simp) | refine row4_al ?_ _)), 1, _, (by rw [HWD.out]; (repeat rw [alloc_eq_grow]); (repeat rw [grow_grow]); rfl)⟩
      · rw [if_pos (by rfl)]
        go_simp
        refine any_hand hK (fun _ => ⟨cell_al hS.1 _, cell_al hS.2.1 _, cell_al hS.2.2.1 _, cell_al hS.2.2.2.1 _, cell_al hS.2.2.2.2.1 _, cell_al hS.2.2.2.2.2.1 _, cell_al hS.2.2.2.2.2.2.1 _, cell_al hS.2.2.2.2.2.2.2.1 _, cell_al hS.2.2.2.2.2.2.2.2 _⟩) (fun hx => ?_)
        have hS2 := hx (by decide)
        clear hx hK K hS
        have hS := hS2
        clear hS2
        refine any_br2 5 7 (by kernel_rfl) rfl rfl (fun K hK => ?_) (fun K hK => ?_)
        · rw [if_pos (by rfl)]
          go_wp2_with (go_at_fn kf; refine (hkb _).mono ?_; rintro e w1 ⟨rfl, o1, o2, rfl⟩)
          refine any_hand hK (fun _ => ⟨cell_al (cell_al hS.1 _) _, cell_al (cell_al hS.2.1 _) _, cell_al (cell_al hS.2.2.1 _) _, cell_al (cell_al hS.2.2.2.1 _) _, cell_al (cell_al hS.2.2.2.2.1 _) _, cell_al (cell_al hS.2.2.2.2.2.1 _) _, cell_al (cell_al hS.2.2.2.2.2.2.1 _) _, cell_al (cell_al hS.2.2.2.2.2.2.2.1 _) _, cell_al (cell_al hS.2.2.2.2.2.2.2.2 _) _⟩) (fun hx => ?_)
          have hS2 := hx (by decide)
          clear hx hK K hS
          have hS := hS2
          clear hS2
          refine any_one 7 (by kernel_rfl) rfl (fun K hK => ?_)
          rw [if_pos (by rfl)]
          go_simp
          refine any_hand hK (fun _ => ⟨cell_al hS.1 _, cell_al hS.2.1 _, cell_al hS.2.2.1 _, cell_al hS.2.2.2.1 _, cell_al hS.2.2.2.2.1 _, cell_al hS.2.2.2.2.2.1 _, cell_al hS.2.2.2.2.2.2.1 _, cell_al hS.2.2.2.2.2.2.2.1 _, cell_al hS.2.2.2.2.2.2.2.2 _⟩) (fun hx => ?_)
          have hS2 := hx (by decide)
          clear hx hK K hS
          have hS := hS2
          clear hS2
          refine any_one 8 (by kernel_rfl) rfl (fun K hK => ?_)
          rw [if_pos (by rfl)]
          go_simp
          refine any_hand hK (fun _ => ⟨by repeat (first | exact HW.1 | refine cell_al ?_ _), by repeat (first | exact HW.2.1 | refine cell_al ?_ _), by repeat (first | exact HW.2.2.1 | refine cell_al ?_ _), by repeat (first | exact HW.2.2.2.1 | refine cell_al ?_ _), by repeat (first | exact HW.2.2.2.2.1 | refine cell_al ?_ _), by repeat (first | exact HW.2.2.2.2.2.1 | refine cell_al ?_ _), by repeat (first | exact HW.2.2.2.2.2.2.1 | refine cell_al ?_ _), by repeat (first | exact HW.2.2.2.2.2.2.2.1 | refine cell_al ?_ _), by repeat (first | exact HW.2.2.2.2.2.2.2.2 | refine cell_al ?_ _)⟩) (fun hx => ?_)
          clear hx hK K hS
          refine any_one 9 (by kernel_rfl) rfl (fun K hK => ?_)
          rw [if_pos (by rfl)]
          go_simp
          refine any_hand hK (fun h => absurd rfl h) (fun hx => ?_)
          clear hx hK K
          refine any_done (by kernel_rfl) ?_
          exact ⟨_, _, rfl, (by repeat (first | exact row4_new _ _ (k1, k2, k3, k4) _ _ (by simp) | refine row4_al ?_ _)), (by repeat (first | exact row4_new _ _ (l1, l2, l3, l4) _ _ (by simp) | refine row4_al ?_ _)), 1, _, (by rw [HWD.out]; (repeat rw [alloc_eq_grow]); (repeat rw [grow_grow]); rfl)⟩
        · rw [if_pos (by rfl)]
          go_simp
          refine any_hand hK (fun _ => ⟨cell_al hS.1 _, cell_al hS.2.1 _, cell_al hS.2.2.1 _, cell_al hS.2.2.2.1 _, cell_al hS.2.2.2.2.1 _, cell_al hS.2.2.2.2.2.1 _, cell_al hS.2.2.2.2.2.2.1 _, cell_al hS.2.2.2.2.2.2.2.1 _, cell_al hS.2.2.2.2.2.2.2.2 _⟩) (fun hx => ?_)
          have hS2 := hx (by decide)
          clear hx hK K hS
          have hS := hS2
          clear hS2
          refine any_one 5 (by kernel_rfl) rfl (fun K hK => ?_)
          rw [if_pos (by rfl)]
          go_wp2_with (go_at_fn kf; refine (hkb _).mono ?_; rintro e w1 ⟨rfl, o1, o2, rfl⟩)
          refine any_hand hK (fun _ => ⟨cell_al (cell_al hS.1 _) _, cell_al (cell_al hS.2.1 _) _, cell_al (cell_al hS.2.2.1 _) _, cell_al (cell_al hS.2.2.2.1 _) _, cell_al (cell_al hS.2.2.2.2.1 _) _, cell_al (cell_al hS.2.2.2.2.2.1 _) _, cell_al (cell_al hS.2.2.2.2.2.2.1 _) _, cell_al (cell_al hS.2.2.2.2.2.2.2.1 _) _, cell_al (cell_al hS.2.2.2.2.2.2.2.2 _) _⟩) (fun hx => ?_)
          have hS2 := hx (by decide)
          clear hx hK K hS
          have hS := hS2
          clear hS2
          refine any_one 8 (by kernel_rfl) rfl (fun K hK => ?_)
          rw [if_pos (by rfl)]
          go_simp
          refine any_hand hK (fun _ => ⟨by repeat (first | exact HW.1 | refine cell_al ?_ _), by repeat (first | exact HW.2.1 | refine cell_al ?_ _), by repeat (first | exact HW.2.2.1 | refine cell_al ?_ _), by repeat (first | exact HW.2.2.2.1 | refine cell_al ?_ _), by repeat (first | exact HW.2.2.2.2.1 | refine cell_al ?_ _), by repeat (first | exact HW.2.2.2.2.2.1 | refine cell_al ?_ _), by repeat (first | exact HW.2.2.2.2.2.2.1 | refine cell_al ?_ _), by repeat (first | exact HW.2.2.2.2.2.2.2.1 | refine cell_al ?_ _), by repeat (first | exact HW.2.2.2.2.2.2.2.2 | refine cell_al ?_ _)⟩) (fun hx => ?_)
          clear hx hK K hS
          refine any_one 9 (by kernel_rfl) rfl (fun K hK => ?_)
          rw [if_pos (by rfl)]
          go_simp
          refine any_hand hK (fun h => absurd rfl h) (fun hx => ?_)
          clear hx hK K
          refine any_done (by kernel_rfl) ?_
          exact ⟨_, _, rfl, (by repeat (first | exact row4_new _ _ (k1, k2, k3, k4) _ _ (by simp) | refine row4_al ?_ _)), (by repeat (first | exact row4_new _ _ (l1, l2, l3, l4) _ _ (by simp) | refine row4_al ?_ _)), 1, _, (by rw [HWD.out]; (repeat rw [alloc_eq_grow]); (repeat rw [grow_grow]); rfl)⟩
      · rw [if_pos (by rfl)]
        go_simp
        refine any_hand hK (fun _ => ⟨cell_al hS.1 _, cell_al hS.2.1 _, cell_al hS.2.2.1 _, cell_al hS.2.2.2.1 _, cell_al hS.2.2.2.2.1 _, cell_al hS.2.2.2.2.2.1 _, cell_al hS.2.2.2.2.2.2.1 _, cell_al hS.2.2.2.2.2.2.2.1 _, cell_al hS.2.2.2.2.2.2.2.2 _⟩) (fun hx => ?_)
        have hS2 := hx (by decide)
        clear hx hK K hS
        have hS := hS2
        clear hS2
        refine any_br2 5 6 (by kernel_rfl) rfl rfl (fun K hK => ?_) (fun K hK => ?_)
        · rw [if_pos (by rfl)]
          go_wp2_with (go_at_fn kf; refine (hkb _).mono ?_; rintro e w1 ⟨rfl, o1, o2, rfl⟩)
          refine any_hand hK (fun _ => ⟨cell_al (cell_al hS.1 _) _, cell_al (cell_al hS.2.1 _) _, cell_al (cell_al hS.2.2.1 _) _, cell_al (cell_al hS.2.2.2.1 _) _, cell_al (cell_al hS.2.2.2.2.1 _) _, cell_al (cell_al hS.2.2.2.2.2.1 _) _, cell_al (cell_al hS.2.2.2.2.2.2.1 _) _, cell_al (cell_al hS.2.2.2.2.2.2.2.1 _) _, cell_al (cell_al hS.2.2.2.2.2.2.2.2 _) _⟩) (fun hx => ?_)
          have hS2 := hx (by decide)
          clear hx hK K hS
          have hS := hS2
          clear hS2
          refine any_one 6 (by kernel_rfl) rfl (fun K hK => ?_)
          rw [if_pos (by rfl)]
          go_simp
          refine any_hand hK (fun _ => ⟨cell_al hS.1 _, cell_al hS.2.1 _, cell_al hS.2.2.1 _, cell_al hS.2.2.2.1 _, cell_al hS.2.2.2.2.1 _, cell_al hS.2.2.2.2.2.1 _, cell_al hS.2.2.2.2.2.2.1 _, cell_al hS.2.2.2.2.2.2.2.1 _, cell_al hS.2.2.2.2.2.2.2.2 _⟩) (fun hx => ?_)
          have hS2 := hx (by decide)
          clear hx hK K hS
          have hS := hS2
          clear hS2
          refine any_one 8 (by kernel_rfl) rfl (fun K hK => ?_)
          rw [if_pos (by rfl)]
          go_simp
          refine any_hand hK (fun _ => ⟨by repeat (first | exact HW.1 | refine cell_al ?_ _), by repeat (first | exact HW.2.1 | refine cell_al ?_ _), by repeat (first | exact HW.2.2.1 | refine cell_al ?_ _), by repeat (first | exact HW.2.2.2.1 | refine cell_al ?_ _), by repeat (first | exact HW.2.2.2.2.1 | refine cell_al ?_ _), by repeat (first | exact HW.2.2.2.2.2.1 | refine cell_al ?_ _), by repeat (first | exact HW.2.2.2.2.2.2.1 | refine cell_al ?_ _), by repeat (first | exact HW.2.2.2.2.2.2.2.1 | refine cell_al ?_ _), by repeat (first | exact HW.2.2.2.2.2.2.2.2 | refine cell_al ?_ _)⟩) (fun hx => ?_)
          clear hx hK K hS
          refine any_one 9 (by kernel_rfl) rfl (fun K hK => ?_)
          rw [if_pos (by rfl)]
          go_simp
          refine any_hand hK (fun h => absurd rfl h) (fun hx => ?_)
          clear hx hK K
          refine any_done (by kernel_rfl) ?_
          exact ⟨_, _, rfl, (by repeat (first | exact row4_new _ _ (k1, k2, k3, k4) _ _ (by simp) | refine row4_al ?_ _)), (by repeat (first | exact row4_new _ _ (l1, l2, l3, l4) _ _ (by simp) | refine row4_al ?_ _)), 1, _, (by rw [HWD.out]; (repeat rw [alloc_eq_grow]); (repeat rw [grow_grow]); rfl)⟩
        · rw [if_pos (by rfl)]
          go_simp
          refine any_hand hK (fun _ => ⟨cell_al hS.1 _, cell_al hS.2.1 _, cell_al hS.2.2.1 _, cell_al hS.2.2.2.1 _, cell_al hS.2.2.2.2.1 _, cell_al hS.2.2.2.2.2.1 _, cell_al hS.2.2.2.2.2.2.1 _, cell_al hS.2.2.2.2.2.2.2.1 _, cell_al hS.2.2.2.2.2.2.2.2 _⟩) (fun hx => ?_)
          have hS2 := hx (by decide)
          clear hx hK K hS
          have hS := hS2
          clear hS2
          refine any_one 5 (by kernel_rfl) rfl (fun K hK => ?_)
          rw [if_pos (by rfl)]
          go_wp2_with (go_at_fn kf; refine (hkb _).mono ?_; rintro e w1 ⟨rfl, o1, o2, rfl⟩)
          refine any_hand hK (fun _ => ⟨cell_al (cell_al hS.1 _) _, cell_al (cell_al hS.2.1 _) _, cell_al (cell_al hS.2.2.1 _) _, cell_al (cell_al hS.2.2.2.1 _) _, cell_al (cell_al hS.2.2.2.2.1 _) _, cell_al (cell_al hS.2.2.2.2.2.1 _) _, cell_al (cell_al hS.2.2.2.2.2.2.1 _) _, cell_al (cell_al hS.2.2.2.2.2.2.2.1 _) _, cell_al (cell_al hS.2.2.2.2.2.2.2.2 _) _⟩) (fun hx => ?_)
          have hS2 := hx (by decide)
          clear hx hK K hS
          have hS := hS2
          clear hS2
          refine any_one 8 (by kernel_rfl) rfl (fun K hK => ?_)
          rw [if_pos (by rfl)]
          go_simp
          refine any_hand hK (fun _ => ⟨by repeat (first | exact HW.1 | refine cell_al ?_ _), by repeat (first | exact HW.2.1 | refine cell_al ?_ _), by repeat (first | exact HW.2.2.1 | refine cell_al ?_ _), by repeat (first | exact HW.2.2.2.1 | refine cell_al ?_ _), by repeat (first | exact HW.2.2.2.2.1 | refine cell_al ?_ _), by repeat (first | exact HW.2.2.2.2.2.1 | refine cell_al ?_ _), by repeat (first | exact HW.2.2.2.2.2.2.1 | refine cell_al ?_ _), by repeat (first | exact HW.2.2.2.2.2.2.2.1 | refine cell_al ?_ _), by repeat (first | exact HW.2.2.2.2.2.2.2.2 | refine cell_al ?_ _)⟩) (fun hx => ?_)
          clear hx hK K hS
          refine any_one 9 (by kernel_rfl) rfl (fun K hK => ?_)
          rw [if_pos (by rfl)]
          go_simp
          refine any_hand hK (fun h => absurd rfl h) (fun hx => ?_)
          clear hx hK K
          refine any_done (by kernel_rfl) ?_
          exact ⟨_, _, rfl, (by repeat (first | exact row4_new _ _ (k1, k2, k3, k4) _ _ (by simp) | refine row4_al ?_ _)), (by repeat (first | exact row4_new _ _ (l1, l2, l3, l4) _ _ (by simp) | refine row4_al ?_ _)), 1, _, (by rw [HWD.out]; (repeat rw [alloc_eq_grow]); (repeat rw [grow_grow]); rfl)⟩
    · rw [if_pos (by rfl)]
      go_simp
      refine any_hand hK (fun _ => ⟨cell_al hS.1 _, cell_al hS.2.1 _, cell_al hS.2.2.1 _, cell_al hS.2.2.2.1 _, cell_al hS.2.2.2.2.1 _, cell_al hS.2.2.2.2.2.1 _, cell_al hS.2.2.2.2.2.2.1 _, cell_al hS.2.2.2.2.2.2.2.1 _, cell_al hS.2.2.2.2.2.2.2.2 _⟩) (fun hx => ?_)
      have hS2 := hx (by decide)
      clear hx hK K hS
      have hS := hS2
      clear hS2
      refine any_br2 2 7 (by kernel_rfl) rfl rfl (fun K hK => ?_) (fun K hK => ?_)
      · rw [if_pos (by rfl)]
        go_wp2_with (go_at_fn kf; refine (hka _).mono ?_; rintro e w1 ⟨rfl, o1, o2, rfl⟩)
        refine any_hand hK (fun _ => ⟨cell_al (cell_al hS.1 _) _, cell_al (cell_al hS.2.1 _) _, cell_al (cell_al hS.2.2.1 _) _, cell_al (cell_al hS.2.2.2.1 _) _, cell_al (cell_al hS.2.2.2.2.1 _) _, cell_al (cell_al hS.2.2.2.2.2.1 _) _, cell_al (cell_al hS.2.2.2.2.2.2.1 _) _, cell_al (cell_al hS.2.2.2.2.2.2.2.1 _) _, cell_al (cell_al hS.2.2.2.2.2.2.2.2 _) _⟩) (fun hx => ?_)
        have hS2 := hx (by decide)
        clear hx hK K hS
        have hS := hS2
        clear hS2
        refine any_br2 5 7 (by kernel_rfl) rfl rfl (fun K hK => ?_) (fun K hK => ?_)
        · rw [if_pos (by rfl)]
          go_wp2_with (go_at_fn kf; refine (hkb _).mono ?_; rintro e w1 ⟨rfl, o1, o2, rfl⟩)
          refine any_hand hK (fun _ => ⟨cell_al (cell_al hS.1 _) _, cell_al (cell_al hS.2.1 _) _, cell_al (cell_al hS.2.2.1 _) _, cell_al (cell_al hS.2.2.2.1 _) _, cell_al (cell_al hS.2.2.2.2.1 _) _, cell_al (cell_al hS.2.2.2.2.2.1 _) _, cell_al (cell_al hS.2.2.2.2.2.2.1 _) _, cell_al (cell_al hS.2.2.2.2.2.2.2.1 _) _, cell_al (cell_al hS.2.2.2.2.2.2.2.2 _) _⟩) (fun hx => ?_)
          have hS2 := hx (by decide)
          clear hx hK K hS
          have hS := hS2
          clear hS2
          refine any_one 7 (by kernel_rfl) rfl (fun K hK => ?_)
          rw [if_pos (by rfl)]
          go_simp
          refine any_hand hK (fun _ => ⟨cell_al hS.1 _, cell_al hS.2.1 _, cell_al hS.2.2.1 _, cell_al hS.2.2.2.1 _, cell_al hS.2.2.2.2.1 _, cell_al hS.2.2.2.2.2.1 _, cell_al hS.2.2.2.2.2.2.1 _, cell_al hS.2.2.2.2.2.2.2.1 _, cell_al hS.2.2.2.2.2.2.2.2 _⟩) (fun hx => ?_)
          have hS2 := hx (by decide)
          clear hx hK K hS
          have hS := hS2
          clear hS2
          refine any_one 8 (by kernel_rfl) rfl (fun K hK => ?_)
          rw [if_pos (by rfl)]
          go_simp
          refine any_hand hK (fun _ => ⟨by repeat (first | exact HW.1 | refine cell_al ?_ _), by repeat (first | exact HW.2.1 | refine cell_al ?_ _), by repeat (first | exact HW.2.2.1 | refine cell_al ?_ _), by repeat (first | exact HW.2.2.2.1 | refine cell_al ?_ _), by repeat (first | exact HW.2.2.2.2.1 | refine cell_al ?_ _), by repeat (first | exact HW.2.2.2.2.2.1 | refine cell_al ?_ _), by repeat (first | exact HW.2.2.2.2.2.2.1 | refine cell_al ?_ _), by repeat (first | exact HW.2.2.2.2.2.2.2.1 | refine cell_al ?_ _), by repeat (first | exact HW.2.2.2.2.2.2.2.2 | refine cell_al ?_ _)⟩) (fun hx => ?_)
          clear hx hK K hS
          refine any_one 9 (by kernel_rfl) rfl (fun K hK => ?_)
          rw [if_pos (by rfl)]
          go_simp
          refine any_hand hK (fun h => absurd rfl h) (fun hx => ?_)
          clear hx hK K
          refine any_done (by kernel_rfl) ?_
          exact ⟨_, _, rfl, (by repeat (first | exact row4_new _ _ (k1, k2, k3, k4) _ _ (by simp) | refine row4_al ?_ _)), (by repeat (first | exact row4_new _ _ (l1, l2, l3, l4) _ _ (by simp) | refine row4_al ?_ _)), 1, _, (by rw [HWD.out]; (repeat rw [alloc_eq_grow]); (repeat rw [grow_grow]); rfl)⟩
        · rw [if_pos (by rfl)]
          go_simp
          refine any_hand hK (fun _ => ⟨cell_al hS.1 _, cell_al hS.2.1 _, cell_al hS.2.2.1 _, cell_al hS.2.2.2.1 _, cell_al hS.2.2.2.2.1 _, cell_al hS.2.2.2.2.2.1 _, cell_al hS.2.2.2.2.2.2.1 _, cell_al hS.2.2.2.2.2.2.2.1 _, cell_al hS.2.2.2.2.2.2.2.2 _⟩) (fun hx => ?_)
          have hS2 := hx (by decide)
          clear hx hK K hS
          have hS := hS2
          clear hS2
          refine any_one 5 (by kernel_rfl) rfl (fun K hK => ?_)
          rw [if_pos (by rfl)]
          go_wp2_with (go_at_fn kf; refine (hkb _).mono ?_; rintro e w1 ⟨rfl, o1, o2, rfl⟩)
          refine any_hand hK (fun _ => ⟨cell_al (cell_al hS.1 _) _, cell_al (cell_al hS.2.1 _) _, cell_al (cell_al hS.2.2.1 _) _, cell_al (cell_al hS.2.2.2.1 _) _, cell_al (cell_al hS.2.2.2.2.1 _) _, cell_al (cell_al hS.2.2.2.2.2.1 _) _, cell_al (cell_al hS.2.2.2.2.2.2.1 _) _, cell_al (cell_al hS.2.2.2.2.2.2.2.1 _) _, cell_al (cell_al hS.2.2.2.2.2.2.2.2 _) _⟩) (fun hx => ?_)
          have hS2 := hx (by decide)
          clear hx hK K hS
          have hS := hS2
          clear hS2
          refine any_one 8 (by kernel_rfl) rfl (fun K hK => ?_)
          rw [if_pos (by rfl)]
          go_simp
          refine any_hand hK (fun _ => ⟨by repeat (first | exact HW.1 | refine cell_al ?_ _), by repeat (first | exact HW.2.1 | refine cell_al ?_ _), by repeat (first | exact HW.2.2.1 | refine cell_al ?_ _), by repeat (first | exact HW.2.2.2.1 | refine cell_al ?_ _), by repeat (first | exact HW.2.2.2.2.1 | refine cell_al ?_ _), by repeat (first | exact HW.2.2.2.2.2.1 | refine cell_al ?_ _), by repeat (first | exact HW.2.2.2.2.2.2.1 | refine cell_al ?_ _), by repeat (first | exact HW.2.2.2.2.2.2.2.1 | refine cell_al ?_ _), by repeat (first | exact HW.2.2.2.2.2.2.2.2 | refine cell_al ?_ _)⟩) (fun hx => ?_)
          clear hx hK K hS
          refine any_one 9 (by kernel_rfl) rfl (fun K hK => ?_)
          rw [if_pos (by rfl)]
          go_simp
          refine any_hand hK (fun h => absurd rfl h) (fun hx => ?_)
          clear hx hK K
          refine any_done (by kernel_rfl) ?_
          exact ⟨_, _, rfl, (by repeat (first | exact row4_new _ _ (k1, k2, k3, k4) _ _ (by simp) | refine row4_al ?_ _)), (by repeat (first | exact row4_new _ _ (l1, l2, l3, l4) _ _ (by simp) | refine row4_al ?_ _)), 1, _, (by rw [HWD.out]; (repeat rw [alloc_eq_grow]); (repeat rw [grow_grow]); rfl)⟩
      · rw [if_pos (by rfl)]
        go_simp
        refine any_hand hK (fun _ => ⟨cell_al hS.1 _, cell_al hS.2.1 _, cell_al hS.2.2.1 _, cell_al hS.2.2.2.1 _, cell_al hS.2.2.2.2.1 _, cell_al hS.2.2.2.2.2.1 _, cell_al hS.2.2.2.2.2.2.1 _, cell_al hS.2.2.2.2.2.2.2.1 _, cell_al hS.2.2.2.2.2.2.2.2 _⟩) (fun hx => ?_)
        have hS2 := hx (by decide)
        clear hx hK K hS
        have hS := hS2
        clear hS2
        refine any_one 2 (by kernel_rfl) rfl (fun K hK => ?_)
        rw [if_pos (by rfl)]
        go_wp2_with (go_at_fn kf; refine (hka _).mono ?_; rintro e w1 ⟨rfl, o1, o2, rfl⟩)
        refine any_hand hK (fun _ => ⟨cell_al (cell_al hS.1 _) _, cell_al (cell_al hS.2.1 _) _, cell_al (cell_al hS.2.2.1 _) _, cell_al (cell_al hS.2.2.2.1 _) _, cell_al (cell_al hS.2.2.2.2.1 _) _, cell_al (cell_al hS.2.2.2.2.2.1 _) _, cell_al (cell_al hS.2.2.2.2.2.2.1 _) _, cell_al (cell_al hS.2.2.2.2.2.2.2.1 _) _, cell_al (cell_al hS.2.2.2.2.2.2.2.2 _) _⟩) (fun hx => ?_)
        have hS2 := hx (by decide)
        clear hx hK K hS
        have hS := hS2
        clear hS2
        refine any_one 5 (by kernel_rfl) rfl (fun K hK => ?_)
        rw [if_pos (by rfl)]
        go_wp2_with (go_at_fn kf; refine (hkb _).mono ?_; rintro e w1 ⟨rfl, o1, o2, rfl⟩)
        refine any_hand hK (fun _ => ⟨cell_al (cell_al hS.1 _) _, cell_al (cell_al hS.2.1 _) _, cell_al (cell_al hS.2.2.1 _) _, cell_al (cell_al hS.2.2.2.1 _) _, cell_al (cell_al hS.2.2.2.2.1 _) _, cell_al (cell_al hS.2.2.2.2.2.1 _) _, cell_al (cell_al hS.2.2.2.2.2.2.1 _) _, cell_al (cell_al hS.2.2.2.2.2.2.2.1 _) _, cell_al (cell_al hS.2.2.2.2.2.2.2.2 _) _⟩) (fun hx => ?_)
        have hS2 := hx (by decide)
        clear hx hK K hS
        have hS := hS2
        clear hS2
        refine any_one 8 (by kernel_rfl) rfl (fun K hK => ?_)
        rw [if_pos (by rfl)]
        go_simp
        refine any_hand hK (fun _ => ⟨by repeat (first | exact HW.1 | refine cell_al ?_ _), by repeat (first | exact HW.2.1 | refine cell_al ?_ _), by repeat (first | exact HW.2.2.1 | refine cell_al ?_ _), by repeat (first | exact HW.2.2.2.1 | refine cell_al ?_ _), by repeat (first | exact HW.2.2.2.2.1 | refine cell_al ?_ _), by repeat (first | exact HW.2.2.2.2.2.1 | refine cell_al ?_ _), by repeat (first | exact HW.2.2.2.2.2.2.1 | refine cell_al ?_ _), by repeat (first | exact HW.2.2.2.2.2.2.2.1 | refine cell_al ?_ _), by repeat (first | exact HW.2.2.2.2.2.2.2.2 | refine cell_al ?_ _)⟩) (fun hx => ?_)
        clear hx hK K hS
        refine any_one 9 (by kernel_rfl) rfl (fun K hK => ?_)
        rw [if_pos (by rfl)]
        go_simp
        refine any_hand hK (fun h => absurd rfl h) (fun hx => ?_)
        clear hx hK K
        refine any_done (by kernel_rfl) ?_
        exact ⟨_, _, rfl, (by repeat (first | exact row4_new _ _ (k1, k2, k3, k4) _ _ (by simp) | refine row4_al ?_ _)), (by repeat (first | exact row4_new _ _ (l1, l2, l3, l4) _ _ (by simp) | refine row4_al ?_ _)), 1, _, (by rw [HWD.out]; (repeat rw [alloc_eq_grow]); (repeat rw [grow_grow]); rfl)⟩
    · rw [if_pos (by rfl)]
      go_simp
      refine any_hand hK (fun _ => ⟨cell_al hS.1 _, cell_al hS.2.1 _, cell_al hS.2.2.1 _, cell_al hS.2.2.2.1 _, cell_al hS.2.2.2.2.1 _, cell_al hS.2.2.2.2.2.1 _, cell_al hS.2.2.2.2.2.2.1 _, cell_al hS.2.2.2.2.2.2.2.1 _, cell_al hS.2.2.2.2.2.2.2.2 _⟩) (fun hx => ?_)
      have hS2 := hx (by decide)
      clear hx hK K hS
      have hS := hS2
      clear hS2
      refine any_br2 2 6 (by kernel_rfl) rfl rfl (fun K hK => ?_) (fun K hK => ?_)
      · rw [if_pos (by rfl)]
        go_wp2_with (go_at_fn kf; refine (hka _).mono ?_; rintro e w1 ⟨rfl, o1, o2, rfl⟩)
        refine any_hand hK (fun _ => ⟨cell_al (cell_al hS.1 _) _, cell_al (cell_al hS.2.1 _) _, cell_al (cell_al hS.2.2.1 _) _, cell_al (cell_al hS.2.2.2.1 _) _, cell_al (cell_al hS.2.2.2.2.1 _) _, cell_al (cell_al hS.2.2.2.2.2.1 _) _, cell_al (cell_al hS.2.2.2.2.2.2.1 _) _, cell_al (cell_al hS.2.2.2.2.2.2.2.1 _) _, cell_al (cell_al hS.2.2.2.2.2.2.2.2 _) _⟩) (fun hx => ?_)
        have hS2 := hx (by decide)
        clear hx hK K hS
        have hS := hS2
        clear hS2
        refine any_br2 5 6 (by kernel_rfl) rfl rfl (fun K hK => ?_) (fun K hK => ?_)
        · rw [if_pos (by rfl)]
          go_wp2_with (go_at_fn kf; refine (hkb _).mono ?_; rintro e w1 ⟨rfl, o1, o2, rfl⟩)
          refine any_hand hK (fun _ => ⟨cell_al (cell_al hS.1 _) _, cell_al (cell_al hS.2.1 _) _, cell_al (cell_al hS.2.2.1 _) _, cell_al (cell_al hS.2.2.2.1 _) _, cell_al (cell_al hS.2.2.2.2.1 _) _, cell_al (cell_al hS.2.2.2.2.2.1 _) _, cell_al (cell_al hS.2.2.2.2.2.2.1 _) _, cell_al (cell_al hS.2.2.2.2.2.2.2.1 _) _, cell_al (cell_al hS.2.2.2.2.2.2.2.2 _) _⟩) (fun hx => ?_)
          have hS2 := hx (by decide)
          clear hx hK K hS
          have hS := hS2
          clear hS2
          refine any_one 6 (by kernel_rfl) rfl (fun K hK => ?_)
          rw [if_pos (by rfl)]
          go_simp
          refine any_hand hK (fun _ => ⟨cell_al hS.1 _, cell_al hS.2.1 _, cell_al hS.2.2.1 _, cell_al hS.2.2.2.1 _, cell_al hS.2.2.2.2.1 _, cell_al hS.2.2.2.2.2.1 _, cell_al hS.2.2.2.2.2.2.1 _, cell_al hS.2.2.2.2.2.2.2.1 _, cell_al hS.2.2.2.2.2.2.2.2 _⟩) (fun hx => ?_)
          have hS2 := hx (by decide)
          clear hx hK K hS
          have hS := hS2
          clear hS2
          refine any_one 8 (by kernel_rfl) rfl (fun K hK => ?_)
          rw [if_pos (by rfl)]
          go_simp
          refine any_hand hK (fun _ => ⟨by repeat (first | exact HW.1 | refine cell_al ?_ _), by repeat (first | exact HW.2.1 | refine cell_al ?_ _), by repeat (first | exact HW.2.2.1 | refine cell_al ?_ _), by repeat (first | exact HW.2.2.2.1 | refine cell_al ?_ _), by repeat (first | exact HW.2.2.2.2.1 | refine cell_al ?_ _), by repeat (first | exact HW.2.2.2.2.2.1 | refine cell_al ?_ _), by repeat (first | exact HW.2.2.2.2.2.2.1 | refine cell_al ?_ _), by repeat (first | exact HW.2.2.2.2.2.2.2.1 | refine cell_al ?_ _), by repeat (first | exact HW.2.2.2.2.2.2.2.2 | refine cell_al ?_ _)⟩) (fun hx => ?_)
          clear hx hK K hS
          refine any_one 9 (by kernel_rfl) rfl (fun K hK => ?_)
          rw [if_pos (by rfl)]
          go_simp
          refine any_hand hK (fun h => absurd rfl h) (fun hx => ?_)
          clear hx hK K
          refine any_done (by kernel_rfl) ?_
          exact ⟨_, _, rfl, (by repeat (first | exact row4_new _ _ (k1, k2, k3, k4) _ _ (by simp) | refine row4_al ?_ _)), (by repeat (first | exact row4_new _ _ (l1, l2, l3, l4) _ _ (by simp) | refine row4_al ?_ _)), 1, _, (by rw [HWD.out]; (repeat rw [alloc_eq_grow]); (repeat rw [grow_grow]); rfl)⟩
        · rw [if_pos (by rfl)]
          go_simp
          refine any_hand hK (fun _ => ⟨cell_al hS.1 _, cell_al hS.2.1 _, cell_al hS.2.2.1 _, cell_al hS.2.2.2.1 _, cell_al hS.2.2.2.2.1 _, cell_al hS.2.2.2.2.2.1 _, cell_al hS.2.2.2.2.2.2.1 _, cell_al hS.2.2.2.2.2.2.2.1 _, cell_al hS.2.2.2.2.2.2.2.2 _⟩) (fun hx => ?_)
          have hS2 := hx (by decide)
          clear hx hK K hS
          have hS := hS2
          clear hS2
          refine any_one 5 (by kernel_rfl) rfl (fun K hK => ?_)
          rw [if_pos (by rfl)]
          go_wp2_with (go_at_fn kf; refine (hkb _).mono ?_; rintro e w1 ⟨rfl, o1, o2, rfl⟩)
          refine any_hand hK (fun _ => ⟨cell_al (cell_al hS.1 _) _, cell_al (cell_al hS.2.1 _) _, cell_al (cell_al hS.2.2.1 _) _, cell_al (cell_al hS.2.2.2.1 _) _, cell_al (cell_al hS.2.2.2.2.1 _) _, cell_al (cell_al hS.2.2.2.2.2.1 _) _, cell_al (cell_al hS.2.2.2.2.2.2.1 _) _, cell_al (cell_al hS.2.2.2.2.2.2.2.1 _) _, cell_al (cell_al hS.2.2.2.2.2.2.2.2 _) _⟩) (fun hx => ?_)
          have hS2 := hx (by decide)
          clear hx hK K hS
          have hS := hS2
          clear hS2
          refine any_one 8 (by kernel_rfl) rfl (fun K hK => ?_)
          rw [if_pos (by rfl)]
          go_simp
          refine any_hand hK (fun _ => ⟨by repeat (first | exact HW.1 | refine cell_al ?_ _), by repeat (first | exact HW.2.1 | refine cell_al ?_ _), by repeat (first | exact HW.2.2.1 | refine cell_al ?_ _), by repeat (first | exact HW.2.2.2.1 | refine cell_al ?_ _), by repeat (first | exact HW.2.2.2.2.1 | refine cell_al ?_ _), by repeat (first | exact HW.2.2.2.2.2.1 | refine cell_al ?_ _), by repeat (first | exact HW.2.2.2.2.2.2.1 | refine cell_al ?_ _), by repeat (first | exact HW.2.2.2.2.2.2.2.1 | refine cell_al ?_ _), by repeat (first | exact HW.2.2.2.2.2.2.2.2 | refine cell_al ?_ _)⟩) (fun hx => ?_)
          clear hx hK K hS
          refine any_one 9 (by kernel_rfl) rfl (fun K hK => ?_)
          rw [if_pos (by rfl)]
          go_simp
          refine any_hand hK (fun h => absurd rfl h) (fun hx => ?_)
          clear hx hK K
          refine any_done (by kernel_rfl) ?_
          exact ⟨_, _, rfl, (by repeat (first | exact row4_new _ _ (k1, k2, k3, k4) _ _ (by simp) | refine row4_al ?_ _)), (by repeat (first | exact row4_new _ _ (l1, l2, l3, l4) _ _ (by simp) | refine row4_al ?_ _)), 1, _, (by rw [HWD.out]; (repeat rw [alloc_eq_grow]); (repeat rw [grow_grow]); rfl)⟩
      · rw [if_pos (by rfl)]
        go_simp
        refine any_hand hK (fun _ => ⟨cell_al hS.1 _, cell_al hS.2.1 _, cell_al hS.2.2.1 _, cell_al hS.2.2.2.1 _, cell_al hS.2.2.2.2.1 _, cell_al hS.2.2.2.2.2.1 _, cell_al hS.2.2.2.2.2.2.1 _, cell_al hS.2.2.2.2.2.2.2.1 _, cell_al hS.2.2.2.2.2.2.2.2 _⟩) (fun hx => ?_)
        have hS2 := hx (by decide)
        clear hx hK K hS
        have hS := hS2
        clear hS2
        refine any_one 2 (by kernel_rfl) rfl (fun K hK => ?_)
        rw [if_pos (by rfl)]
        go_wp2_with (go_at_fn kf; refine (hka _).mono ?_; rintro e w1 ⟨rfl, o1, o2, rfl⟩)
        refine any_hand hK (fun _ => ⟨cell_al (cell_al hS.1 _) _, cell_al (cell_al hS.2.1 _) _, cell_al (cell_al hS.2.2.1 _) _, cell_al (cell_al hS.2.2.2.1 _) _, cell_al (cell_al hS.2.2.2.2.1 _) _, cell_al (cell_al hS.2.2.2.2.2.1 _) _, cell_al (cell_al hS.2.2.2.2.2.2.1 _) _, cell_al (cell_al hS.2.2.2.2.2.2.2.1 _) _, cell_al (cell_al hS.2.2.2.2.2.2.2.2 _) _⟩) (fun hx => ?_)
        have hS2 := hx (by decide)
        clear hx hK K hS
        have hS := hS2
        clear hS2
        refine any_one 5 (by kernel_rfl) rfl (fun K hK => ?_)
        rw [if_pos (by rfl)]
        go_wp2_with (go_at_fn kf; refine (hkb _).mono ?_; rintro e w1 ⟨rfl, o1, o2, rfl⟩)
        refine any_hand hK (fun _ => ⟨cell_al (cell_al hS.1 _) _, cell_al (cell_al hS.2.1 _) _, cell_al (cell_al hS.2.2.1 _) _, cell_al (cell_al hS.2.2.2.1 _) _, cell_al (cell_al hS.2.2.2.2.1 _) _, cell_al (cell_al hS.2.2.2.2.2.1 _) _, cell_al (cell_al hS.2.2.2.2.2.2.1 _) _, cell_al (cell_al hS.2.2.2.2.2.2.2.1 _) _, cell_al (cell_al hS.2.2.2.2.2.2.2.2 _) _⟩) (fun hx => ?_)
        have hS2 := hx (by decide)
        clear hx hK K hS
        have hS := hS2
        clear hS2
        refine any_one 8 (by kernel_rfl) rfl (fun K hK => ?_)
        rw [if_pos (by rfl)]
        go_simp
        refine any_hand hK (fun _ => ⟨by repeat (first | exact HW.1 | refine cell_al ?_ _), by repeat (first | exact HW.2.1 | refine cell_al ?_ _), by repeat (first | exact HW.2.2.1 | refine cell_al ?_ _), by repeat (first | exact HW.2.2.2.1 | refine cell_al ?_ _), by repeat (first | exact HW.2.2.2.2.1 | refine cell_al ?_ _), by repeat (first | exact HW.2.2.2.2.2.1 | refine cell_al ?_ _), by repeat (first | exact HW.2.2.2.2.2.2.1 | refine cell_al ?_ _), by repeat (first | exact HW.2.2.2.2.2.2.2.1 | refine cell_al ?_ _), by repeat (first | exact HW.2.2.2.2.2.2.2.2 | refine cell_al ?_ _)⟩) (fun hx => ?_)
        clear hx hK K hS
        refine any_one 9 (by kernel_rfl) rfl (fun K hK => ?_)
        rw [if_pos (by rfl)]
        go_simp
        refine any_hand hK (fun h => absurd rfl h) (fun hx => ?_)
        clear hx hK K
        refine any_done (by kernel_rfl) ?_
        exact ⟨_, _, rfl, (by repeat (first | exact row4_new _ _ (k1, k2, k3, k4) _ _ (by simp) | refine row4_al ?_ _)), (by repeat (first | exact row4_new _ _ (l1, l2, l3, l4) _ _ (by simp) | refine row4_al ?_ _)), 1, _, (by rw [HWD.out]; (repeat rw [alloc_eq_grow]); (repeat rw [grow_grow]); rfl)⟩
  · intro e a' w' hq
    cases e with
    | normal =>
      obtain ⟨b6, b7, rfl, h6, h7, q, os', hw⟩ := hq
      have HW := Lib.hid hw
      clear hw hka hkb ek hc hb0
      have hcon := fun W => cmps_at 4 b6 b7 (keyL (k1, k2, k3, k4)) (keyL (l1, l2, l3, l4)) W rfl rfl (by omega)
      rw [lexL_key] at hcon
      have H6 := Lib.hid h6
      have H7 := Lib.hid h7
      clear h6 h7
      simp only [Exit.then]
      go_wp2_with fail
      go_quiet ((go_at_call 71; exact Calls.quiet_of_same (hcon _ H6.out H7.out)))
      go_wp2_with fail
      go_ret
      refine ⟨rfl, ?_⟩
      rw [HW.out]
      simp only [alloc_eq_grow]
      exact grow_ex _ _ _ _ _ _
    | _ => exact hq.elim
end Go.Proofs.Ythlcginebeapdaa
namespace Go.Proofs.Ythlcginebeapdaa
open Go.RowKit
set_option linter.unusedSimpArgs false
set_option linter.unusedVariables false
set_option maxRecDepth 100000

theorem encv_get (l : List Ar) (j : Nat) (h : j < l.length * 4) : (l.flatMap encAr)[j]? = some ((encAr l.toArray[j / 4]!)[j % 4]!) := by
 induction l generalizing j with
 | nil => simp at h
 | cons a l ih =>
  rw [List.flatMap_cons]
  match j, h with
  | 0, _ => rfl
  | 1, _ => rfl
  | 2, _ => rfl
  | 3, _ => rfl
  | j + 4, h =>
   simp only [List.length_cons] at h
   have h2 := ih j (by omega)
   rw [show (encAr a ++ l.flatMap encAr)[j + 4]? = (l.flatMap encAr)[j]? from rfl, h2]
   have e1 : (j + 4) / 4 = j / 4 + 1 := by omega
   have e2 : (j + 4) % 4 = j % 4 := by omega
   rw [e1, e2]
   have h3 : j / 4 < l.length := by omega
   simp [h3]
theorem encv_len (l : List Ar) : (l.flatMap encAr).length = l.length * 4 := by
 induction l with
 | nil => rfl
 | cons a l ih => rw [List.flatMap_cons, List.length_append, ih]; simp [encAr]; omega
theorem arD_get (a : Ar) (j : Nat) (h : j < 4) : (arD a)[j]? = some (.p ((encAr a)[j]!)) := by
 match j, h with
 | 0, _ => rfl
 | 1, _ => rfl
 | 2, _ => rfl
 | 3, _ => rfl
theorem hasL_ar (r : Nat) (l : List Ar) : V.hasL r (l.flatMap arV4) = false := hasL_flat r l arD
section
variable {c : Cx} {s : S} {o : Oper}
/-- append of arcs that are plain data onto a slice of the call's own. -/
theorem st_appendA {l : List Ar} {t e : TypeId} {x y : Operand} {r bt bt' n : Nat} {z : Value} {f : Bool} {row : Row} {l1 : List V} (hu : c.P.underlying t = some (.slice e)) (hi : Inf c.P e 4 bt z) (hzs : z.cells.size = 4)
  (ho : o.op = .call { callee := .builtin .append, args := #[x, y], argTypes := #[t, t] }) (hx : s.ev x = some (.own r 4 n f)) (hr : fnd s.H r = some row) (hf : row.nil = f) (hrz : row.sz = 4) (hty : row.ty = e)
  (hl : row.cells.take (n * 4) = l1) (hl1 : l1.length = n * 4) (hc1 : V.hasL r l1 = false) (hy : s.ev y = some (.d (.sl 4 bt' (l.map arD)))) (hm : 0 < l.length) (h63 : n + l.length ≤ 140737488355328) (hbt : (n + l.length) * bt ≤ 140737488355328) (hd : dok s o = true) :
  Step c o s (fun s' => s' = S.put ⟨s.n, (s.forget r).T, (r, ⟨e, l1 ++ l.flatMap arV4, false, 4⟩) :: (s.forget r).H, (s.forget r).K⟩ o.dst (.own r 4 (n + l.length) false)) :=
 st_append_any (news := l.flatMap arV4) hu hi hzs (by omega) ho hx hr hf hrz hty hl hl1 hc1 (enc_len l) (hasL_ar r l) hm h63 hbt hd (fun g a w hs => by
  have h := hs.ev hy
  generalize a.eval y = u at h
  cases h with
  | d _ _ h =>
   cases h with
   | sl _ _ _ ad cap b o' F _ ha hl hc hr =>
    obtain ⟨rfl, hq, hb⟩ := ha (by intro e; simp at e; subst e; simp at hm)
    have key : ∀ j, j < l.length * 4 → F (j / 4) (j % 4) = (encAr l.toArray[j / 4]!)[j % 4]! ∧ w.cell? ⟨b, o' + j / 4 * 4 + j % 4, none⟩ = some (F (j / 4) (j % 4)) := by
     intro j hj
     have h4 : j / 4 < l.length := by omega
     have e1 : (l.map arD)[j / 4]? = some (arD l[j / 4]) := by simp [h4]
     have e2 := arD_get l[j / 4] (j % 4) (by omega)
     have h1 := hr _ _ _ _ e1 e2
     have h2 := hc _ _ _ _ e1 e2
     refine ⟨?_, h2⟩
     generalize F (j / 4) (j % 4) = y at h1
     cases h1
     simp [h4]
    refine ⟨⟨b, o', none⟩, cap, l.flatMap encAr, by simp, encv_len l, fun j u hu => ?_, fun u hu => ?_, fun j u x hu hx => ?_⟩
    ·have hj : j < l.length * 4 := by rw [← encv_len]; exact (List.getElem?_eq_some_iff.1 hu).1
     rw [encv_get _ _ hj, ← (key j hj).1] at hu
     rw [addr_add, ← hu, ← (key j hj).2]
     congr 2
     omega
    ·obtain ⟨a, _, ha⟩ := List.mem_flatMap.1 hu
     exact enc1 a u ha
    ·have hj : j < l.length * 4 := by rw [← encv_len]; exact (List.getElem?_eq_some_iff.1 hx).1
     rw [encv_get _ _ hj] at hx
     rw [enc_get _ _ hj] at hu
     simp only [Option.some.injEq] at hu hx
     subst hu hx
     exact .d _ _ (.p _))
end
theorem FnO.sl {P : Program} {f : FuncId} {args : List V} {post : V → List (Nat × Row) → Prop} (j : Nat) {sz bt : Nat} {rows : List (List D)} (hj : args[j]? = some (.d (.sl sz bt rows))) (h : rows.length * bt ≤ 140737488355328 → FnO P f args post) : FnO P f args post := by
 intro w out g xs ho hx
 have hlt : j < xs.length := by rw [← hx.1]; exact (List.getElem?_eq_some_iff.1 hj).1
 have hv := hx.2 j _ _ hj (List.getElem?_eq_getElem hlt)
 generalize xs[j] = y at hv
 cases hv with
 | d _ _ h2 => exact h h2.bound w out g xs ho hx
def ClO (l : List Ar) (v : V) (H : List (Nat × Row)) : Prop := ∃ fl, (fl = true → l.length = 0) ∧ v = .own 900 4 l.length fl ∧ H = [(900, ⟨54, l.flatMap arV4, fl, 4⟩)]
set_option maxHeartbeats 1000000 in
theorem am_CloneA (l : List Ar) : FnO Try.prog 67 [.d (arsD l)] (ClO l) := by
 refine FnO.sl 0 rfl fun hb => ?_
 rw [List.length_map] at hb
 refine FnO.intro (n := 8) ⟨Try.func67, rfl, rfl, rfl, rfl⟩ (by simp [V.pure, V.has, V.hasL]) (by simp) fun w0 out => ?_
 refine AW.seq ?_
 refine AW.region ?_
 refine AL.rp rfl rfl (rp_assign rfl rfl) ?_
 refine AL.nil ?_
 try simp only [thenS, S.put, enum, List.nil_append, List.cons_append, List.append_nil, Nat.zero_add, Nat.reduceAdd]
 refine AW.seq ?_
 refine AW.seq ?_
 refine AW.region ?_
 refine AL.rp rfl rfl (rp_move rfl rfl) ?_
 refine AL.call rfl (sm_eqnil Try.underlying48 rfl rfl rfl rfl) ?_
 rintro _ ⟨b, rfl, hnil⟩ -
 refine AL.nil ?_
 try simp only [thenS, S.put, S.newObj, setL, V.cs, List.length_cons, List.length_nil, List.take_succ_cons, List.take_zero, List.drop_succ_cons, List.drop_zero, List.drop_nil, List.nil_append, List.cons_append, List.append_nil, Nat.zero_add, Nat.reduceAdd, List.map_cons, List.map_nil, List.set_cons_zero, List.set_cons_succ]
 cases b with
 | true =>
  have h0 := hnil rfl
  have h1 : l = [] := by simpa using h0
  subst h1
  refine AW.condT rfl ?_
  refine AW.seq ?_
  refine AW.region ?_
  refine AL.rp rfl rfl (rp_assign rfl rfl) ?_
  refine AL.nil ?_
  try simp only [thenS, S.put]
  refine AW.adopt 2 900 4 54 rfl rfl ?_
  refine AW.ret ?_
  exact ⟨[_], [(900, ⟨54, [], true, 4⟩)], ⟨rfl, trivial⟩, ⟨rfl, trivial⟩, ⟨true, fun _ => rfl, rfl, rfl⟩, by simp [tupOf, V.has], fun r row k h1 h2 => by
    simp only [fnd, beq_iff_eq] at h1
    split at h1
    ·cases h1; first | (rw [hasL_ar] at h2; cases h2) | (simp [V.hasL] at h2)
    ·cases h1⟩
 | false =>
  by_cases h0 : l = []
  ·subst h0
   refine AW.condF rfl ?_
   refine AW.skip ?_
   try simp only [thenS]
   refine AW.seq ?_
   refine AW.region ?_
   refine AL.sm rfl (sm_slice0 900 Try.underlying48 inf54 rfl (by first | rfl | simp [S.clean, S.put, S.newObj, S.forget, V.has, V.hasL, junkIf, setL, V.cs, hasL_i, hasL_d, hasL_b, hasL_s, hasL_n, hasL_rep, hasL_flat, hasL_append, -List.map_set]) rfl) ?_
   refine AL.rp rfl rfl (rp_move rfl rfl) ?_
   (first | (refine AL.rp rfl rfl (rp_append_nil Try.underlying48 inf54 rfl rfl rfl) ?_) | (refine AL.rp rfl rfl (rp_append_none Try.underlying48 inf54 rfl rfl rfl) ?_))
   refine AL.rp rfl rfl (rp_assign rfl rfl) ?_
   refine AL.nil ?_
   try simp only [thenS, S.put, S.newObj, setL, V.cs, List.length_cons, List.length_nil, List.take_succ_cons, List.take_zero, List.drop_succ_cons, List.drop_zero, List.drop_nil, List.nil_append, List.cons_append, List.append_nil, Nat.zero_add, Nat.reduceAdd, List.map_cons, List.map_nil, List.set_cons_zero, List.set_cons_succ]
   refine AW.ret ?_
   exact ⟨[_], [(900, ⟨54, [], false, 4⟩)], ⟨rfl, trivial⟩, ⟨rfl, trivial⟩, ⟨false, (fun h => by cases h), rfl, rfl⟩, by simp [tupOf, V.has], fun r row k h1 h2 => by
    simp only [fnd, beq_iff_eq] at h1
    split at h1
    ·cases h1; first | (rw [hasL_ar] at h2; cases h2) | (simp [V.hasL] at h2)
    ·cases h1⟩
  ·have hlen : 0 < l.length := List.length_pos_iff.2 h0
   refine AW.condF rfl ?_
   refine AW.skip ?_
   try simp only [thenS]
   refine AW.seq ?_
   refine AW.region ?_
   refine AL.sm rfl (sm_slice0 900 Try.underlying48 inf54 rfl (by first | rfl | simp [S.clean, S.put, S.newObj, S.forget, V.has, V.hasL, junkIf, setL, V.cs, hasL_i, hasL_d, hasL_b, hasL_s, hasL_n, hasL_rep, hasL_flat, hasL_append, -List.map_set]) rfl) ?_
   refine AL.rp rfl rfl (rp_move rfl rfl) ?_
   refine AL.st rfl (st_appendA Try.underlying48 inf54 rfl rfl rfl rfl rfl rfl rfl rfl rfl (by first | rfl | simp [S.clean, S.put, S.newObj, S.forget, V.has, V.hasL, junkIf, setL, V.cs, hasL_i, hasL_d, hasL_b, hasL_s, hasL_n, hasL_rep, hasL_flat, hasL_append, -List.map_set]) rfl (by assumption) (by omega) (by omega) rfl) ?_
   simp only [S.forget, S.put, S.newObj, junkIf, V.has, V.hasL, hasL_i, hasL_b, hasL_s, hasL_d, hasL_n, hasL_rep, hasL_flat, hasL_append, List.map_cons, List.map_nil, List.filter_cons, List.filter_nil, Nat.reduceBNe, Nat.reduceBEq, eq_self, bne_self_eq_false,  Bool.not_true, Bool.not_false, Bool.or_false, Bool.or_true, Bool.false_or, Bool.true_or, if_true, if_false, Bool.false_eq_true, ite_true, ite_false, ↓reduceIte, beq_self_eq_true, Nat.reduceEqDiff]
   refine AL.rp rfl rfl (rp_assign rfl rfl) ?_
   refine AL.nil ?_
   try simp only [thenS, S.put, S.newObj, setL, V.cs, List.length_cons, List.length_nil, List.take_succ_cons, List.take_zero, List.drop_succ_cons, List.drop_zero, List.drop_nil, List.nil_append, List.cons_append, List.append_nil, Nat.zero_add, Nat.reduceAdd, List.map_cons, List.map_nil, List.set_cons_zero, List.set_cons_succ]
   refine AW.ret ?_
   exact ⟨[_], [(900, ⟨54, l.flatMap arV4, false, 4⟩)], ⟨rfl, trivial⟩, ⟨rfl, trivial⟩, ⟨false, (fun h => by cases h), rfl, rfl⟩, by simp [tupOf, V.has], fun r row k h1 h2 => by
    simp only [fnd, beq_iff_eq] at h1
    split at h1
    ·cases h1; first | (rw [hasL_ar] at h2; cases h2) | (simp [V.hasL] at h2)
    ·cases h1⟩
end Go.Proofs.Ythlcginebeapdaa
namespace Go.Proofs.Ythlcginebeapdaa
open Go.RowKit
set_option linter.unusedSimpArgs false
set_option linter.unusedVariables false
set_option maxRecDepth 100000

def okA (y : Ar) : Prop := (0 ≤ y.i ∧ y.i ≤ 1000) ∧ (0 ≤ y.o ∧ y.o ≤ 1000) ∧ 0 ≤ y.t ∧ y.t ≤ 60
theorem am_by (kf : FuncId) : FnO Try.prog 61 [.fn kf []] (fun v H => v = .fn 70 [.ref 901 0] ∧ H = [(901, ⟨117, [.fn kf []], false, 0⟩)]) := by
 refine FnO.intro (n := 4) ⟨Try.func61, rfl, rfl, rfl, rfl⟩ (by simp [V.pure, V.has, V.hasL]) (by simp) fun w0 out => ?_
 refine AW.seq ?_
 refine AW.region ?_
 refine AL.sm rfl (sm_box 901 rfl rfl rfl (by first | rfl | simp [S.clean, S.put, S.newObj, S.forget, V.has, V.hasL, junkIf, setL, V.cs, hasL_i, hasL_d, hasL_b, hasL_s, hasL_n, hasL_rep, hasL_flat, hasL_append, -List.map_set]) rfl) ?_
 refine AL.rp rfl rfl (rp_assign rfl rfl) ?_
 refine AL.nil ?_
 try simp only [thenS, S.put, S.newObj, setL, V.cs, List.length_cons, List.length_nil, List.take_succ_cons, List.take_zero, List.drop_succ_cons, List.drop_zero, List.drop_nil, List.nil_append, List.cons_append, List.append_nil, Nat.zero_add, Nat.reduceAdd, List.map_cons, List.map_nil, List.set_cons_zero, List.set_cons_succ, enum]
 refine AW.seq ?_
 refine AW.region ?_
 refine AL.rp rfl rfl (rp_func (vs := [_]) rfl rfl) ?_
 refine AL.rp rfl rfl (rp_assign rfl rfl) ?_
 refine AL.nil ?_
 try simp only [thenS, S.put]
 refine AW.ret ?_
 exact ⟨[_], [(901, ⟨117, [.fn kf []], false, 0⟩)], ⟨rfl, trivial⟩, ⟨rfl, trivial⟩, ⟨rfl, rfl⟩, by simp [tupOf, V.has, V.hasL], fun r row k h1 h2 => by
  simp only [fnd, beq_iff_eq] at h1
  split at h1
  ·cases h1; simp [V.hasL, V.has] at h2
  ·cases h1⟩
theorem ent_by (args : Array Value) (w : World) : (callFunc 70 args).run Try.prog w = .ok (.enter 70 args) w := enters_of Try.func70 (by kernel_rfl) rfl args w
theorem ent_rk (args : Array Value) (w : World) : (callFunc 62 args).run Try.prog w = .ok (.enter 62 args) w := enters_of Try.func62 (by kernel_rfl) rfl args w
theorem am_Sorted1 (l : List Ar) (hl : l.length ≤ 400) : Fn2 Try.prog 67 59 [.d (arsD l)] (fun v => v = .d (arsD (inO l))) := by
 refine Fn2.intro (am_CloneA l) ⟨Try.func59, rfl, rfl, rfl, rfl⟩ (by decide) ?_
 rintro v H ⟨fl, hfl, rfl, rfl⟩ w0 out
 have hin := inO_len l
 refine AW.seq ?_
 refine AW.region ?_
 refine AL.rp rfl rfl (rp_assign rfl rfl) ?_
 refine AL.nil ?_
 try simp only [thenS, S.put, enum, List.nil_append, List.cons_append, List.append_nil, Nat.zero_add, Nat.reduceAdd]
 refine AW.seq ?_
 refine AW.region ?_
 refine AL.rp rfl rfl (rp_move rfl rfl) ?_
 refine AL.callo (post := ?pc0) rfl (sm_callo (args := [_]) ?hc0 ⟨Try.func61, rfl, rfl, rfl, rfl⟩ rfl rfl rfl rfl ?fc0) ?_
 case hc0 => exact am_by _
 case fc0 => exact (by rintro _ _ ⟨rfl, rfl⟩; first | rfl | simp [S.clean, S.put, S.newObj, S.forget, V.has, V.hasL, junkIf, setL, V.cs, hasL_i, hasL_b, hasL_s, hasL_n, hasL_rep, hasL_flat, hasL_append])
 rintro _ _ ⟨rfl, rfl⟩
 try dsimp only
 refine AL.st rfl (st_sort ⟨Try.func60, rfl, rfl, rfl, rfl⟩ srtR rfl rfl rfl rfl rfl (by omega) rfl rfl rfl (by decide) rfl ent_by (fun bk W a b hc => by_at readKey_at ent_rk bk a b W hc)) ?_
 try dsimp only
 refine AL.nil ?_
 try simp only [thenS, S.put, S.newObj, setL, V.cs, List.length_cons, List.length_nil, List.take_succ_cons, List.take_zero, List.drop_succ_cons, List.drop_zero, List.drop_nil, List.nil_append, List.cons_append, List.append_nil, Nat.zero_add, Nat.reduceAdd, List.map_cons, List.map_nil, List.set_cons_zero, List.set_cons_succ]
 refine AW.seq ?_
 refine AW.freeze 0 32 ((inO l).map arD) rfl rfl rfl (by rw [List.length_map, hin]) (by omega) (rowsF (enc := arD) (sz := 4) (l := inO l) (fun _ => rfl) rfl) ?_
 refine AW.region ?_
 refine AL.rp rfl rfl (rp_move rfl rfl) ?_
 refine AL.rp rfl rfl (rp_assign rfl rfl) ?_
 refine AL.nil ?_
 try simp only [thenS, S.put]
 refine AW.ret ?_
 exact ⟨[_], ⟨rfl, trivial⟩, rfl, by simp [tupOf, V.pure, V.has]⟩
/-- A machine whose arcs have been done something to. -/
def resM (res : List Ar → List Ar) (m : Mach) : Mach := if machE m = 0 then ⟨m.start, m.states.map fun s => ⟨s.fin, res s.arcs⟩⟩ else ⟨0, []⟩
theorem arc_le {l : List St} {x : St} (h : x ∈ l) : x.arcs.length ≤ arcN l := by
 induction l with
 | nil => cases h
 | cons y l ih =>
  unfold arcN at ih ⊢
  rw [List.map_cons, List.sum_cons]
  rcases List.mem_cons.1 h with rfl | h
  ·omega
  ·have := ih h; omega
set_option maxHeartbeats 1000000 in
theorem am_with0 (m : Mach) (f : FuncId) {fn : Func} {code : Code} {nn : Nat} {rs : List ResultVar} (hIs : Is Try.prog f fn code nn rs) (res : List Ar → List Ar)
  (hf : ∀ l : List Ar, l.length ≤ 400 → (∀ y ∈ l, okA y) → Fn2 Try.prog 67 f [.d (arsD l)] (fun v => v = .d (arsD (res l)))) : Fn Try.prog 58 [mV m, .fn f []] (fun v => resP (machE m) (resM res m) v) := by
 by_cases h0 : machE m = 0
 ·have hz := machE_zero h0
  have hR : resM res m = ⟨m.start, m.states.map fun s => ⟨s.fin, res s.arcs⟩⟩ := by unfold resM; rw [if_pos h0]
  rw [hR, h0]
  refine Fn.mach m 0 rfl fun hb hal => ?_
  obtain ⟨st, sts⟩ := m
  simp only at hb hal hz
  obtain ⟨n, hn⟩ : ∃ n, sts.length = n := ⟨_, rfl⟩
  rw [hn] at hb
  refine Fn.intro (n := 41) ⟨Try.func58, rfl, rfl, rfl, rfl⟩ (by simp [V.pure, V.has, V.hasL]) (by simp) fun w0 out => ?_
  refine AW.seq ?_
  refine AW.region ?_
  refine AL.sm rfl (sm_box 2 rfl rfl rfl (by first | rfl | simp [S.clean, S.put, S.newObj, S.forget, V.has, V.hasL, junkIf, setL, V.cs, hasL_i, hasL_d, hasL_b, hasL_s, hasL_n, hasL_rep, hasL_flat, hasL_append, -List.map_set]) rfl) ?_
  refine AL.sm rfl (sm_alloc (l := [.d (.p (.int .i64 0)), .d (.p (.slice none 0 0))]) 4 inf24 rfl (by first | rfl | simp [S.clean, S.put, S.newObj, S.forget, V.has, V.hasL, junkIf, setL, V.cs, hasL_i, hasL_d, hasL_b, hasL_s, hasL_n, hasL_rep, hasL_flat, hasL_append, -List.map_set]) rfl rfl) ?_
  refine AL.rp rfl rfl (rp_assign rfl rfl) ?_
  refine AL.nil ?_
  try simp only [thenS, S.put, S.newObj, setL, V.cs, List.length_cons, List.length_nil, List.take_succ_cons, List.take_zero, List.drop_succ_cons, List.drop_zero, List.drop_nil, List.nil_append, List.cons_append, List.append_nil, Nat.zero_add, Nat.reduceAdd, List.map_cons, List.map_nil, List.set_cons_zero, List.set_cons_succ, enum]
  refine AW.seq ?_
  refine AW.seq ?_
  refine AW.region ?_
  (first | (refine AL.rd rfl rfl (rd_loads_ref Try.underlying24 rfl inf24 rfl rfl rfl rfl rfl rfl) ?_) | (refine AL.rd rfl rfl (rd_loads_ad Try.underlying24 rfl inf24 rfl rfl rfl rfl) ?_))
  refine AL.call (post := ?pc1) rfl (sm_call (args := [_]) ?hc1 ⟨Try.func10, rfl, rfl, rfl, rfl⟩ rfl rfl rfl rfl) ?_
  case hc1 => exact Fn.eqi (am_Check ⟨st, sts⟩) h0
  rintro _ rfl -
  try dsimp only
  refine AL.rp rfl rfl (rp_assign rfl rfl) ?_
  refine AL.nil ?_
  try simp only [thenS, S.put, S.newObj, setL, V.cs, List.length_cons, List.length_nil, List.take_succ_cons, List.take_zero, List.drop_succ_cons, List.drop_zero, List.drop_nil, List.nil_append, List.cons_append, List.append_nil, Nat.zero_add, Nat.reduceAdd, List.map_cons, List.map_nil, List.set_cons_zero, List.set_cons_succ]
  refine AW.seq ?_
  refine AW.region ?_
  refine AL.rp rfl rfl (rp_move rfl rfl) ?_
  (first | (refine AL.rp rfl rfl (rp_neqT rfl rfl rfl (by first | assumption | omega | (dsimp only; omega))) ?_) | (refine AL.rp rfl rfl (rp_neqF rfl rfl rfl (by first | assumption | omega | (dsimp only; omega))) ?_) | (refine AL.rp rfl rfl (rp_neq rfl rfl rfl) ?_))
  refine AL.nil ?_
  try simp only [thenS, S.put]
  refine AW.condF rfl ?_
  refine AW.skip ?_
  try simp only [thenS]
  refine AW.seq ?_
  refine AW.region ?_
  (first | (refine AL.rp rfl rfl (rp_field_ref Try.underlying24 rfl rfl rfl inf3 (by decide) rfl) ?_) | (refine AL.rp rfl rfl (rp_field_ad Try.underlying24 rfl rfl rfl inf3 (by decide) rfl) ?_))
  (first | (refine AL.rd rfl rfl (rd_load_ref Try.underlying3 rfl rfl rfl rfl rfl rfl) ?_) | (refine AL.rd rfl rfl (rd_load_ad Try.underlying3 rfl rfl rfl rfl) ?_) | (refine AL.rd rfl rfl (rd_load_map Try.underlying3 rfl rfl rfl rfl rfl rfl (by assumption)) ?_) | (refine AL.rd rfl rfl (rd_load_flat Try.underlying3 rfl rfl rfl rfl rfl rfl (fun _ => rfl) (by assumption) rfl) ?_))
  refine AL.rp rfl rfl (rp_build (vs := [(0, _)]) (zs := [.d (.p (.int .i64 0)), .d (.p (.slice none 0 0))]) pl24 inf24 rfl rfl rfl rfl) ?_
  refine AL.sm rfl (sm_alloc (l := [.d (.p (.int .i64 0)), .d (.p (.slice none 0 0))]) 7 inf24 rfl (by first | rfl | simp [S.clean, S.put, S.newObj, S.forget, V.has, V.hasL, junkIf, setL, V.cs, hasL_i, hasL_d, hasL_b, hasL_s, hasL_n, hasL_rep, hasL_flat, hasL_append, -List.map_set]) rfl rfl) ?_
  refine AL.st rfl (st_store_any inf24 rfl rfl rfl rfl rfl rfl rfl rfl (by first | decide | (simp; done) | (simp; omega)) rfl) ?_
  refine AL.nil ?_
  try simp only [thenS, S.put, S.newObj, setL, V.cs, List.length_cons, List.length_nil, List.take_succ_cons, List.take_zero, List.drop_succ_cons, List.drop_zero, List.drop_nil, List.nil_append, List.cons_append, List.append_nil, Nat.zero_add, Nat.reduceAdd, List.map_cons, List.map_nil, List.set_cons_zero, List.set_cons_succ]
  refine AW.seq ?_
  refine AW.seq ?_
  refine AW.adoptH 7 1 901 2 50 rfl rfl rfl (by simp [S.clean, V.has, V.hasL, V.cs, setL]) ?_
  refine AW.region ?_
  (first | (refine AL.rp rfl rfl (rp_field_ref Try.underlying24 rfl rfl rfl inf22 (by decide) rfl) ?_) | (refine AL.rp rfl rfl (rp_field_ad Try.underlying24 rfl rfl rfl inf22 (by decide) rfl) ?_))
  (first | (refine AL.rd rfl rfl (rd_load_ref Try.underlying22 rfl rfl rfl rfl rfl rfl) ?_) | (refine AL.rd rfl rfl (rd_load_ad Try.underlying22 rfl rfl rfl rfl) ?_) | (refine AL.rd rfl rfl (rd_load_map Try.underlying22 rfl rfl rfl rfl rfl rfl (by assumption)) ?_) | (refine AL.rd rfl rfl (rd_load_flat Try.underlying22 rfl rfl rfl rfl rfl rfl (fun _ => rfl) (by assumption) rfl) ?_))
  (first | (refine AL.rp rfl rfl (rp_len_map Try.underlying22 rfl rfl (by assumption)) ?_) | (refine AL.rp rfl rfl (rp_len_own Try.underlying22 rfl rfl) ?_) | (refine AL.rp rfl rfl (rp_len_sl Try.underlying22 rfl rfl) ?_) | (refine AL.rp rfl rfl (rp_len_nil Try.underlying22 rfl rfl) ?_) | (refine AL.rp rfl rfl (rp_len_str Try.underlying22 rfl rfl) ?_))
  refine AL.rp rfl rfl (rp_move rfl rfl) ?_
  refine AL.nil ?_
  try simp only [thenS, S.put]
  refine AW.block ?_
  refine AW.loop (fun s' => ∃ (k : Nat) (P : List St), k ≤ n ∧ P = (sts.take k).map (fun s => ⟨s.fin, res s.arcs⟩) ∧ P.length = k ∧ s' = ⟨41, [(1, .fn f []), (4, .ref 4 0), (7, .ref 7 0), (20, .d (stsD sts)), (21, .i n), (22, .i k)], [(4, ⟨24, [.i 0, .nil], false, 0⟩), (7, ⟨24, [.i st, .own 901 2 k (decide (k = 0))], false, 0⟩), (901, ⟨50, P.flatMap stV2, decide (k = 0), 2⟩)], []⟩) (fun s' => n - s'.nat 22) ⟨_, ?_, 0, [], by omega, rfl, rfl, rfl⟩ ?_
  ·exact (Less.of rfl (by repeat (first | exact trivial | refine ⟨⟨_, rfl, Wk.refl _⟩, ?_⟩ | refine ⟨⟨_, rfl, Wk.nil _ _⟩, ?_⟩ | refine ⟨⟨_, rfl, Wk.junk _⟩, ?_⟩)) (by repeat (first | exact trivial | refine ⟨rfl, ?_⟩)) rfl)
  rintro s' ⟨k, P, hk, hP, hPl, rfl⟩
  have hfl : (P.flatMap stV2).length = k * 2 := by rw [flat_len (sz := 2) (fun _ => rfl), hPl]
  by_cases hlt : k < n
  ·obtain ⟨x, hx⟩ := get_lt hn hlt
   have hxm := List.mem_of_getElem? hx
   have hxl := arc_le hxm
   have hsn := take_snoc hx
   have hxo : ∀ y ∈ x.arcs, okA y := fun y hy => by
    have h := (hz.2.2.2 x hxm).2 y hy
    simp only [arOk, decide_eq_true_eq] at h
    exact ⟨h.1, h.2.1, h.2.2.2.1, by omega⟩
   have hcl := hf x.arcs (by omega) hxo
   clear hxo
   refine AW.seq ?_
   refine AW.region ?_
   (first | (refine AL.rp rfl rfl (rp_lssT rfl rfl rfl (by first | assumption | omega | (dsimp only; omega))) ?_) | (refine AL.rp rfl rfl (rp_lssF rfl rfl rfl (by first | assumption | omega | (dsimp only; omega))) ?_) | (refine AL.rp rfl rfl (rp_lss rfl rfl rfl) ?_))
   refine AL.nil ?_
   try simp only [thenS, S.put]
   refine AW.seq ?_
   refine AW.condT rfl ?_
   refine AW.skip ?_
   try simp only [thenS]
   refine AW.seq ?_
   refine AW.block ?_
   refine AW.seq ?_
   refine AW.region ?_
   (first | (refine AL.rp rfl rfl (rp_index_map Try.underlying22 inf50 rfl rfl rfl rfl (by assumption)) ?_) | (refine AL.rp rfl rfl (rp_index_own Try.underlying22 inf50 rfl rfl rfl rfl (by first | assumption | omega)) ?_) | (refine AL.rp rfl rfl (rd_index_sl Try.underlying22 inf50 rfl rfl rfl rfl (by assumption)) ?_) | (refine AL.rp rfl rfl (rp_index_own Try.underlying22 inf50 rfl rfl rfl (by omega) (by omega)) ?_))
   (first | (refine AL.rd rfl rfl (rd_loads_ref Try.underlying50 rfl inf50 rfl rfl rfl rfl rfl rfl) ?_) | (refine AL.rd rfl rfl (rd_loads_ad Try.underlying50 rfl inf50 rfl rfl rfl rfl) ?_))
   refine AL.sm rfl (sm_alloc (l := [.d (.p (.int .i64 0)), .d (.p (.slice none 0 0))]) 9 inf50 rfl (by first | rfl | simp [S.clean, S.put, S.newObj, S.forget, V.has, V.hasL, junkIf, setL, V.cs, hasL_i, hasL_d, hasL_b, hasL_s, hasL_n, hasL_rep, hasL_flat, hasL_append, -List.map_set]) rfl rfl) ?_
   refine AL.st rfl (st_store_any inf50 rfl rfl rfl rfl rfl rfl rfl rfl (by first | decide | (simp; done) | (simp; omega)) rfl) ?_
   refine AL.nil ?_
   try simp only [thenS, S.put, S.newObj, setL, V.cs, List.length_cons, List.length_nil, List.take_succ_cons, List.take_zero, List.drop_succ_cons, List.drop_zero, List.drop_nil, List.nil_append, List.cons_append, List.append_nil, Nat.zero_add, Nat.reduceAdd, List.map_cons, List.map_nil, List.set_cons_zero, List.set_cons_succ]
   refine AW.draw [(0, true), (1, true), (2, true), (3, true), (4, true), (5, true), (6, true), (7, false), (8, false), (9, false), (10, false), (11, false), (12, false), (13, false)] (fun i => !([11, 12, 13] : List Nat).contains i) 14 (by kernel_rfl) (by kernel_rfl) rfl (by kernel_rfl) ?_
   (first | (refine AD1.rp rfl rfl rfl (fun _ _ h => h) (rp_field_ref Try.underlying24 rfl rfl rfl inf22 (by decide) rfl) ?_) | (refine AD1.rp rfl rfl rfl (fun _ _ h => h) (rp_field_ad Try.underlying24 rfl rfl rfl inf22 (by decide) rfl) ?_))
   (first | (refine AD1.rd rfl rfl rfl (fun _ _ h => h) (rd_load_ref Try.underlying22 rfl rfl rfl rfl rfl rfl) ?_) | (refine AD1.rd rfl rfl rfl (fun _ _ h => h) (rd_load_ad Try.underlying22 rfl rfl rfl rfl) ?_) | (refine AD1.rd rfl rfl rfl (fun _ _ h => h) (rd_load_map Try.underlying22 rfl rfl rfl rfl rfl rfl (by assumption)) ?_) | (refine AD1.rd rfl rfl rfl (fun _ _ h => h) (rd_load_flat Try.underlying22 rfl rfl rfl rfl rfl rfl (fun _ => rfl) (by assumption) rfl) ?_))
   (first | (refine AD1.rp rfl rfl rfl (fun _ _ h => h) (rp_field_ref Try.underlying50 rfl rfl rfl inf3 (by decide) rfl) ?_) | (refine AD1.rp rfl rfl rfl (fun _ _ h => h) (rp_field_ad Try.underlying50 rfl rfl rfl inf3 (by decide) rfl) ?_))
   (first | (refine AD1.rd rfl rfl rfl (fun _ _ h => h) (rd_load_ref Try.underlying3 rfl rfl rfl rfl rfl rfl) ?_) | (refine AD1.rd rfl rfl rfl (fun _ _ h => h) (rd_load_ad Try.underlying3 rfl rfl rfl rfl) ?_) | (refine AD1.rd rfl rfl rfl (fun _ _ h => h) (rd_load_map Try.underlying3 rfl rfl rfl rfl rfl rfl (by assumption)) ?_) | (refine AD1.rd rfl rfl rfl (fun _ _ h => h) (rd_load_flat Try.underlying3 rfl rfl rfl rfl rfl rfl (fun _ => rfl) (by assumption) rfl) ?_))
   refine AD1.rp rfl rfl rfl (fun _ _ h => h) (rp_move rfl rfl) ?_
   (first | (refine AD1.rp rfl rfl rfl (fun _ _ h => h) (rp_field_ref Try.underlying50 rfl rfl rfl inf48 (by decide) rfl) ?_) | (refine AD1.rp rfl rfl rfl (fun _ _ h => h) (rp_field_ad Try.underlying50 rfl rfl rfl inf48 (by decide) rfl) ?_))
   (first | (refine AD1.rd rfl rfl rfl (fun _ _ h => h) (rd_load_ref Try.underlying48 rfl rfl rfl rfl rfl rfl) ?_) | (refine AD1.rd rfl rfl rfl (fun _ _ h => h) (rd_load_ad Try.underlying48 rfl rfl rfl rfl) ?_) | (refine AD1.rd rfl rfl rfl (fun _ _ h => h) (rd_load_map Try.underlying48 rfl rfl rfl rfl rfl rfl (by assumption)) ?_) | (refine AD1.rd rfl rfl rfl (fun _ _ h => h) (rd_load_flat Try.underlying48 rfl rfl rfl rfl rfl rfl (fun _ => rfl) (by assumption) rfl) ?_))
   refine AD1.go ?_
   refine AD2.call2 (post := ?pc2) (args := [_]) rfl rfl rfl rfl ?hc2 ⟨Try.func67, rfl, rfl, rfl, rfl⟩ (by assumption) rfl rfl rfl rfl (show 33 < 41 from by decide) rfl rfl rfl ?_
   case hc2 => exact hcl
   rintro _ rfl -
   try dsimp only
   refine AD2.rp1 rfl rfl rfl (rp_build (vs := [(0, _), (1, _)]) (zs := [.d (.p (.int .i64 0)), .d (.p (.slice none 0 0))]) pl50 inf50 rfl rfl rfl rfl) ?_
   refine AD2.sm rfl rfl (sm_slice (vs := [(0, _)]) (zs := [.d (.p (.int .i64 0)), .d (.p (.slice none 0 0))]) 36 Try.underlying22 inf50 rfl rfl (by decide) (by decide) (by decide) rfl rfl rfl rfl (by first | rfl | simp [S.clean, S.put, S.newObj, S.forget, V.has, V.hasL, junkIf, setL, V.cs, hasL_i, hasL_d, hasL_b, hasL_s, hasL_n, hasL_rep, hasL_flat, hasL_append, -List.map_set]) (by first | rfl | simp [S.clean, S.put, S.newObj, S.forget, V.has, V.hasL, junkIf, setL, V.cs, hasL_i, hasL_d, hasL_b, hasL_s, hasL_n, hasL_rep, hasL_flat, hasL_append, -List.map_set]) rfl) ?_
   refine AD2.go ?_
   refine AD3.st rfl rfl rfl (st_appendF Try.underlying22 inf50 rfl (by decide) rfl rfl rfl rfl rfl rfl (by first | assumption | rfl | (simp; done)) (by first | rfl | simp [S.clean, S.put, S.newObj, S.forget, V.has, V.hasL, junkIf, setL, V.cs, hasL_i, hasL_d, hasL_b, hasL_s, hasL_n, hasL_rep, hasL_flat, hasL_append, -List.map_set]) rfl rfl rfl rfl rfl (by first | rfl | simp [S.clean, S.put, S.newObj, S.forget, V.has, V.hasL, junkIf, setL, V.cs, hasL_i, hasL_d, hasL_b, hasL_s, hasL_n, hasL_rep, hasL_flat, hasL_append, -List.map_set]) rfl (by decide) (by omega) (by omega) rfl) ?_
   simp only [S.forget, S.put, S.newObj, junkIf, V.has, V.hasL, hasL_i, hasL_b, hasL_s, hasL_d, hasL_n, hasL_rep, hasL_flat, hasL_append, List.map_cons, List.map_nil, List.filter_cons, List.filter_nil, Nat.reduceBNe, Nat.reduceBEq, eq_self, bne_self_eq_false,  Bool.not_true, Bool.not_false, Bool.or_false, Bool.or_true, Bool.false_or, Bool.true_or, if_true, if_false, Bool.false_eq_true, ite_true, ite_false, ↓reduceIte, beq_self_eq_true, Nat.reduceEqDiff]
   (first | (refine AD3.rp1 rfl rfl rfl rfl (rp_field_ref Try.underlying24 rfl rfl rfl inf22 (by decide) rfl) ?_) | (refine AD3.rp1 rfl rfl rfl rfl (rp_field_ad Try.underlying24 rfl rfl rfl inf22 (by decide) rfl) ?_))
   (first | (refine AD3.st rfl rfl rfl (st_store_map2 inf22 rfl rfl rfl rfl rfl rfl rfl rfl (by first | assumption | omega)) ?_) | (refine AD3.st rfl rfl rfl (st_store inf22 rfl rfl rfl rfl rfl rfl rfl (by first | decide | (simp; done)) rfl) ?_))
   refine AD3.nil ?_
   try simp only [thenS, S.put, S.newObj, setL, V.cs, List.length_cons, List.length_nil, List.take_succ_cons, List.take_zero, List.drop_succ_cons, List.drop_zero, List.drop_nil, List.nil_append, List.cons_append, List.append_nil, Nat.zero_add, Nat.reduceAdd, List.map_cons, List.map_nil, List.set_cons_zero, List.set_cons_succ]
   refine AW.region ?_
   refine AL.rp rfl rfl (rp_add rfl rfl rfl (by first | omega | (dsimp only; omega))) ?_
   refine AL.rp rfl rfl (rp_move rfl rfl) ?_
   refine AL.nil ?_
   try simp only [thenS, S.put]
   refine ⟨_, ?_, ⟨k + 1, P ++ [⟨x.fin, res x.arcs⟩], by omega, by rw [hsn, List.map_append, hP]; rfl, by simp [hPl], rfl⟩, ?_⟩
   ·simp only [List.map_append, List.map_cons, List.map_nil, List.flatMap_append, List.flatMap_cons, List.flatMap_nil, List.append_nil]
    exact (Less.of rfl (by repeat (first | exact trivial | refine ⟨⟨_, rfl, Wk.refl _⟩, ?_⟩ | refine ⟨⟨_, rfl, Wk.nil _ _⟩, ?_⟩ | refine ⟨⟨_, rfl, Wk.junk _⟩, ?_⟩)) (by repeat (first | exact trivial | refine ⟨rfl, ?_⟩)) rfl)
   ·simp [S.nat, fnd]; omega
  ·obtain rfl : k = n := by omega
   rw [List.take_of_length_le (by omega)] at hP
   refine AW.seq ?_
   refine AW.region ?_
   (first | (refine AL.rp rfl rfl (rp_lssT rfl rfl rfl (by first | assumption | omega | (dsimp only; omega))) ?_) | (refine AL.rp rfl rfl (rp_lssF rfl rfl rfl (by first | assumption | omega | (dsimp only; omega))) ?_) | (refine AL.rp rfl rfl (rp_lss rfl rfl rfl) ?_))
   refine AL.nil ?_
   try simp only [thenS, S.put]
   refine AW.seq ?_
   refine AW.condF rfl ?_
   refine AW.exit ?_
   try simp only [thenS, inBlockS, ↓reduceIte, Nat.reduceEqDiff]
   refine AW.seq ?_
   refine AW.freezeH 7 1 32 (P.map stD) rfl rfl rfl (by decide) rfl rfl (by rw [List.length_map, hPl]) (by omega) (rowsF (enc := stD) (sz := 2) (l := P) (fun _ => rfl) rfl) ?_
   refine AW.region ?_
   (first | (refine AL.rd rfl rfl (rd_loads_ref Try.underlying24 rfl inf24 rfl rfl rfl rfl rfl rfl) ?_) | (refine AL.rd rfl rfl (rd_loads_ad Try.underlying24 rfl inf24 rfl rfl rfl rfl) ?_))
   refine AL.st rfl (st_store_any inf24 rfl rfl rfl rfl rfl rfl rfl rfl (by first | decide | (simp; done) | (simp; omega)) rfl) ?_
   refine AL.rp rfl rfl (rp_assign rfl rfl) ?_
   refine AL.nil ?_
   try simp only [thenS, S.put, S.newObj, setL, V.cs, List.length_cons, List.length_nil, List.take_succ_cons, List.take_zero, List.drop_succ_cons, List.drop_zero, List.drop_nil, List.nil_append, List.cons_append, List.append_nil, Nat.zero_add, Nat.reduceAdd, List.map_cons, List.map_nil, List.set_cons_zero, List.set_cons_succ]
   refine AW.ret ?_
   exact ⟨[_, _], ⟨⟨4, 0, _, _, rfl, rfl, rfl, Try.underlying24, .inr ⟨rfl, _, _, _, _, inf24, rfl, rfl, rfl⟩⟩, rfl, trivial⟩, .inr ⟨rfl, by rw [hP]; rfl⟩, by simp [tupOf, V.pure, V.has, V.hasL]⟩
 ·obtain ⟨e, he⟩ : ∃ e, machE m = e := ⟨_, rfl⟩
  rw [he]
  rw [he] at h0
  obtain ⟨⟨st, sts⟩, rfl⟩ : ∃ m', m' = m := ⟨m, rfl⟩
  refine Fn.intro (n := 41) ⟨Try.func58, rfl, rfl, rfl, rfl⟩ (by simp [V.pure, V.has, V.hasL]) (by simp) fun w0 out => ?_
  refine AW.seq ?_
  refine AW.region ?_
  refine AL.sm rfl (sm_box 2 rfl rfl rfl (by first | rfl | simp [S.clean, S.put, S.newObj, S.forget, V.has, V.hasL, junkIf, setL, V.cs, hasL_i, hasL_d, hasL_b, hasL_s, hasL_n, hasL_rep, hasL_flat, hasL_append, -List.map_set]) rfl) ?_
  refine AL.sm rfl (sm_alloc (l := [.d (.p (.int .i64 0)), .d (.p (.slice none 0 0))]) 4 inf24 rfl (by first | rfl | simp [S.clean, S.put, S.newObj, S.forget, V.has, V.hasL, junkIf, setL, V.cs, hasL_i, hasL_d, hasL_b, hasL_s, hasL_n, hasL_rep, hasL_flat, hasL_append, -List.map_set]) rfl rfl) ?_
  refine AL.rp rfl rfl (rp_assign rfl rfl) ?_
  refine AL.nil ?_
  try simp only [thenS, S.put, S.newObj, setL, V.cs, List.length_cons, List.length_nil, List.take_succ_cons, List.take_zero, List.drop_succ_cons, List.drop_zero, List.drop_nil, List.nil_append, List.cons_append, List.append_nil, Nat.zero_add, Nat.reduceAdd, List.map_cons, List.map_nil, List.set_cons_zero, List.set_cons_succ, enum]
  refine AW.seq ?_
  refine AW.seq ?_
  refine AW.region ?_
  (first | (refine AL.rd rfl rfl (rd_loads_ref Try.underlying24 rfl inf24 rfl rfl rfl rfl rfl rfl) ?_) | (refine AL.rd rfl rfl (rd_loads_ad Try.underlying24 rfl inf24 rfl rfl rfl rfl) ?_))
  refine AL.call (post := ?pc3) rfl (sm_call (args := [_]) ?hc3 ⟨Try.func10, rfl, rfl, rfl, rfl⟩ rfl rfl rfl rfl) ?_
  case hc3 => exact Fn.eqi (am_Check ⟨st, sts⟩) he
  rintro _ rfl -
  try dsimp only
  refine AL.rp rfl rfl (rp_assign rfl rfl) ?_
  refine AL.nil ?_
  try simp only [thenS, S.put, S.newObj, setL, V.cs, List.length_cons, List.length_nil, List.take_succ_cons, List.take_zero, List.drop_succ_cons, List.drop_zero, List.drop_nil, List.nil_append, List.cons_append, List.append_nil, Nat.zero_add, Nat.reduceAdd, List.map_cons, List.map_nil, List.set_cons_zero, List.set_cons_succ]
  refine AW.seq ?_
  refine AW.region ?_
  refine AL.rp rfl rfl (rp_move rfl rfl) ?_
  (first | (refine AL.rp rfl rfl (rp_neqT rfl rfl rfl (by first | assumption | omega | (dsimp only; omega))) ?_) | (refine AL.rp rfl rfl (rp_neqF rfl rfl rfl (by first | assumption | omega | (dsimp only; omega))) ?_) | (refine AL.rp rfl rfl (rp_neq rfl rfl rfl) ?_))
  refine AL.nil ?_
  try simp only [thenS, S.put]
  refine AW.condT rfl ?_
  refine AW.seq ?_
  refine AW.region ?_
  refine AL.rp rfl rfl (rp_build (vs := []) (zs := [.d (.p (.int .i64 0)), .d (.p (.slice none 0 0))]) pl24 inf24 rfl rfl rfl rfl) ?_
  refine AL.rp rfl rfl (rp_move rfl rfl) ?_
  refine AL.st rfl (st_store_any inf24 rfl rfl rfl rfl rfl rfl rfl rfl (by first | decide | (simp; done) | (simp; omega)) rfl) ?_
  refine AL.rp rfl rfl (rp_assign rfl rfl) ?_
  refine AL.nil ?_
  try simp only [thenS, S.put, S.newObj, setL, V.cs, List.length_cons, List.length_nil, List.take_succ_cons, List.take_zero, List.drop_succ_cons, List.drop_zero, List.drop_nil, List.nil_append, List.cons_append, List.append_nil, Nat.zero_add, Nat.reduceAdd, List.map_cons, List.map_nil, List.set_cons_zero, List.set_cons_succ]
  refine AW.ret ?_
  exact ⟨[_, _], ⟨⟨4, 0, _, _, rfl, rfl, rfl, Try.underlying24, .inr ⟨rfl, _, _, _, _, inf24, rfl, rfl, rfl⟩⟩, rfl, trivial⟩, .inl ⟨h0, rfl⟩, by simp [tupOf, V.pure, V.has, V.hasL]⟩
theorem am_with (m : Mach) (f : FuncId) {fn : Func} {code : Code} {nn : Nat} {rs : List ResultVar} (hIs : Is Try.prog f fn code nn rs) (res : List Ar → List Ar)
  (hf : ∀ l : List Ar, l.length ≤ 400 → (∀ y ∈ l, okA y) → Fn2 Try.prog 67 f [.d (arsD l)] (fun v => v = .d (arsD (res l)))) : Fn Try.prog 58 [mV m, .fn f []] (fun v => v = .tup [mV (resM res m), .i (machE m)]) :=
 (am_with0 m f hIs res hf).wkS (resP_wk fun h => by unfold resM; rw [if_neg h])
theorem am_Sorted (m : Mach) : Fn Try.prog 40 [mV m] (fun v => v = .tup [mV (resM inO m), .i (machE m)]) := by
 have hw := am_with m 59 ⟨Try.func59, rfl, rfl, rfl, rfl⟩ inO fun l h _ => am_Sorted1 l h
 obtain ⟨M, hM⟩ : ∃ M, resM inO m = M := ⟨_, rfl⟩
 rw [hM] at hw ⊢
 refine Fn.intro (n := 8) ⟨Try.func40, rfl, rfl, rfl, rfl⟩ (by simp [V.pure, V.has, V.hasL]) (by simp) fun w0 out => ?_
 refine AW.seq ?_
 refine AW.region ?_
 refine AL.sm rfl (sm_box 1 rfl rfl rfl (by first | rfl | simp [S.clean, S.put, S.newObj, S.forget, V.has, V.hasL, junkIf, setL, V.cs, hasL_i, hasL_d, hasL_b, hasL_s, hasL_n, hasL_rep, hasL_flat, hasL_append, -List.map_set]) rfl) ?_
 refine AL.sm rfl (sm_alloc (l := [.d (.p (.int .i64 0)), .d (.p (.slice none 0 0))]) 2 inf24 rfl (by first | rfl | simp [S.clean, S.put, S.newObj, S.forget, V.has, V.hasL, junkIf, setL, V.cs, hasL_i, hasL_d, hasL_b, hasL_s, hasL_n, hasL_rep, hasL_flat, hasL_append, -List.map_set]) rfl rfl) ?_
 refine AL.rp rfl rfl (rp_assign rfl rfl) ?_
 refine AL.nil ?_
 try simp only [thenS, S.put, S.newObj, setL, V.cs, List.length_cons, List.length_nil, List.take_succ_cons, List.take_zero, List.drop_succ_cons, List.drop_zero, List.drop_nil, List.nil_append, List.cons_append, List.append_nil, Nat.zero_add, Nat.reduceAdd, List.map_cons, List.map_nil, List.set_cons_zero, List.set_cons_succ, enum]
 refine AW.seq ?_
 refine AW.region ?_
 (first | (refine AL.rd rfl rfl (rd_loads_ref Try.underlying24 rfl inf24 rfl rfl rfl rfl rfl rfl) ?_) | (refine AL.rd rfl rfl (rd_loads_ad Try.underlying24 rfl inf24 rfl rfl rfl rfl) ?_))
 refine AL.call (post := ?pc4) rfl (sm_call (args := [_, _]) ?hc4 ⟨Try.func58, rfl, rfl, rfl, rfl⟩ rfl rfl rfl rfl) ?_
 case hc4 => exact hw
 rintro _ rfl -
 try dsimp only
 refine AL.rp rfl rfl (rp_extract rfl rfl rfl) ?_
 refine AL.rp rfl rfl (rp_extract rfl rfl rfl) ?_
 refine AL.st rfl (st_store_any inf24 rfl rfl rfl rfl rfl rfl rfl rfl (by first | decide | (simp; done) | (simp; omega)) rfl) ?_
 refine AL.rp rfl rfl (rp_assign rfl rfl) ?_
 refine AL.nil ?_
 try simp only [thenS, S.put, S.newObj, setL, V.cs, List.length_cons, List.length_nil, List.take_succ_cons, List.take_zero, List.drop_succ_cons, List.drop_zero, List.drop_nil, List.nil_append, List.cons_append, List.append_nil, Nat.zero_add, Nat.reduceAdd, List.map_cons, List.map_nil, List.set_cons_zero, List.set_cons_succ]
 refine AW.ret ?_
 exact ⟨[_, _], ⟨⟨2, 0, _, _, rfl, rfl, rfl, Try.underlying24, .inr ⟨rfl, _, _, _, _, inf24, rfl, rfl, rfl⟩⟩, rfl, trivial⟩, rfl, by simp [tupOf, V.pure, V.has, V.hasL]⟩
end Go.Proofs.Ythlcginebeapdaa
