/- Twins one behind the other. -/
import Derived.Test.YtophgeegofaioaaTwins
namespace Go.Proofs.Ytophgeegofaioaa
open Go.RowKit
set_option linter.unusedSimpArgs false
set_option linter.unusedVariables false

def mulA (a b c d : Int) : Int := if a = 1000000001 ∨ c = 1000000001 then 1000000001 else a + c
def mulB (a b c d : Int) : Int := if a = 1000000001 ∨ c = 1000000001 then 1000000001 else b + d
def mulOk (a b c d : Int) : Prop := (a = 1000000001 ∨ c = 1000000001) ∨ (a + c ≤ 1000000000 ∧ b + d ≤ 1000000000)
instance (a b c d : Int) : Decidable (mulOk a b c d) := by unfold mulOk; exact inferInstance

def mulV (a b c d : Int) : Value := tagg (mulA a b c d) (mulB a b c d)

set_option maxHeartbeats 2000000 in
theorem twins_times (u a b c d : Int) (w : World) (h1 : mayT a b) (h2 : mayT c d) : Calls Try.prog 45 #[.agg #[], .agg #[.int .i64 a, .int .i64 b], .agg #[.int .i64 c, .int .i64 d]] w fun e w' =>
    e = .returned (.tuple #[mulV a b c d, .bool (decide (mulOk a b c d))]) ∧ Below w.heap.size w w' := by
  rcases h1 with ⟨rfl, rfl⟩ | ⟨⟨ha1, ha2⟩, hb1, hb2⟩
  · go_enter Try.func45, Try.ntmps45
    go_wp2_with fail
    refine bodyPost_ret (v := .tuple #[mulV 1000000001 1000000001 c d, .bool (decide (mulOk 1000000001 1000000001 c d))]) ?_ rfl ⟨rfl, ?_⟩
    · simp [results, Try.results45, go_sem, mulV, mulA, mulB, mulOk, tagg]
    · exact (by repeat' (first | (with_reducible exact Below.refl _ _) | (with_reducible assumption) | (with_reducible refine Below.drewN ?_ _) | (with_reducible refine Below.drew ?_) | (with_reducible refine Below.alloc ?_ ?_ _) | (with_reducible refine Below.setCell ?_ ?_ _) | (with_reducible refine Below.trans ?_ (Below.mono (by assumption) ?_)) | omega | (simp; done) | (simp; omega) | (simp [*]; done)))
  · have ha : ¬ a = 1000000001 := by omega
    rcases h2 with ⟨rfl, rfl⟩ | ⟨⟨hc1, hc2⟩, hd1, hd2⟩
    · go_enter Try.func45, Try.ntmps45
      go_wp2_with fail
      refine bodyPost_ret (v := .tuple #[mulV a b 1000000001 1000000001, .bool (decide (mulOk a b 1000000001 1000000001))]) ?_ rfl ⟨rfl, ?_⟩
      · simp [results, Try.results45, go_sem, mulV, mulA, mulB, mulOk, tagg]
      · exact (by repeat' (first | (with_reducible exact Below.refl _ _) | (with_reducible assumption) | (with_reducible refine Below.drewN ?_ _) | (with_reducible refine Below.drew ?_) | (with_reducible refine Below.alloc ?_ ?_ _) | (with_reducible refine Below.setCell ?_ ?_ _) | (with_reducible refine Below.trans ?_ (Below.mono (by assumption) ?_)) | omega | (simp; done) | (simp; omega) | (simp [*]; done)))
    · have hc : ¬ c = 1000000001 := by omega
      by_cases h3 : a + c ≤ 1000000000
      · have g3 : decide (a + c ≤ 1000000000) = true := by simpa using h3
        by_cases h4 : b + d ≤ 1000000000
        all_goals
          go_enter Try.func45, Try.ntmps45
          go_wp2_with fail
          go_region
          all_goals (try go_wp2_with fail)
          all_goals
            refine bodyPost_ret (v := .tuple #[mulV a b c d, .bool (decide (mulOk a b c d))]) ?_ rfl ⟨rfl, ?_⟩
            · simp [results, Try.results45, go_sem, mulV, mulA, mulB, mulOk, tagg, ha, hc, h3, h4]
            · exact (by repeat' (first | (with_reducible exact Below.refl _ _) | (with_reducible assumption) | (with_reducible refine Below.drewN ?_ _) | (with_reducible refine Below.drew ?_) | (with_reducible refine Below.alloc ?_ ?_ _) | (with_reducible refine Below.setCell ?_ ?_ _) | (with_reducible refine Below.trans ?_ (Below.mono (by assumption) ?_)) | omega | (simp; done) | (simp; omega) | (simp [*]; done)))
      · have g3 : decide (a + c ≤ 1000000000) = false := by simpa using h3
        have h4 : True := True.intro
        go_enter Try.func45, Try.ntmps45
        go_wp2_with fail
        go_region
        all_goals (try go_wp2_with fail)
        all_goals
          refine bodyPost_ret (v := .tuple #[mulV a b c d, .bool (decide (mulOk a b c d))]) ?_ rfl ⟨rfl, ?_⟩
          · simp [results, Try.results45, go_sem, mulV, mulA, mulB, mulOk, tagg, ha, hc, h3, h4]
            try omega
          · exact (by repeat' (first | (with_reducible exact Below.refl _ _) | (with_reducible assumption) | (with_reducible refine Below.drewN ?_ _) | (with_reducible refine Below.drew ?_) | (with_reducible refine Below.alloc ?_ ?_ _) | (with_reducible refine Below.setCell ?_ ?_ _) | (with_reducible refine Below.trans ?_ (Below.mono (by assumption) ?_)) | omega | (simp; done) | (simp; omega) | (simp [*]; done)))

def joinTV (a b c d : Int) : Value := if mayT a b ∧ mayT c d ∧ mulOk a b c d then mulV a b c d else tagg 0 0
def joinTE (a b c d : Int) : Int := if mayT a b ∧ mayT c d then (if mulOk a b c d then 0 else 4) else 2

set_option maxHeartbeats 2000000 in
theorem twin_Times (a b c d : Int) (w : World) : Calls Try.prog 29 #[.agg #[.int .i64 a, .int .i64 b], .agg #[.int .i64 c, .int .i64 d]] w fun e w' =>
    e = .returned (.tuple #[joinTV a b c d, .int .i64 (joinTE a b c d)]) ∧ Below w.heap.size w w' := by
  by_cases h1 : mayT a b <;> by_cases h2 : mayT c d
  · by_cases h3 : mulOk a b c d
    all_goals
      go_enter Try.func29, Try.ntmps29
      go_wp2_with (first | (go_at_call 43; refine (twin_may _ _ _).mono ?_; rintro e w1 ⟨rfl, rfl⟩) | (go_at_call 45; refine (twins_times 0 _ _ _ _ _ h1 h2).mono ?_; rintro e w1 ⟨rfl, hb⟩; obtain ⟨hc, hf, hz, hz1, hz2⟩ := bkeep hb; have hsz := hb.size; try simp at hsz; unfold mulV tagg))
      refine bodyPost_ret (v := .tuple #[joinTV a b c d, .int .i64 (joinTE a b c d)]) ?_ rfl ⟨rfl, ?_⟩
      · simp [results, Try.results29, go_sem, h1, h2, h3, joinTV, joinTE, mulV, tagg, hc, hz, hz1, hz2]
      · exact (by repeat' (first | (with_reducible exact Below.refl _ _) | (with_reducible assumption) | (with_reducible refine Below.drewN ?_ _) | (with_reducible refine Below.drew ?_) | (with_reducible refine Below.alloc ?_ ?_ _) | (with_reducible refine Below.setCell ?_ ?_ _) | (with_reducible refine Below.trans ?_ (Below.mono (by assumption) ?_)) | omega | (simp; done) | (simp; omega) | (simp [*]; done)))
  all_goals
    go_enter Try.func29, Try.ntmps29
    go_wp2_with (first | (go_at_call 43; refine (twin_may _ _ _).mono ?_; rintro e w1 ⟨rfl, rfl⟩))
    refine bodyPost_ret (v := .tuple #[joinTV a b c d, .int .i64 (joinTE a b c d)]) ?_ rfl ⟨rfl, ?_⟩
    · simp [results, Try.results29, go_sem, h1, h2, joinTV, joinTE, mulV, tagg]
    · exact (by repeat' (first | (with_reducible exact Below.refl _ _) | (with_reducible assumption) | (with_reducible refine Below.drewN ?_ _) | (with_reducible refine Below.drew ?_) | (with_reducible refine Below.alloc ?_ ?_ _) | (with_reducible refine Below.setCell ?_ ?_ _) | (with_reducible refine Below.trans ?_ (Below.mono (by assumption) ?_)) | omega | (simp; done) | (simp; omega) | (simp [*]; done)))

theorem mul_yes {a b c d : Int} (h1 : mayT a b) (h2 : mayT c d) (h3 : mulOk a b c d) : timesE a c = 0 ∧ timesE b d = 0 ∧ timesV a c = mulA a b c d ∧ timesV b d = mulB a b c d := by
  unfold mayT at h1 h2
  unfold mulOk at h3
  simp only [timesE, timesV, mulA, mulB]
  refine ⟨?_, ?_, ?_, ?_⟩ <;> (repeat' split) <;> omega
theorem mul_no {a b c d : Int} (h1 : mayT a b) (h2 : mayT c d) (h3 : ¬ mulOk a b c d) : timesE a c = 4 ∨ (timesE a c = 0 ∧ timesE b d = 4) := by
  unfold mayT at h1 h2
  unfold mulOk at h3
  simp only [timesE]
  by_cases h4 : a + c ≤ 1000000000
  · right
    refine ⟨?_, ?_⟩ <;> (repeat' split) <;> omega
  · left
    (repeat' split) <;> omega

set_option maxHeartbeats 2000000 in
theorem ref_TwinJoined (a b c d : Int) (w : World) : Calls Try.prog 30 #[.agg #[.int .i64 a, .int .i64 b], .agg #[.int .i64 c, .int .i64 d]] w fun e w' =>
    e = .returned (.tuple #[joinTV a b c d, .int .i64 (joinTE a b c d)]) ∧ Below w.heap.size w w' := by
  by_cases h1 : mayT a b <;> by_cases h2 : mayT c d
  · by_cases h3 : mulOk a b c d
    · obtain ⟨e1, e2, e3, e4⟩ := mul_yes h1 h2 h3
      have E3 := Lib.hid e3
      have E4 := Lib.hid e4
      clear e3 e4
      go_enter Try.func30, Try.ntmps30
      go_wp2_with (first | (go_at_call 44; refine (ref_TwinMay _ _ _).mono ?_; rintro e w1 ⟨rfl, rfl⟩) | (go_at_call 19; refine (ref_Joined _ _ _).mono ?_; rintro e w1 ⟨rfl, rfl⟩))
      refine bodyPost_ret (v := .tuple #[joinTV a b c d, .int .i64 (joinTE a b c d)]) ?_ rfl ⟨rfl, ?_⟩
      · simp [results, Try.results30, go_sem, h1, h2, h3, joinTV, joinTE, mulV, tagg, E3.out, E4.out]
      · exact (by repeat' (first | (with_reducible exact Below.refl _ _) | (with_reducible assumption) | (with_reducible refine Below.drewN ?_ _) | (with_reducible refine Below.drew ?_) | (with_reducible refine Below.alloc ?_ ?_ _) | (with_reducible refine Below.setCell ?_ ?_ _) | (with_reducible refine Below.trans ?_ (Below.mono (by assumption) ?_)) | omega | (simp; done) | (simp; omega) | (simp [*]; done)))
    · rcases mul_no h1 h2 h3 with e1 | ⟨e1, e2⟩
      all_goals
        go_enter Try.func30, Try.ntmps30
        go_wp2_with (first | (go_at_call 44; refine (ref_TwinMay _ _ _).mono ?_; rintro e w1 ⟨rfl, rfl⟩) | (go_at_call 19; refine (ref_Joined _ _ _).mono ?_; rintro e w1 ⟨rfl, rfl⟩))
        refine bodyPost_ret (v := .tuple #[joinTV a b c d, .int .i64 (joinTE a b c d)]) ?_ rfl ⟨rfl, ?_⟩
        · simp [results, Try.results30, go_sem, h1, h2, h3, joinTV, joinTE, mulV, tagg]
        · exact (by repeat' (first | (with_reducible exact Below.refl _ _) | (with_reducible assumption) | (with_reducible refine Below.drewN ?_ _) | (with_reducible refine Below.drew ?_) | (with_reducible refine Below.alloc ?_ ?_ _) | (with_reducible refine Below.setCell ?_ ?_ _) | (with_reducible refine Below.trans ?_ (Below.mono (by assumption) ?_)) | omega | (simp; done) | (simp; omega) | (simp [*]; done)))
  all_goals
    go_enter Try.func30, Try.ntmps30
    go_wp2_with (first | (go_at_call 44; refine (ref_TwinMay _ _ _).mono ?_; rintro e w1 ⟨rfl, rfl⟩))
    refine bodyPost_ret (v := .tuple #[joinTV a b c d, .int .i64 (joinTE a b c d)]) ?_ rfl ⟨rfl, ?_⟩
    · simp [results, Try.results30, go_sem, h1, h2, joinTV, joinTE, mulV, tagg]
    · exact (by repeat' (first | (with_reducible exact Below.refl _ _) | (with_reducible assumption) | (with_reducible refine Below.drewN ?_ _) | (with_reducible refine Below.drew ?_) | (with_reducible refine Below.alloc ?_ ?_ _) | (with_reducible refine Below.setCell ?_ ?_ _) | (with_reducible refine Below.trans ?_ (Below.mono (by assumption) ?_)) | omega | (simp; done) | (simp; omega) | (simp [*]; done)))
end Go.Proofs.Ytophgeegofaioaa
