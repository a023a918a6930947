/- Plain words for one machine or another, one behind the other, again and again. -/
import Derived.Test.YtnnmdcagbcdfpaaArcOk
namespace Go.Proofs.Ytnnmdcagbcdfpaa
open Go.RowKit
set_option linter.unusedSimpArgs false
set_option linter.unusedVariables false

def shiftAr (b : Int) (a : Ar) : Ar := ⟨a.i, a.o, a.w, a.t + b⟩
def shiftSt (b : Int) (s : St) : St := ⟨s.fin, s.arcs.map (shiftAr b)⟩
def hopsL (start b w : Int) : List Ar := if start < 0 then [] else [⟨0, 0, w, start + b⟩]
def looseSt (to : Int) (s : St) : St := if s.fin = 1000000001 then s else ⟨1000000001, s.arcs ++ hopsL to 0 s.fin⟩
def fitsM (m : Mach) : Mach := if 60 < m.states.length ∨ 400 < arcN m.states then ⟨0, []⟩ else m
def fitsE (m : Mach) : Int := if 60 < m.states.length ∨ 400 < arcN m.states then 5 else 0
def builtM (m : Mach) : Mach := if machE m = 0 then m else ⟨0, []⟩
def builtE (m : Mach) : Int := if machE m = 0 then 0 else 5
def unitedM (a b : Mach) : Mach := ⟨0, ⟨1000000001, hopsL a.start 1 0 ++ hopsL b.start (1 + a.states.length) 0⟩ :: (a.states.map (shiftSt 1) ++ b.states.map (shiftSt (1 + a.states.length)))⟩
def chainTo (a b : Mach) : Int := if b.start < 0 then -1 else b.start + a.states.length
def chainedM (a b : Mach) : Mach := ⟨a.start, (a.states.map (shiftSt 0)).map (looseSt (chainTo a b)) ++ b.states.map (shiftSt a.states.length)⟩
def starredM (a : Mach) : Mach := ⟨0, ⟨0, hopsL a.start 1 0⟩ :: (a.states.map (shiftSt 1)).map (looseSt 0)⟩

def Good (n : Int) (s : St) : Prop := finOk s.fin = true ∧ ∀ a ∈ s.arcs, arOk n a = true
theorem built_fits {m : Mach} (hs : startOk m) (h : ∀ s ∈ m.states, Good m.states.length s) : builtM m = fitsM m ∧ builtE m = fitsE m := by
  unfold builtM builtE fitsM fitsE
  by_cases hz : 60 < m.states.length ∨ 400 < arcN m.states
  · have : machE m = 1 := by unfold machE; rw [if_pos hz]
    rw [if_pos hz, if_pos hz, this]
    try exact ⟨rfl, rfl⟩
  · have hall : m.states.all (stOk m.states.length) = true := List.all_eq_true.2 fun s hs => by
      have := h s hs
      simp only [stOk, Bool.and_eq_true, List.all_eq_true]
      exact this
    have : machE m = 0 := by unfold machE; rw [if_neg hz, if_pos ⟨hs, hall⟩]
    rw [if_neg hz, if_neg hz, this]
    try exact ⟨rfl, rfl⟩
theorem arOk_iff {n : Int} {a : Ar} : arOk n a = true ↔ (0 ≤ a.i ∧ a.i ≤ 1000) ∧ (0 ≤ a.o ∧ a.o ≤ 1000) ∧ (0 ≤ a.w ∧ a.w ≤ 1000000000) ∧ 0 ≤ a.t ∧ a.t < n := by simp only [arOk, decide_eq_true_eq]
theorem good_shift {n n' b : Int} {s : St} (h : Good n s) (hb : 0 ≤ b) (hn : n + b ≤ n') : Good n' (shiftSt b s) := by
  refine ⟨h.1, fun a ha => ?_⟩
  simp only [shiftSt, List.mem_map] at ha
  obtain ⟨c, hc, rfl⟩ := ha
  have := arOk_iff.1 (h.2 c hc)
  exact arOk_iff.2 (by simp only [shiftAr]; omega)
theorem good_hops {n start b w : Int} (h0 : 0 ≤ w ∧ w ≤ 1000000000) (hb : 0 ≤ b) (hn : start + b < n) : ∀ a ∈ hopsL start b w, arOk n a = true := by
  intro a ha
  unfold hopsL at ha
  split at ha
  · simp at ha
  · simp only [List.mem_singleton] at ha
    subst ha
    exact arOk_iff.2 (by simp only; omega)
theorem good_loose {n to : Int} {s : St} (h : Good n s) (hn : to < n) : Good n (looseSt to s) := by
  unfold looseSt
  split
  · exact h
  · rename_i hf
    have hfo : 0 ≤ s.fin ∧ s.fin ≤ 1000000001 := by have := h.1; simpa only [finOk, decide_eq_true_eq] using this
    refine ⟨by simp [finOk], fun a ha => ?_⟩
    rcases List.mem_append.1 ha with ha | ha
    · exact h.2 a ha
    · exact good_hops (by omega) (by omega) (by omega) a ha
theorem machE_good_states {m : Mach} (h : machE m = 0) : (∀ s ∈ m.states, Good m.states.length s) ∧ -1 ≤ m.start ∧ m.start < m.states.length := ⟨(machE_zero h).2.2.2, (machE_zero h).2.2.1⟩
theorem united_fits {a b : Mach} (ha : machE a = 0) (hb : machE b = 0) : builtM (unitedM a b) = fitsM (unitedM a b) ∧ builtE (unitedM a b) = fitsE (unitedM a b) := by
  obtain ⟨ga, sa⟩ := machE_good_states ha
  obtain ⟨gb, sb⟩ := machE_good_states hb
  have hl : (unitedM a b).states.length = 1 + a.states.length + b.states.length := by simp [unitedM]; omega
  refine built_fits ⟨by simp [unitedM], by rw [hl]; simp only [unitedM]; omega⟩ ?_
  rw [hl]
  intro s hs
  simp only [unitedM, List.mem_cons, List.mem_append, List.mem_map] at hs
  rcases hs with rfl | ⟨c, hc, rfl⟩ | ⟨c, hc, rfl⟩
  · refine ⟨by simp [finOk], fun x hx => ?_⟩
    rcases List.mem_append.1 hx with hx | hx
    · exact good_hops (by omega) (by omega) (by omega) x hx
    · exact good_hops (by omega) (by omega) (by omega) x hx
  · exact good_shift (ga c hc) (by omega) (by omega)
  · exact good_shift (gb c hc) (by omega) (by omega)
theorem chained_fits {a b : Mach} (ha : machE a = 0) (hb : machE b = 0) : builtM (chainedM a b) = fitsM (chainedM a b) ∧ builtE (chainedM a b) = fitsE (chainedM a b) := by
  obtain ⟨ga, sa⟩ := machE_good_states ha
  obtain ⟨gb, sb⟩ := machE_good_states hb
  have hl : (chainedM a b).states.length = a.states.length + b.states.length := by simp [chainedM]
  refine built_fits ⟨sa.1, by rw [hl]; simp only [chainedM]; omega⟩ ?_
  rw [hl]
  intro s hs
  simp only [chainedM, List.mem_append, List.mem_map] at hs
  rcases hs with ⟨c, ⟨d, hd, rfl⟩, rfl⟩ | ⟨c, hc, rfl⟩
  · refine good_loose (good_shift (ga d hd) (by omega) (by omega)) ?_
    unfold chainTo
    split <;> omega
  · exact good_shift (gb c hc) (by omega) (by omega)
theorem starred_fits {a : Mach} (ha : machE a = 0) : builtM (starredM a) = fitsM (starredM a) ∧ builtE (starredM a) = fitsE (starredM a) := by
  obtain ⟨ga, sa⟩ := machE_good_states ha
  have hl : (starredM a).states.length = 1 + a.states.length := by simp [starredM]; omega
  refine built_fits ⟨by simp [starredM], by rw [hl]; simp only [starredM]; omega⟩ ?_
  rw [hl]
  intro s hs
  simp only [starredM, List.mem_cons, List.mem_map] at hs
  rcases hs with rfl | ⟨c, ⟨d, hd, rfl⟩, rfl⟩
  · exact ⟨by simp [finOk], fun x hx => good_hops (by omega) (by omega) (by omega) x hx⟩
  · exact good_loose (good_shift (ga d hd) (by omega) (by omega)) (by omega)
end Go.Proofs.Ytnnmdcagbcdfpaa
