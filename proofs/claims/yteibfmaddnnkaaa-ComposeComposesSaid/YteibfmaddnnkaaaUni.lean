/- One machine or another, as plain data. -/
import Derived.Test.YteibfmaddnnkaaaReach
namespace Go.Proofs.Yteibfmaddnnkaaa
open Go.RowKit
set_option linter.unusedSimpArgs false
set_option linter.unusedVariables false

def shiftAr (b : Int) (a : Ar) : Ar := ⟨a.i, a.o, a.w, a.t + b⟩
def shiftSt (b : Int) (s : St) : St := ⟨s.fin, s.arcs.map (shiftAr b)⟩
def hopsL (start b w : Int) : List Ar := if start < 0 then [] else [⟨0, 0, w, start + b⟩]
def uniM (a b : Mach) : Mach := ⟨0, ⟨1000000001, hopsL a.start 1 0 ++ hopsL b.start (1 + a.states.length) 0⟩ :: (a.states.map (shiftSt 1) ++ b.states.map (shiftSt (1 + a.states.length)))⟩
def twoE (a b : Mach) : Int := if machE a ≠ 0 then machE a else machE b
def uniE (a b : Mach) : Int := if twoE a b ≠ 0 then twoE a b else if 60 < (uniM a b).states.length ∨ 400 < arcN (uniM a b).states then 5 else 0
def uniR (a b : Mach) : Mach := if uniE a b = 0 then uniM a b else ⟨0, []⟩
theorem twoE_zero {a b : Mach} (h : twoE a b = 0) : machE a = 0 ∧ machE b = 0 := by
  unfold twoE at h
  split at h
  · rename_i h1; exact absurd h h1
  · rename_i h1; exact ⟨Classical.not_not.1 h1, h⟩

theorem uArOk_iff {n : Int} {a : Ar} : arOk n a = true ↔ (0 ≤ a.i ∧ a.i ≤ 1000) ∧ (0 ≤ a.o ∧ a.o ≤ 1000) ∧ (0 ≤ a.w ∧ a.w ≤ 1000000000) ∧ 0 ≤ a.t ∧ a.t < n := by simp only [arOk, decide_eq_true_eq]
theorem hopsL_len (a b c : Int) : (hopsL a b c).length ≤ 1 := by unfold hopsL; split <;> simp
theorem uniM_len (a b : Mach) : (uniM a b).states.length = 1 + a.states.length + b.states.length := by simp [uniM]; omega
theorem arcN_map {f : St → St} (hf : ∀ s, (f s).arcs.length = s.arcs.length) (l : List St) : arcN (l.map f) = arcN l := by simp [arcN, Function.comp_def, hf]
theorem arcN_uni (a b : Mach) : arcN (uniM a b).states ≤ 2 + arcN a.states + arcN b.states := by
  have h1 := hopsL_len a.start 1 0
  have h2 := hopsL_len b.start (1 + a.states.length) 0
  have h3 : arcN (uniM a b).states = (hopsL a.start 1 0 ++ hopsL b.start (1 + a.states.length) 0).length + (arcN (a.states.map (shiftSt 1)) + arcN (b.states.map (shiftSt (1 + a.states.length)))) := by simp [uniM, arcN]
  rw [h3, arcN_map (fun s => by simp [shiftSt]), arcN_map (fun s => by simp [shiftSt]), List.length_append]
  omega
theorem good_shift {n n' b : Int} {s : St} (h : finOk s.fin = true ∧ ∀ a ∈ s.arcs, arOk n a = true) (hb : 0 ≤ b) (hn : n + b ≤ n') : finOk (shiftSt b s).fin = true ∧ ∀ a ∈ (shiftSt b s).arcs, arOk n' a = true := by
  refine ⟨h.1, fun a ha => ?_⟩
  simp only [shiftSt, List.mem_map] at ha
  obtain ⟨c, hc, rfl⟩ := ha
  have := uArOk_iff.1 (h.2 c hc)
  exact uArOk_iff.2 (by simp only [shiftAr]; omega)
theorem good_hops {n start b w : Int} (h0 : 0 ≤ w ∧ w ≤ 1000000000) (hb : 0 ≤ b) (hn : start + b < n) : ∀ a ∈ hopsL start b w, arOk n a = true := by
  intro a ha
  unfold hopsL at ha
  split at ha
  · simp at ha
  · simp only [List.mem_singleton] at ha
    subst ha
    exact uArOk_iff.2 (by simp only; omega)
theorem uni_machE {a b : Mach} (ha : machE a = 0) (hb : machE b = 0) : machE (uniM a b) = if 60 < (uniM a b).states.length ∨ 400 < arcN (uniM a b).states then 1 else 0 := by
  obtain ⟨_, _, sa, ga⟩ := machE_zero ha
  obtain ⟨_, _, sb, gb⟩ := machE_zero hb
  have hl := uniM_len a b
  unfold machE
  split
  · rfl
  · refine if_pos ⟨⟨by simp [uniM], by rw [hl]; simp only [uniM]; omega⟩, ?_⟩
    refine List.all_eq_true.2 fun s hs => ?_
    have key : finOk s.fin = true ∧ ∀ x ∈ s.arcs, arOk (uniM a b).states.length x = true := by
      rw [hl]
      simp only [uniM, List.mem_cons, List.mem_append, List.mem_map] at hs
      rcases hs with rfl | ⟨c, hc, rfl⟩ | ⟨c, hc, rfl⟩
      · refine ⟨by simp [finOk], fun x hx => ?_⟩
        rcases List.mem_append.1 hx with hx | hx
        · exact good_hops (by omega) (by omega) (by omega) x hx
        · exact good_hops (by omega) (by omega) (by omega) x hx
      · exact good_shift (ga c hc) (by omega) (by omega)
      · exact good_shift (gb c hc) (by omega) (by omega)
    simp only [stOk, Bool.and_eq_true, List.all_eq_true]
    exact key
end Go.Proofs.Yteibfmaddnnkaaa
