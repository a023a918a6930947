/- names.word: a text that may be a name, by ranging over its runes. -/
import Derived.Test.YthlcginebeapdaaNms
import Derived.Test.YthlcginebeapdaaAmChr
import Derived.Laws.RangeString
import Derived.Laws.RangeAny
import Derived.LoopTactic
namespace Go.Proofs.Ythlcginebeapdaa
open Go.RowKit
set_option linter.unusedSimpArgs false
set_option linter.unusedVariables false
set_option maxRecDepth 100000

theorem iter_below (w : World) (s : ByteArray) (pos : Nat) : Below w.heap.size w (w.iter s pos) := (Below.refl _ _).alloc (Nat.le_refl _) _
def wdP (l : List UInt8) (n : Nat) : Prop := ∀ (k : Nat) (b : UInt8), k < n → l[k]? = some b → chLet b ∨ (chDig b ∧ 0 < k)
theorem wdP_ok {l : List UInt8} (h1 : 1 ≤ l.length) (h2 : l.length ≤ 12) (h : wdP l l.length) : nmB l = true := nmB_true ⟨h1, h2, fun k b hb => h k b (List.getElem?_eq_some_iff.1 hb).1 hb⟩
theorem wdP_no {l : List UInt8} {k : Nat} {b : UInt8} (hb : l[k]? = some b) (h : ¬ (chLet b ∨ (chDig b ∧ 0 < k))) : nmB l = false := nmB_false fun ⟨_, _, hp⟩ => h (hp k b hb)
theorem wdP_snoc {l : List UInt8} {n : Nat} {b : UInt8} (h : wdP l n) (hb : l[n]? = some b) (hc : chLet b ∨ (chDig b ∧ 0 < n)) : wdP l (n + 1) := by
  intro k c hk hc'
  by_cases e : k = n
  · subst e; rw [hb] at hc'; cases hc'; exact hc
  · exact h k c (by omega) hc'
theorem byte_at (s : ByteArray) (pos : Nat) (h : pos < s.size) : s.data.toList[pos]? = some (s[pos]'h) := by
  have hl : s.data.toList.length = s.size := Array.length_toList
  rw [List.getElem?_eq_getElem (by omega)]
  rfl
theorem dec_lt {s : ByteArray} {pos c wd : Nat} (h : pos < s.size) (hd : Utf8.decode s pos = (c, wd)) (hc : c < 128) : ∃ b : UInt8, s.data.toList[pos]? = some b ∧ b.toNat = c ∧ wd = 1 := by
  refine ⟨_, byte_at s pos h, ?_⟩
  by_cases ha : (s[pos]'h).toNat < 128
  · rw [decode_ascii s pos h ha] at hd
    simp only [Prod.mk.injEq] at hd
    exact ⟨hd.1, hd.2.symm⟩
  · have := (decode_high s pos h (by omega)).1
    rw [hd] at this
    simp only at this
    omega
theorem dec_no {s : ByteArray} {pos c wd : Nat} (h : pos < s.size) (hd : Utf8.decode s pos = (c, wd)) (hc : ¬ ((97 ≤ c ∧ c ≤ 122) ∨ c = 95 ∨ ((48 ≤ c ∧ c ≤ 57) ∧ 0 < pos))) : nmB s.data.toList = false := by
  by_cases h1 : c < 128
  · obtain ⟨b, hb, e, _⟩ := dec_lt h hd h1
    refine wdP_no hb ?_
    unfold chLet chDig
    rw [e]
    omega
  · refine wdP_no (byte_at s pos h) ?_
    by_cases ha : (s[pos]'h).toNat < 128
    · rw [decode_ascii s pos h ha] at hd
      simp only [Prod.mk.injEq] at hd
      omega
    · unfold chLet chDig
      omega
theorem dec_yes {s : ByteArray} {pos c wd : Nat} (h : pos < s.size) (hd : Utf8.decode s pos = (c, wd)) (hc : (97 ≤ c ∧ c ≤ 122) ∨ c = 95 ∨ ((48 ≤ c ∧ c ≤ 57) ∧ 0 < pos)) (hw : wdP s.data.toList pos) : wd = 1 ∧ wdP s.data.toList (pos + 1) := by
  obtain ⟨b, hb, e, e2⟩ := dec_lt h hd (by omega)
  refine ⟨e2, wdP_snoc hw hb ?_⟩
  unfold chLet chDig
  rw [e]
  omega
set_option maxHeartbeats 2000000 in
theorem word_call (s : ByteArray) (w : World) : Calls Try.prog 36 #[.string s] w fun e w' => e = .returned (.bool (nmB s.data.toList)) ∧ Below w.heap.size w w' := by
  have hl : s.data.toList.length = s.size := Array.length_toList
  by_cases h0 : s.size = 0
  · have hs : s = ⟨#[]⟩ := by
      cases s with | mk a =>
      congr 1
      exact Array.eq_empty_of_size_eq_zero h0
    have hR : nmB s.data.toList = false := nmB_false fun ⟨h1, _⟩ => by omega
    rw [hR]
    subst hs
    clear hR hl h0
    go_enter Try.func36, Try.ntmps36
    go_wp2
    go_ret
    exact ⟨rfl, Below.refl _ _⟩
  have hne0 : ¬ s.toList = [] := by
    intro h
    have := congrArg List.length h
    rw [show s.toList.length = s.size by rw [← hl, ba_toList]] at this
    exact h0 (by simpa using this)
  have hne : s.toList.isEmpty = false := by simpa using hne0
  by_cases h12 : 12 < s.size
  · have hR : nmB s.data.toList = false := nmB_false fun ⟨_, h1, _⟩ => by omega
    rw [hR]
    clear hR hl
    have h12' : (12 : Int) < (s.size : Int) := by omega
    go_enter Try.func36, Try.ntmps36
    go_wp2
    all_goals
      go_ret
      exact ⟨rfl, Below.refl _ _⟩
  have hH : Hid (s.data.toList.length = s.size) := hl
  obtain ⟨res, hres⟩ : ∃ r, r = nmB s.data.toList := ⟨_, rfl⟩
  have hHr : Hid (res = nmB s.data.toList) := hres
  rw [← hres]
  clear hl hres
  have h12' : ¬ (12 : Int) < (s.size : Int) := by omega
  go_enter Try.func36, Try.ntmps36
  go_wp2
  go_loopw [3] (fun i w' => ∃ pos : Nat, w' = w.iter s pos ∧ pos ≤ s.size ∧ Hid (wdP s.data.toList pos)) (fun _ w' => s.size - w'.iterPos w.heap.size)
  case atStart => exact ⟨0, rfl, by omega, fun k b hk => by omega⟩
  case round =>
    obtain ⟨pos, rfl, hpos, hwd⟩ := hrel
    by_cases hp : pos < s.size
    · obtain ⟨c, wd, hdc⟩ : ∃ c wd, Utf8.decode s pos = (c, wd) := ⟨_, _, rfl⟩
      have hnx : ∀ ty, (Instr.next (.pointer (some ⟨w.heap.size, 0, none⟩)) true ty).run Try.prog (w.iter s pos) = .ok (.tuple #[.bool true, .int .i64 pos, .int .i32 c]) (w.iter s (pos + wd)) := fun ty => by
        have := run_next_any (P := Try.prog) w s pos ty hp
        rw [hdc] at this
        exact this
      by_cases hyes : (97 ≤ c ∧ c ≤ 122) ∨ c = 95 ∨ ((48 ≤ c ∧ c ≤ 57) ∧ 0 < pos)
      · obtain ⟨rfl, hnext⟩ := dec_yes hp hdc hyes hwd.out
        have hN : Hid (wdP s.data.toList (pos + 1)) := hnext
        have hD : Hid (Utf8.decode s pos = (c, 1)) := hdc
        clear hnext hdc
        rcases hyes with ⟨a1, a2⟩ | a1 | ⟨⟨a1, a2⟩, a3⟩
        · have b1 : (97 : Int) ≤ (c : Int) := by omega
          have b2 : (c : Int) ≤ 122 := by omega
          go_wp2
          go_roundw
          case rel => exact ⟨pos + 1, rfl, by omega, hN⟩
          case measure => simp; omega
        · subst a1
          go_wp2
          go_roundw
          case rel => exact ⟨pos + 1, rfl, by omega, hN⟩
          case measure => simp; omega
        · have b1 : ¬ (97 : Int) ≤ (c : Int) := by omega
          have b2 : ¬ (c : Int) = 95 := by omega
          have b3 : (48 : Int) ≤ (c : Int) := by omega
          have b4 : (c : Int) ≤ 57 := by omega
          have b5 : (0 : Int) < (pos : Int) := by omega
          go_wp2
          go_roundw
          case rel => exact ⟨pos + 1, rfl, by omega, hN⟩
          case measure => simp; omega
      · have hno := dec_no hp hdc hyes
        obtain rfl : res = false := hHr.out.trans hno
        have hY : Hid (¬ ((97 ≤ c ∧ c ≤ 122) ∨ c = 95 ∨ ((48 ≤ c ∧ c ≤ 57) ∧ 0 < pos))) := hyes
        clear hno hdc hyes
        go_wp2
        all_goals first
          | (exfalso; have := hY.out; omega)
          | (go_ret; exact ⟨rfl, iter_below _ _ _⟩)
          | (exfalso; have := hY.out; rename_i h9; have h9 := eq_of_beq h9; omega)
    · have hnx : ∀ ty, (Instr.next (.pointer (some ⟨w.heap.size, 0, none⟩)) true ty).run Try.prog (w.iter s pos) = _ := fun ty => run_next_end w s pos ty hp
      obtain rfl : pos = s.size := by omega
      obtain rfl : res = true := hHr.out.trans (wdP_ok (by have := hH.out; omega) (by have := hH.out; omega) (by rw [hH.out]; exact hwd.out))
      go_wp2
      go_ret
      exact ⟨rfl, iter_below _ _ _⟩
end Go.Proofs.Ythlcginebeapdaa
