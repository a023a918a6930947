/- weigh.Line: the machine that reads and writes one word. -/
import Derived.Test.YtophgeegofaioaaCross
namespace Go.Proofs.Ytophgeegofaioaa
open Go.RowKit
set_option linter.unusedSimpArgs false
set_option linter.unusedVariables false

theorem weigh_Line (v : Value) (xs : List Int) (w : World) (h : IntsAt w v xs) : Calls Try.prog 34 #[v] w fun e w' => ∃ mv, e = .returned (.tuple #[mv, .int .i64 (crossE xs xs)]) ∧ MachNew w' w.heap.size mv (crossOut xs xs) ∧ Below w.heap.size w w' := by
  have H := Lib.hid h
  clear h
  go_enter Try.func34, Try.ntmps34
  go_wp2_with fail
  refine (weigh_Cross _ _ xs xs _ (H.out.mono (by repeat' (first | (with_reducible exact Below.refl _ _) | (with_reducible assumption) | (with_reducible refine Below.dr ?_ _) | (with_reducible refine Below.d1 ?_) | (with_reducible refine Below.al ?_ _) | (with_reducible refine Below.tr ?_ (by assumption)) | (with_reducible refine Below.drewN ?_ _) | (with_reducible refine Below.drew ?_) | (with_reducible refine Below.alloc ?_ ?_ _) | (with_reducible refine Below.setCell ?_ ?_ _) | (with_reducible refine Below.trans ?_ (Below.mono (by assumption) ?_)) | omega | (simp; done) | (simp; omega) | (simp [*]; done)))) (H.out.mono (by repeat' (first | (with_reducible exact Below.refl _ _) | (with_reducible assumption) | (with_reducible refine Below.dr ?_ _) | (with_reducible refine Below.d1 ?_) | (with_reducible refine Below.al ?_ _) | (with_reducible refine Below.tr ?_ (by assumption)) | (with_reducible refine Below.drewN ?_ _) | (with_reducible refine Below.drew ?_) | (with_reducible refine Below.alloc ?_ ?_ _) | (with_reducible refine Below.setCell ?_ ?_ _) | (with_reducible refine Below.trans ?_ (Below.mono (by assumption) ?_)) | omega | (simp; done) | (simp; omega) | (simp [*]; done))))).mono ?_
  rintro e w1 ⟨mv, rfl, hm, hb⟩
  obtain ⟨a1, len1, cap1, hmv, hl1, -⟩ := hm.opens
  subst hmv
  have HM := Lib.hid hm
  clear hm
  obtain ⟨hc, hf, hz, hz1, hz2⟩ := bkeep hb; have hsz := hb.size; try simp at hsz
  go_wp2_with fail
  have HM2 : Hid (MachNew ((w1.setCell ⟨w.heap.size, 0, none⟩ (.int .i64 (crossOut xs xs).start)).setCell ⟨w.heap.size, 1, none⟩ (.slice a1 len1 cap1)) w.heap.size (.agg #[.int .i64 (crossOut xs xs).start, .slice a1 len1 cap1]) (crossOut xs xs)) :=
    ((HM.out.stored (by simp) _).stored (by simp) _).lower (by simp)
  refine bodyPost_ret (v := .tuple #[.agg #[.int .i64 (crossOut xs xs).start, .slice a1 len1 cap1], .int .i64 (crossE xs xs)]) ?_ rfl ⟨_, rfl, HM2.out, (by repeat' (first | (with_reducible exact Below.refl _ _) | (with_reducible assumption) | (with_reducible refine Below.dr ?_ _) | (with_reducible refine Below.d1 ?_) | (with_reducible refine Below.al ?_ _) | (with_reducible refine Below.tr ?_ (by assumption)) | (with_reducible refine Below.drewN ?_ _) | (with_reducible refine Below.drew ?_) | (with_reducible refine Below.alloc ?_ ?_ _) | (with_reducible refine Below.setCell ?_ ?_ _) | (with_reducible refine Below.trans ?_ (Below.mono (by assumption) ?_)) | omega | (simp; done) | (simp; omega) | (simp [*]; done)))⟩
  simp [results, Try.results34, go_sem, hc]
end Go.Proofs.Ytophgeegofaioaa
