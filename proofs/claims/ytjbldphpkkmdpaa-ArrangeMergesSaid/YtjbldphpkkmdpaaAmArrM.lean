-- %hmode
-- %notl
/- The document's lightest. -/
import Derived.Test.YtjbldphpkkmdpaaAmArr
namespace Go.Proofs.Ytjbldphpkkmdpaa
open Go.RowKit
set_option linter.unusedSimpArgs false
set_option linter.unusedVariables false
set_option maxRecDepth 100000

theorem am_lightest (l : List Ar) (hl : l.length ≤ 400) : Fn Try.prog 40 [.d (arsD l)] (fun v => v = .d (arsD (lst l))) := by
 obtain ⟨n, hn⟩ : ∃ n, l.length = n := ⟨_, rfl⟩
 rw [hn] at hl
 refine Fn.intro (n := 63) ⟨Try.func40, rfl, rfl, rfl, rfl⟩ (by simp [V.pure, V.has, V.hasL]) (by simp) fun w0 out => ?_
 refine AW.seq ?_
 refine AW.region ?_
 refine AL.rp rfl rfl (rp_assign rfl rfl) ?_
 refine AL.nil ?_
 try simp only [thenS, S.put, enum, List.nil_append, List.cons_append, List.append_nil, Nat.zero_add, Nat.reduceAdd]
 refine AW.seq ?_
 refine AW.region ?_
 refine AL.rp rfl rfl (rp_assign rfl rfl) ?_
 refine AL.nil ?_
 try simp only [thenS, S.put]
 refine AW.adopt 3 100 4 56 rfl (by simp [S.clean, V.has, V.hasL, V.cs, setL]) ?_
 refine AW.seq ?_
 refine AW.seq ?_
 refine AW.region ?_
 refine AL.rp rfl rfl (rp_assign rfl rfl) ?_
 refine AL.nil ?_
 try simp only [thenS, S.put]
 refine AW.block ?_
 refine AW.loop (fun s' => ∃ (i : Nat) (A : List Ar) (ak : Nat), i ≤ n ∧ A = lst (l.take i) ∧ A.length = ak ∧ s' = ⟨63, [(0, .d (arsD l)), (3, .own 100 4 ak (decide (ak = 0))), (4, .i i)], [(100, ⟨56, A.flatMap arV2, decide (ak = 0), 4⟩)], []⟩) (fun s' => n - s'.nat 4) ⟨_, ?_, 0, [], 0, by omega, rfl, rfl, rfl⟩ ?_
 ·exact (Less.of rfl (by repeat (first | exact trivial | refine ⟨⟨_, rfl, Wk.refl _⟩, ?_⟩ | refine ⟨⟨_, rfl, Wk.nil _ _⟩, ?_⟩ | refine ⟨⟨_, rfl, Wk.junk _⟩, ?_⟩)) (by repeat (first | exact trivial | refine ⟨rfl, ?_⟩)) rfl)
 rintro s' ⟨i, A, ak, hi, hA, hak, rfl⟩
 have hfl := flA hak
 have hak4 : ak ≤ 400 := by
  have := lst_len (l.take i)
  rw [← hA, hak, List.length_take] at this
  omega
 by_cases hlt : i < n
 ·obtain ⟨x, hx⟩ := get_lt hn hlt
  by_cases h0 : i = 0
  ·subst h0
   have h1 := lst_one hx
   have hnil : A = [] := by rw [hA]; rfl
   subst hnil
   obtain rfl : ak = 0 := by simpa using hak.symm
   obtain ⟨xi, xo, xw, xt⟩ := x
   refine AW.seq ?_
   refine AW.seq ?_
   refine AW.region ?_
   refine AL.rp rfl rfl (rp_move rfl rfl) ?_
   refine AL.rp rfl rfl (rp_move rfl rfl) ?_
   (first | (refine AL.rp rfl rfl (rp_len_map Try.underlying50 rfl rfl (by assumption)) ?_) | (refine AL.rp rfl rfl (rp_len_own Try.underlying50 rfl rfl) ?_) | (refine AL.rp rfl rfl (rp_len_sl Try.underlying50 rfl rfl) ?_) | (refine AL.rp rfl rfl (rp_len_nil Try.underlying50 rfl rfl) ?_) | (refine AL.rp rfl rfl (rp_len_str Try.underlying50 rfl rfl) ?_))
   (first | (refine AL.rp rfl rfl (rp_lssT rfl rfl rfl (by first | assumption | omega | (dsimp only; omega))) ?_) | (refine AL.rp rfl rfl (rp_lssF rfl rfl rfl (by first | assumption | omega | (dsimp only; omega))) ?_) | (refine AL.rp rfl rfl (rp_lss rfl rfl rfl) ?_))
   refine AL.nil ?_
   try simp only [thenS, S.put]
   refine AW.condT rfl ?_
   refine AW.skip ?_
   try simp only [thenS]
   refine AW.seq ?_
   refine AW.block ?_
   refine AW.seq ?_
   refine AW.draw [(0, true), (1, true), (2, true), (3, true), (4, true), (5, true), (6, true), (7, true), (8, true), (9, true), (10, true), (11, true), (12, true), (13, true), (14, true), (15, true), (16, true), (17, true), (18, true), (19, true), (20, true), (21, true), (22, true), (23, true), (24, true), (25, true), (26, true), (27, true), (28, true), (29, true), (30, true), (31, true), (32, true), (33, true), (34, true), (35, true), (36, true), (37, true), (38, true), (39, true), (40, true), (41, true), (42, true), (43, true)] (fun i => !([] : List Nat).contains i) 44 (by kernel_rfl) (by kernel_rfl) rfl (by kernel_rfl) ?_
   refine AD1.rp rfl rfl rfl (fun _ _ h => h) (rp_move rfl rfl) ?_
   (first | (refine AD1.rp rfl rfl rfl (fun _ _ h => h) (rp_eqlT rfl rfl rfl (by first | assumption | omega | (dsimp only; omega))) ?_) | (refine AD1.rp rfl rfl rfl (fun _ _ h => h) (rp_eqlF rfl rfl rfl (by first | assumption | omega | (dsimp only; omega))) ?_) | (refine AD1.rp rfl rfl rfl (fun _ _ h => h) (rp_eql rfl rfl rfl) ?_))
   refine AD1.rp rfl rfl rfl (fun _ _ h => h) (rp_move rfl rfl) ?_
   (first | (refine AD1.noV rfl rfl rfl rfl rfl (fun _ _ h => h) ?_) | (refine AD1.noU rfl rfl ⟨_, rfl, rfl⟩ rfl (fun _ _ h => h) ?_) | (refine AD1.rpy rfl rfl rfl rfl (fun _ _ h => h) (rp_move rfl rfl) ?_))
   (first | (refine AD1.noV rfl rfl rfl rfl rfl (fun _ _ h => h) ?_) | (refine AD1.noU rfl rfl ⟨_, rfl, rfl⟩ rfl (fun _ _ h => h) ?_) | (refine AD1.rpy rfl rfl rfl rfl (fun _ _ h => h) (rp_move rfl rfl) ?_))
   (first | (refine AD1.noV rfl rfl rfl rfl rfl (fun _ _ h => h) ?_) | (refine AD1.noU rfl rfl ⟨_, rfl, rfl⟩ rfl (fun _ _ h => h) ?_) | (refine AD1.rpy rfl rfl rfl rfl (fun _ _ h => h) (rp_index_map Try.underlying50 inf56 rfl rfl rfl rfl (by assumption)) ?_) | (refine AD1.rpy rfl rfl rfl rfl (fun _ _ h => h) (rp_index_own Try.underlying50 inf56 rfl rfl rfl rfl (by first | assumption | omega)) ?_) | (refine AD1.rpy rfl rfl rfl rfl (fun _ _ h => h) (rd_index_sl Try.underlying50 inf56 rfl rfl rfl rfl (by assumption)) ?_) | (refine AD1.rpy rfl rfl rfl rfl (fun _ _ h => h) (rp_index_own Try.underlying50 inf56 rfl rfl rfl (by omega) (by omega)) ?_))
   (first | (refine AD1.noV rfl rfl rfl rfl rfl (fun _ _ h => h) ?_) | (refine AD1.noU rfl rfl ⟨_, rfl, rfl⟩ rfl (fun _ _ h => h) ?_) | (refine AD1.rpy rfl rfl rfl rfl (fun _ _ h => h) (rp_field_ref Try.underlying56 rfl rfl rfl inf3 (by decide) rfl) ?_) | (refine AD1.rpy rfl rfl rfl rfl (fun _ _ h => h) (rp_field_ad Try.underlying56 rfl rfl rfl inf3 (by decide) rfl) ?_))
   (first | (refine AD1.noV rfl rfl rfl rfl rfl (fun _ _ h => h) ?_) | (refine AD1.noU rfl rfl ⟨_, rfl, rfl⟩ rfl (fun _ _ h => h) ?_) | (refine AD1.rdy rfl rfl rfl rfl (fun _ _ h => h) (rd_load_ref Try.underlying3 rfl rfl rfl rfl rfl rfl) ?_) | (refine AD1.rdy rfl rfl rfl rfl (fun _ _ h => h) (rd_load_ad Try.underlying3 rfl rfl rfl rfl) ?_) | (refine AD1.rdy rfl rfl rfl rfl (fun _ _ h => h) (rd_load_map Try.underlying3 rfl rfl rfl rfl rfl rfl (by assumption)) ?_) | (refine AD1.rdy rfl rfl rfl rfl (fun _ _ h => h) (rd_load_flat Try.underlying3 rfl rfl rfl rfl rfl rfl (fun _ => rfl) (by assumption) rfl) ?_))
   (first | (refine AD1.noV rfl rfl rfl rfl rfl (fun _ _ h => h) ?_) | (refine AD1.noU rfl rfl ⟨_, rfl, rfl⟩ rfl (fun _ _ h => h) ?_) | (refine AD1.rpy rfl rfl rfl rfl (fun _ _ h => h) (rp_move rfl rfl) ?_))
   (first | (refine AD1.noV rfl rfl rfl rfl rfl (fun _ _ h => h) ?_) | (refine AD1.noU rfl rfl ⟨_, rfl, rfl⟩ rfl (fun _ _ h => h) ?_) | (refine AD1.rpy rfl rfl rfl rfl (fun _ _ h => h) (rp_move rfl rfl) ?_))
   (first | (refine AD1.noV rfl rfl rfl rfl rfl (fun _ _ h => h) ?_) | (refine AD1.noU rfl rfl ⟨_, rfl, rfl⟩ rfl (fun _ _ h => h) ?_) | (refine AD1.rpy rfl rfl rfl rfl (fun _ _ h => h) (rp_sub rfl rfl rfl (by first | omega | (dsimp only; omega))) ?_))
   (first | (refine AD1.noV rfl rfl rfl rfl rfl (fun _ _ h => h) ?_) | (refine AD1.noU rfl rfl ⟨_, rfl, rfl⟩ rfl (fun _ _ h => h) ?_) | (refine AD1.rpy rfl rfl rfl rfl (fun _ _ h => h) (rp_index_map Try.underlying50 inf56 rfl rfl rfl rfl (by assumption)) ?_) | (refine AD1.rpy rfl rfl rfl rfl (fun _ _ h => h) (rp_index_own Try.underlying50 inf56 rfl rfl rfl rfl (by first | assumption | omega)) ?_) | (refine AD1.rpy rfl rfl rfl rfl (fun _ _ h => h) (rd_index_sl Try.underlying50 inf56 rfl rfl rfl rfl (by assumption)) ?_) | (refine AD1.rpy rfl rfl rfl rfl (fun _ _ h => h) (rp_index_own Try.underlying50 inf56 rfl rfl rfl (by omega) (by omega)) ?_))
   (first | (refine AD1.noV rfl rfl rfl rfl rfl (fun _ _ h => h) ?_) | (refine AD1.noU rfl rfl ⟨_, rfl, rfl⟩ rfl (fun _ _ h => h) ?_) | (refine AD1.rpy rfl rfl rfl rfl (fun _ _ h => h) (rp_field_ref Try.underlying56 rfl rfl rfl inf3 (by decide) rfl) ?_) | (refine AD1.rpy rfl rfl rfl rfl (fun _ _ h => h) (rp_field_ad Try.underlying56 rfl rfl rfl inf3 (by decide) rfl) ?_))
   (first | (refine AD1.noV rfl rfl rfl rfl rfl (fun _ _ h => h) ?_) | (refine AD1.noU rfl rfl ⟨_, rfl, rfl⟩ rfl (fun _ _ h => h) ?_) | (refine AD1.rdy rfl rfl rfl rfl (fun _ _ h => h) (rd_load_ref Try.underlying3 rfl rfl rfl rfl rfl rfl) ?_) | (refine AD1.rdy rfl rfl rfl rfl (fun _ _ h => h) (rd_load_ad Try.underlying3 rfl rfl rfl rfl) ?_) | (refine AD1.rdy rfl rfl rfl rfl (fun _ _ h => h) (rd_load_map Try.underlying3 rfl rfl rfl rfl rfl rfl (by assumption)) ?_) | (refine AD1.rdy rfl rfl rfl rfl (fun _ _ h => h) (rd_load_flat Try.underlying3 rfl rfl rfl rfl rfl rfl (fun _ => rfl) (by assumption) rfl) ?_))
   (first | (refine AD1.noV rfl rfl rfl rfl rfl (fun _ _ h => h) ?_) | (refine AD1.noU rfl rfl ⟨_, rfl, rfl⟩ rfl (fun _ _ h => h) ?_) | (refine AD1.rpy rfl rfl rfl rfl (fun _ _ h => h) (rp_neqT rfl rfl rfl (by first | assumption | omega | (dsimp only; omega))) ?_) | (refine AD1.rpy rfl rfl rfl rfl (fun _ _ h => h) (rp_neqF rfl rfl rfl (by first | assumption | omega | (dsimp only; omega))) ?_) | (refine AD1.rpy rfl rfl rfl rfl (fun _ _ h => h) (rp_neq rfl rfl rfl) ?_))
   refine AD1.rp rfl rfl rfl (fun _ _ h => h) (rp_pick rfl rfl rfl) ?_
   refine AD1.rp rfl rfl rfl (fun _ _ h => h) (rp_move rfl rfl) ?_
   (first | (refine AD1.noV rfl rfl rfl rfl rfl (fun _ _ h => h) ?_) | (refine AD1.noU rfl rfl ⟨_, rfl, rfl⟩ rfl (fun _ _ h => h) ?_) | (refine AD1.rpy rfl rfl rfl rfl (fun _ _ h => h) (rp_move rfl rfl) ?_))
   (first | (refine AD1.noV rfl rfl rfl rfl rfl (fun _ _ h => h) ?_) | (refine AD1.noU rfl rfl ⟨_, rfl, rfl⟩ rfl (fun _ _ h => h) ?_) | (refine AD1.rpy rfl rfl rfl rfl (fun _ _ h => h) (rp_move rfl rfl) ?_))
   (first | (refine AD1.noV rfl rfl rfl rfl rfl (fun _ _ h => h) ?_) | (refine AD1.noU rfl rfl ⟨_, rfl, rfl⟩ rfl (fun _ _ h => h) ?_) | (refine AD1.rpy rfl rfl rfl rfl (fun _ _ h => h) (rp_index_map Try.underlying50 inf56 rfl rfl rfl rfl (by assumption)) ?_) | (refine AD1.rpy rfl rfl rfl rfl (fun _ _ h => h) (rp_index_own Try.underlying50 inf56 rfl rfl rfl rfl (by first | assumption | omega)) ?_) | (refine AD1.rpy rfl rfl rfl rfl (fun _ _ h => h) (rd_index_sl Try.underlying50 inf56 rfl rfl rfl rfl (by assumption)) ?_) | (refine AD1.rpy rfl rfl rfl rfl (fun _ _ h => h) (rp_index_own Try.underlying50 inf56 rfl rfl rfl (by omega) (by omega)) ?_))
   (first | (refine AD1.noV rfl rfl rfl rfl rfl (fun _ _ h => h) ?_) | (refine AD1.noU rfl rfl ⟨_, rfl, rfl⟩ rfl (fun _ _ h => h) ?_) | (refine AD1.rpy rfl rfl rfl rfl (fun _ _ h => h) (rp_field_ref Try.underlying56 rfl rfl rfl inf3 (by decide) rfl) ?_) | (refine AD1.rpy rfl rfl rfl rfl (fun _ _ h => h) (rp_field_ad Try.underlying56 rfl rfl rfl inf3 (by decide) rfl) ?_))
   (first | (refine AD1.noV rfl rfl rfl rfl rfl (fun _ _ h => h) ?_) | (refine AD1.noU rfl rfl ⟨_, rfl, rfl⟩ rfl (fun _ _ h => h) ?_) | (refine AD1.rdy rfl rfl rfl rfl (fun _ _ h => h) (rd_load_ref Try.underlying3 rfl rfl rfl rfl rfl rfl) ?_) | (refine AD1.rdy rfl rfl rfl rfl (fun _ _ h => h) (rd_load_ad Try.underlying3 rfl rfl rfl rfl) ?_) | (refine AD1.rdy rfl rfl rfl rfl (fun _ _ h => h) (rd_load_map Try.underlying3 rfl rfl rfl rfl rfl rfl (by assumption)) ?_) | (refine AD1.rdy rfl rfl rfl rfl (fun _ _ h => h) (rd_load_flat Try.underlying3 rfl rfl rfl rfl rfl rfl (fun _ => rfl) (by assumption) rfl) ?_))
   (first | (refine AD1.noV rfl rfl rfl rfl rfl (fun _ _ h => h) ?_) | (refine AD1.noU rfl rfl ⟨_, rfl, rfl⟩ rfl (fun _ _ h => h) ?_) | (refine AD1.rpy rfl rfl rfl rfl (fun _ _ h => h) (rp_move rfl rfl) ?_))
   (first | (refine AD1.noV rfl rfl rfl rfl rfl (fun _ _ h => h) ?_) | (refine AD1.noU rfl rfl ⟨_, rfl, rfl⟩ rfl (fun _ _ h => h) ?_) | (refine AD1.rpy rfl rfl rfl rfl (fun _ _ h => h) (rp_move rfl rfl) ?_))
   (first | (refine AD1.noV rfl rfl rfl rfl rfl (fun _ _ h => h) ?_) | (refine AD1.noU rfl rfl ⟨_, rfl, rfl⟩ rfl (fun _ _ h => h) ?_) | (refine AD1.rpy rfl rfl rfl rfl (fun _ _ h => h) (rp_sub rfl rfl rfl (by first | omega | (dsimp only; omega))) ?_))
   (first | (refine AD1.noV rfl rfl rfl rfl rfl (fun _ _ h => h) ?_) | (refine AD1.noU rfl rfl ⟨_, rfl, rfl⟩ rfl (fun _ _ h => h) ?_) | (refine AD1.rpy rfl rfl rfl rfl (fun _ _ h => h) (rp_index_map Try.underlying50 inf56 rfl rfl rfl rfl (by assumption)) ?_) | (refine AD1.rpy rfl rfl rfl rfl (fun _ _ h => h) (rp_index_own Try.underlying50 inf56 rfl rfl rfl rfl (by first | assumption | omega)) ?_) | (refine AD1.rpy rfl rfl rfl rfl (fun _ _ h => h) (rd_index_sl Try.underlying50 inf56 rfl rfl rfl rfl (by assumption)) ?_) | (refine AD1.rpy rfl rfl rfl rfl (fun _ _ h => h) (rp_index_own Try.underlying50 inf56 rfl rfl rfl (by omega) (by omega)) ?_))
   (first | (refine AD1.noV rfl rfl rfl rfl rfl (fun _ _ h => h) ?_) | (refine AD1.noU rfl rfl ⟨_, rfl, rfl⟩ rfl (fun _ _ h => h) ?_) | (refine AD1.rpy rfl rfl rfl rfl (fun _ _ h => h) (rp_field_ref Try.underlying56 rfl rfl rfl inf3 (by decide) rfl) ?_) | (refine AD1.rpy rfl rfl rfl rfl (fun _ _ h => h) (rp_field_ad Try.underlying56 rfl rfl rfl inf3 (by decide) rfl) ?_))
   (first | (refine AD1.noV rfl rfl rfl rfl rfl (fun _ _ h => h) ?_) | (refine AD1.noU rfl rfl ⟨_, rfl, rfl⟩ rfl (fun _ _ h => h) ?_) | (refine AD1.rdy rfl rfl rfl rfl (fun _ _ h => h) (rd_load_ref Try.underlying3 rfl rfl rfl rfl rfl rfl) ?_) | (refine AD1.rdy rfl rfl rfl rfl (fun _ _ h => h) (rd_load_ad Try.underlying3 rfl rfl rfl rfl) ?_) | (refine AD1.rdy rfl rfl rfl rfl (fun _ _ h => h) (rd_load_map Try.underlying3 rfl rfl rfl rfl rfl rfl (by assumption)) ?_) | (refine AD1.rdy rfl rfl rfl rfl (fun _ _ h => h) (rd_load_flat Try.underlying3 rfl rfl rfl rfl rfl rfl (fun _ => rfl) (by assumption) rfl) ?_))
   (first | (refine AD1.noV rfl rfl rfl rfl rfl (fun _ _ h => h) ?_) | (refine AD1.noU rfl rfl ⟨_, rfl, rfl⟩ rfl (fun _ _ h => h) ?_) | (refine AD1.rpy rfl rfl rfl rfl (fun _ _ h => h) (rp_neqT rfl rfl rfl (by first | assumption | omega | (dsimp only; omega))) ?_) | (refine AD1.rpy rfl rfl rfl rfl (fun _ _ h => h) (rp_neqF rfl rfl rfl (by first | assumption | omega | (dsimp only; omega))) ?_) | (refine AD1.rpy rfl rfl rfl rfl (fun _ _ h => h) (rp_neq rfl rfl rfl) ?_))
   refine AD1.rp rfl rfl rfl (fun _ _ h => h) (rp_pick rfl rfl rfl) ?_
   refine AD1.rp rfl rfl rfl (fun _ _ h => h) (rp_move rfl rfl) ?_
   (first | (refine AD1.noV rfl rfl rfl rfl rfl (fun _ _ h => h) ?_) | (refine AD1.noU rfl rfl ⟨_, rfl, rfl⟩ rfl (fun _ _ h => h) ?_) | (refine AD1.rpy rfl rfl rfl rfl (fun _ _ h => h) (rp_move rfl rfl) ?_))
   (first | (refine AD1.noV rfl rfl rfl rfl rfl (fun _ _ h => h) ?_) | (refine AD1.noU rfl rfl ⟨_, rfl, rfl⟩ rfl (fun _ _ h => h) ?_) | (refine AD1.rpy rfl rfl rfl rfl (fun _ _ h => h) (rp_move rfl rfl) ?_))
   (first | (refine AD1.noV rfl rfl rfl rfl rfl (fun _ _ h => h) ?_) | (refine AD1.noU rfl rfl ⟨_, rfl, rfl⟩ rfl (fun _ _ h => h) ?_) | (refine AD1.rpy rfl rfl rfl rfl (fun _ _ h => h) (rp_index_map Try.underlying50 inf56 rfl rfl rfl rfl (by assumption)) ?_) | (refine AD1.rpy rfl rfl rfl rfl (fun _ _ h => h) (rp_index_own Try.underlying50 inf56 rfl rfl rfl rfl (by first | assumption | omega)) ?_) | (refine AD1.rpy rfl rfl rfl rfl (fun _ _ h => h) (rd_index_sl Try.underlying50 inf56 rfl rfl rfl rfl (by assumption)) ?_) | (refine AD1.rpy rfl rfl rfl rfl (fun _ _ h => h) (rp_index_own Try.underlying50 inf56 rfl rfl rfl (by omega) (by omega)) ?_))
   (first | (refine AD1.noV rfl rfl rfl rfl rfl (fun _ _ h => h) ?_) | (refine AD1.noU rfl rfl ⟨_, rfl, rfl⟩ rfl (fun _ _ h => h) ?_) | (refine AD1.rpy rfl rfl rfl rfl (fun _ _ h => h) (rp_field_ref Try.underlying56 rfl rfl rfl inf3 (by decide) rfl) ?_) | (refine AD1.rpy rfl rfl rfl rfl (fun _ _ h => h) (rp_field_ad Try.underlying56 rfl rfl rfl inf3 (by decide) rfl) ?_))
   (first | (refine AD1.noV rfl rfl rfl rfl rfl (fun _ _ h => h) ?_) | (refine AD1.noU rfl rfl ⟨_, rfl, rfl⟩ rfl (fun _ _ h => h) ?_) | (refine AD1.rdy rfl rfl rfl rfl (fun _ _ h => h) (rd_load_ref Try.underlying3 rfl rfl rfl rfl rfl rfl) ?_) | (refine AD1.rdy rfl rfl rfl rfl (fun _ _ h => h) (rd_load_ad Try.underlying3 rfl rfl rfl rfl) ?_) | (refine AD1.rdy rfl rfl rfl rfl (fun _ _ h => h) (rd_load_map Try.underlying3 rfl rfl rfl rfl rfl rfl (by assumption)) ?_) | (refine AD1.rdy rfl rfl rfl rfl (fun _ _ h => h) (rd_load_flat Try.underlying3 rfl rfl rfl rfl rfl rfl (fun _ => rfl) (by assumption) rfl) ?_))
   (first | (refine AD1.noV rfl rfl rfl rfl rfl (fun _ _ h => h) ?_) | (refine AD1.noU rfl rfl ⟨_, rfl, rfl⟩ rfl (fun _ _ h => h) ?_) | (refine AD1.rpy rfl rfl rfl rfl (fun _ _ h => h) (rp_move rfl rfl) ?_))
   (first | (refine AD1.noV rfl rfl rfl rfl rfl (fun _ _ h => h) ?_) | (refine AD1.noU rfl rfl ⟨_, rfl, rfl⟩ rfl (fun _ _ h => h) ?_) | (refine AD1.rpy rfl rfl rfl rfl (fun _ _ h => h) (rp_move rfl rfl) ?_))
   (first | (refine AD1.noV rfl rfl rfl rfl rfl (fun _ _ h => h) ?_) | (refine AD1.noU rfl rfl ⟨_, rfl, rfl⟩ rfl (fun _ _ h => h) ?_) | (refine AD1.rpy rfl rfl rfl rfl (fun _ _ h => h) (rp_sub rfl rfl rfl (by first | omega | (dsimp only; omega))) ?_))
   (first | (refine AD1.noV rfl rfl rfl rfl rfl (fun _ _ h => h) ?_) | (refine AD1.noU rfl rfl ⟨_, rfl, rfl⟩ rfl (fun _ _ h => h) ?_) | (refine AD1.rpy rfl rfl rfl rfl (fun _ _ h => h) (rp_index_map Try.underlying50 inf56 rfl rfl rfl rfl (by assumption)) ?_) | (refine AD1.rpy rfl rfl rfl rfl (fun _ _ h => h) (rp_index_own Try.underlying50 inf56 rfl rfl rfl rfl (by first | assumption | omega)) ?_) | (refine AD1.rpy rfl rfl rfl rfl (fun _ _ h => h) (rd_index_sl Try.underlying50 inf56 rfl rfl rfl rfl (by assumption)) ?_) | (refine AD1.rpy rfl rfl rfl rfl (fun _ _ h => h) (rp_index_own Try.underlying50 inf56 rfl rfl rfl (by omega) (by omega)) ?_))
   (first | (refine AD1.noV rfl rfl rfl rfl rfl (fun _ _ h => h) ?_) | (refine AD1.noU rfl rfl ⟨_, rfl, rfl⟩ rfl (fun _ _ h => h) ?_) | (refine AD1.rpy rfl rfl rfl rfl (fun _ _ h => h) (rp_field_ref Try.underlying56 rfl rfl rfl inf3 (by decide) rfl) ?_) | (refine AD1.rpy rfl rfl rfl rfl (fun _ _ h => h) (rp_field_ad Try.underlying56 rfl rfl rfl inf3 (by decide) rfl) ?_))
   (first | (refine AD1.noV rfl rfl rfl rfl rfl (fun _ _ h => h) ?_) | (refine AD1.noU rfl rfl ⟨_, rfl, rfl⟩ rfl (fun _ _ h => h) ?_) | (refine AD1.rdy rfl rfl rfl rfl (fun _ _ h => h) (rd_load_ref Try.underlying3 rfl rfl rfl rfl rfl rfl) ?_) | (refine AD1.rdy rfl rfl rfl rfl (fun _ _ h => h) (rd_load_ad Try.underlying3 rfl rfl rfl rfl) ?_) | (refine AD1.rdy rfl rfl rfl rfl (fun _ _ h => h) (rd_load_map Try.underlying3 rfl rfl rfl rfl rfl rfl (by assumption)) ?_) | (refine AD1.rdy rfl rfl rfl rfl (fun _ _ h => h) (rd_load_flat Try.underlying3 rfl rfl rfl rfl rfl rfl (fun _ => rfl) (by assumption) rfl) ?_))
   (first | (refine AD1.noV rfl rfl rfl rfl rfl (fun _ _ h => h) ?_) | (refine AD1.noU rfl rfl ⟨_, rfl, rfl⟩ rfl (fun _ _ h => h) ?_) | (refine AD1.rpy rfl rfl rfl rfl (fun _ _ h => h) (rp_neqT rfl rfl rfl (by first | assumption | omega | (dsimp only; omega))) ?_) | (refine AD1.rpy rfl rfl rfl rfl (fun _ _ h => h) (rp_neqF rfl rfl rfl (by first | assumption | omega | (dsimp only; omega))) ?_) | (refine AD1.rpy rfl rfl rfl rfl (fun _ _ h => h) (rp_neq rfl rfl rfl) ?_))
   refine AD1.rp rfl rfl rfl (fun _ _ h => h) (rp_pick rfl rfl rfl) ?_
   refine AD1.nil ?_
   try simp only [thenS, S.put]
   refine AW.condT rfl ?_
   refine AW.region ?_
   refine AL.rp rfl rfl (rp_move rfl rfl) ?_
   refine AL.rp rfl rfl (rp_move rfl rfl) ?_
   refine AL.rp rfl rfl (rp_move rfl rfl) ?_
   (first | (refine AL.rp rfl rfl (rp_index_map Try.underlying50 inf56 rfl rfl rfl rfl (by assumption)) ?_) | (refine AL.rp rfl rfl (rp_index_own Try.underlying50 inf56 rfl rfl rfl rfl (by first | assumption | omega)) ?_) | (refine AL.rp rfl rfl (rd_index_sl Try.underlying50 inf56 rfl rfl rfl rfl (by assumption)) ?_) | (refine AL.rp rfl rfl (rp_index_own Try.underlying50 inf56 rfl rfl rfl (by omega) (by omega)) ?_))
   (first | (refine AL.rd rfl rfl (rd_loads_ref Try.underlying56 rfl inf56 rfl rfl rfl rfl rfl rfl) ?_) | (refine AL.rd rfl rfl (rd_loads_ad Try.underlying56 rfl inf56 rfl rfl rfl rfl) ?_))
   refine AL.sm rfl (sm_slice (vs := [(0, _)]) (zs := [.d (.p (.int .i64 0)), .d (.p (.int .i64 0)), .d (.p (.int .i64 0)), .d (.p (.int .i64 0))]) 60 Try.underlying50 inf56 rfl rfl (by decide) (by decide) (by decide) rfl rfl rfl rfl (by first | rfl | simp [S.clean, S.put, S.newObj, S.forget, V.has, V.hasL, junkIf, setL, V.cs, hasL_i, hasL_b, hasL_s, hasL_n, hasL_rep, hasL_flat, hasL_append, -List.map_set]) (by first | rfl | simp [S.clean, S.put, S.newObj, S.forget, V.has, V.hasL, junkIf, setL, V.cs, hasL_i, hasL_b, hasL_s, hasL_n, hasL_rep, hasL_flat, hasL_append, -List.map_set]) rfl) ?_
   refine AL.st rfl (st_appendF Try.underlying50 inf56 rfl (by decide) rfl rfl rfl rfl rfl rfl (by first | assumption | rfl | (simp; done)) (by first | rfl | simp [S.clean, S.put, S.newObj, S.forget, V.has, V.hasL, junkIf, setL, V.cs, hasL_i, hasL_b, hasL_s, hasL_n, hasL_rep, hasL_flat, hasL_append, -List.map_set]) rfl rfl rfl rfl rfl (by first | rfl | simp [S.clean, S.put, S.newObj, S.forget, V.has, V.hasL, junkIf, setL, V.cs, hasL_i, hasL_b, hasL_s, hasL_n, hasL_rep, hasL_flat, hasL_append, -List.map_set]) rfl (by decide) (by omega) (by omega) rfl) ?_
   simp only [S.forget, S.put, S.newObj, junkIf, V.has, V.hasL, hasL_i, hasL_b, hasL_s, hasL_d, hasL_n, hasL_rep, hasL_flat, hasL_append, List.map_cons, List.map_nil, List.filter_cons, List.filter_nil, Nat.reduceBNe, Nat.reduceBEq, eq_self, bne_self_eq_false,  Bool.not_true, Bool.not_false, Bool.or_false, Bool.or_true, Bool.false_or, Bool.true_or, if_true, if_false, Bool.false_eq_true, ite_true, ite_false, ↓reduceIte, beq_self_eq_true, Nat.reduceEqDiff]
   refine AL.rp rfl rfl (rp_assign rfl rfl) ?_
   refine AL.nil ?_
   try simp only [thenS, S.put, S.newObj, setL, V.cs, List.length_cons, List.length_nil, List.take_succ_cons, List.take_zero, List.drop_succ_cons, List.drop_zero, List.drop_nil, List.nil_append, List.cons_append, List.append_nil, Nat.zero_add, Nat.reduceAdd, List.map_cons, List.map_nil, List.set_cons_zero, List.set_cons_succ]
   refine AW.region ?_
   refine AL.rp rfl rfl (rp_move rfl rfl) ?_
   refine AL.rp rfl rfl (rp_add rfl rfl rfl (by first | omega | (dsimp only; omega))) ?_
   refine AL.rp rfl rfl (rp_assign rfl rfl) ?_
   refine AL.nil ?_
   try simp only [thenS, S.put]
   refine ⟨_, ?_, ⟨1, [⟨xi, xo, xw, xt⟩], 1, by omega, h1.symm, rfl, rfl⟩, ?_⟩
   ·exact (Less.of rfl (by repeat (first | exact trivial | refine ⟨⟨_, rfl, Wk.refl _⟩, ?_⟩ | refine ⟨⟨_, rfl, Wk.nil _ _⟩, ?_⟩ | refine ⟨⟨_, rfl, Wk.junk _⟩, ?_⟩)) (by repeat (first | exact trivial | refine ⟨rfl, ?_⟩)) rfl)
   ·simp [S.nat, fnd]; omega
  ·obtain ⟨p, hp⟩ := get_lt hn (show i - 1 < n by omega)
   have hsn := lst_snoc (l := l) (i := i - 1) (x := x) (p := p) (by rw [show i - 1 + 1 = i by omega]; exact hx) hp
   rw [show i - 1 + 2 = i + 1 by omega, show i - 1 + 1 = i by omega, ← hA] at hsn
   have h0f : ¬ (i : Int) = 0 := by omega
   obtain ⟨xi, xo, xw, xt⟩ := x
   obtain ⟨pi, po, pw, pt⟩ := p
   by_cases e1 : xi = pi
   ·by_cases e2 : xo = po
    ·by_cases e3 : xt = pt
     ·rw [if_pos (by simp [alk, e1, e2, e3])] at hsn
      refine AW.seq ?_
      refine AW.seq ?_
      refine AW.region ?_
      refine AL.rp rfl rfl (rp_move rfl rfl) ?_
      refine AL.rp rfl rfl (rp_move rfl rfl) ?_
      (first | (refine AL.rp rfl rfl (rp_len_map Try.underlying50 rfl rfl (by assumption)) ?_) | (refine AL.rp rfl rfl (rp_len_own Try.underlying50 rfl rfl) ?_) | (refine AL.rp rfl rfl (rp_len_sl Try.underlying50 rfl rfl) ?_) | (refine AL.rp rfl rfl (rp_len_nil Try.underlying50 rfl rfl) ?_) | (refine AL.rp rfl rfl (rp_len_str Try.underlying50 rfl rfl) ?_))
      (first | (refine AL.rp rfl rfl (rp_lssT rfl rfl rfl (by first | assumption | omega | (dsimp only; omega))) ?_) | (refine AL.rp rfl rfl (rp_lssF rfl rfl rfl (by first | assumption | omega | (dsimp only; omega))) ?_) | (refine AL.rp rfl rfl (rp_lss rfl rfl rfl) ?_))
      refine AL.nil ?_
      try simp only [thenS, S.put]
      refine AW.condT rfl ?_
      refine AW.skip ?_
      try simp only [thenS]
      refine AW.seq ?_
      refine AW.block ?_
      refine AW.seq ?_
      refine AW.draw [(0, true), (1, true), (2, true), (3, true), (4, true), (5, true), (6, true), (7, true), (8, true), (9, true), (10, true), (11, true), (12, true), (13, true), (14, true), (15, true), (16, true), (17, true), (18, true), (19, true), (20, true), (21, true), (22, true), (23, true), (24, true), (25, true), (26, true), (27, true), (28, true), (29, true), (30, true), (31, true), (32, true), (33, true), (34, true), (35, true), (36, true), (37, true), (38, true), (39, true), (40, true), (41, true), (42, true), (43, true)] (fun i => !([] : List Nat).contains i) 44 (by kernel_rfl) (by kernel_rfl) rfl (by kernel_rfl) ?_
      refine AD1.rp rfl rfl rfl (fun _ _ h => h) (rp_move rfl rfl) ?_
      (first | (refine AD1.rp rfl rfl rfl (fun _ _ h => h) (rp_eqlT rfl rfl rfl (by first | assumption | omega | (dsimp only; omega))) ?_) | (refine AD1.rp rfl rfl rfl (fun _ _ h => h) (rp_eqlF rfl rfl rfl (by first | assumption | omega | (dsimp only; omega))) ?_) | (refine AD1.rp rfl rfl rfl (fun _ _ h => h) (rp_eql rfl rfl rfl) ?_))
      refine AD1.rp rfl rfl rfl (fun _ _ h => h) (rp_move rfl rfl) ?_
      (first | (refine AD1.noV rfl rfl rfl rfl rfl (fun _ _ h => h) ?_) | (refine AD1.noU rfl rfl ⟨_, rfl, rfl⟩ rfl (fun _ _ h => h) ?_) | (refine AD1.rpy rfl rfl rfl rfl (fun _ _ h => h) (rp_move rfl rfl) ?_))
      (first | (refine AD1.noV rfl rfl rfl rfl rfl (fun _ _ h => h) ?_) | (refine AD1.noU rfl rfl ⟨_, rfl, rfl⟩ rfl (fun _ _ h => h) ?_) | (refine AD1.rpy rfl rfl rfl rfl (fun _ _ h => h) (rp_move rfl rfl) ?_))
      (first | (refine AD1.noV rfl rfl rfl rfl rfl (fun _ _ h => h) ?_) | (refine AD1.noU rfl rfl ⟨_, rfl, rfl⟩ rfl (fun _ _ h => h) ?_) | (refine AD1.rpy rfl rfl rfl rfl (fun _ _ h => h) (rp_index_map Try.underlying50 inf56 rfl rfl rfl rfl (by assumption)) ?_) | (refine AD1.rpy rfl rfl rfl rfl (fun _ _ h => h) (rp_index_own Try.underlying50 inf56 rfl rfl rfl rfl (by first | assumption | omega)) ?_) | (refine AD1.rpy rfl rfl rfl rfl (fun _ _ h => h) (rd_index_sl Try.underlying50 inf56 rfl rfl rfl rfl (by assumption)) ?_) | (refine AD1.rpy rfl rfl rfl rfl (fun _ _ h => h) (rp_index_own Try.underlying50 inf56 rfl rfl rfl (by omega) (by omega)) ?_))
      (first | (refine AD1.noV rfl rfl rfl rfl rfl (fun _ _ h => h) ?_) | (refine AD1.noU rfl rfl ⟨_, rfl, rfl⟩ rfl (fun _ _ h => h) ?_) | (refine AD1.rpy rfl rfl rfl rfl (fun _ _ h => h) (rp_field_ref Try.underlying56 rfl rfl rfl inf3 (by decide) rfl) ?_) | (refine AD1.rpy rfl rfl rfl rfl (fun _ _ h => h) (rp_field_ad Try.underlying56 rfl rfl rfl inf3 (by decide) rfl) ?_))
      (first | (refine AD1.noV rfl rfl rfl rfl rfl (fun _ _ h => h) ?_) | (refine AD1.noU rfl rfl ⟨_, rfl, rfl⟩ rfl (fun _ _ h => h) ?_) | (refine AD1.rdy rfl rfl rfl rfl (fun _ _ h => h) (rd_load_ref Try.underlying3 rfl rfl rfl rfl rfl rfl) ?_) | (refine AD1.rdy rfl rfl rfl rfl (fun _ _ h => h) (rd_load_ad Try.underlying3 rfl rfl rfl rfl) ?_) | (refine AD1.rdy rfl rfl rfl rfl (fun _ _ h => h) (rd_load_map Try.underlying3 rfl rfl rfl rfl rfl rfl (by assumption)) ?_) | (refine AD1.rdy rfl rfl rfl rfl (fun _ _ h => h) (rd_load_flat Try.underlying3 rfl rfl rfl rfl rfl rfl (fun _ => rfl) (by assumption) rfl) ?_))
      (first | (refine AD1.noV rfl rfl rfl rfl rfl (fun _ _ h => h) ?_) | (refine AD1.noU rfl rfl ⟨_, rfl, rfl⟩ rfl (fun _ _ h => h) ?_) | (refine AD1.rpy rfl rfl rfl rfl (fun _ _ h => h) (rp_move rfl rfl) ?_))
      (first | (refine AD1.noV rfl rfl rfl rfl rfl (fun _ _ h => h) ?_) | (refine AD1.noU rfl rfl ⟨_, rfl, rfl⟩ rfl (fun _ _ h => h) ?_) | (refine AD1.rpy rfl rfl rfl rfl (fun _ _ h => h) (rp_move rfl rfl) ?_))
      (first | (refine AD1.noV rfl rfl rfl rfl rfl (fun _ _ h => h) ?_) | (refine AD1.noU rfl rfl ⟨_, rfl, rfl⟩ rfl (fun _ _ h => h) ?_) | (refine AD1.rpy rfl rfl rfl rfl (fun _ _ h => h) (rp_sub rfl rfl rfl (by first | omega | (dsimp only; omega))) ?_))
      (first | (refine AD1.noV rfl rfl rfl rfl rfl (fun _ _ h => h) ?_) | (refine AD1.noU rfl rfl ⟨_, rfl, rfl⟩ rfl (fun _ _ h => h) ?_) | (refine AD1.rpy rfl rfl rfl rfl (fun _ _ h => h) (rp_index_own (k := i - 1) Try.underlying50 inf56 rfl rfl rfl (by omega) (by omega)) ?_) | (refine AD1.rpy rfl rfl rfl rfl (fun _ _ h => h) (rp_index_map (k := i - 1) Try.underlying50 inf56 rfl rfl rfl (by omega) (by assumption)) ?_))
      (first | (refine AD1.noV rfl rfl rfl rfl rfl (fun _ _ h => h) ?_) | (refine AD1.noU rfl rfl ⟨_, rfl, rfl⟩ rfl (fun _ _ h => h) ?_) | (refine AD1.rpy rfl rfl rfl rfl (fun _ _ h => h) (rp_field_ref Try.underlying56 rfl rfl rfl inf3 (by decide) rfl) ?_) | (refine AD1.rpy rfl rfl rfl rfl (fun _ _ h => h) (rp_field_ad Try.underlying56 rfl rfl rfl inf3 (by decide) rfl) ?_))
      (first | (refine AD1.noV rfl rfl rfl rfl rfl (fun _ _ h => h) ?_) | (refine AD1.noU rfl rfl ⟨_, rfl, rfl⟩ rfl (fun _ _ h => h) ?_) | (refine AD1.rdy rfl rfl rfl rfl (fun _ _ h => h) (rd_load_ref Try.underlying3 rfl rfl rfl rfl rfl rfl) ?_) | (refine AD1.rdy rfl rfl rfl rfl (fun _ _ h => h) (rd_load_ad Try.underlying3 rfl rfl rfl rfl) ?_) | (refine AD1.rdy rfl rfl rfl rfl (fun _ _ h => h) (rd_load_map Try.underlying3 rfl rfl rfl rfl rfl rfl (by assumption)) ?_) | (refine AD1.rdy rfl rfl rfl rfl (fun _ _ h => h) (rd_load_flat Try.underlying3 rfl rfl rfl rfl rfl rfl (fun _ => rfl) (by assumption) rfl) ?_))
      (first | (refine AD1.noV rfl rfl rfl rfl rfl (fun _ _ h => h) ?_) | (refine AD1.noU rfl rfl ⟨_, rfl, rfl⟩ rfl (fun _ _ h => h) ?_) | (refine AD1.rpy rfl rfl rfl rfl (fun _ _ h => h) (rp_neqT rfl rfl rfl (by first | assumption | omega | (dsimp only; omega))) ?_) | (refine AD1.rpy rfl rfl rfl rfl (fun _ _ h => h) (rp_neqF rfl rfl rfl (by first | assumption | omega | (dsimp only; omega))) ?_) | (refine AD1.rpy rfl rfl rfl rfl (fun _ _ h => h) (rp_neq rfl rfl rfl) ?_))
      refine AD1.rp rfl rfl rfl (fun _ _ h => h) (rp_pick rfl rfl rfl) ?_
      refine AD1.rp rfl rfl rfl (fun _ _ h => h) (rp_move rfl rfl) ?_
      (first | (refine AD1.noV rfl rfl rfl rfl rfl (fun _ _ h => h) ?_) | (refine AD1.noU rfl rfl ⟨_, rfl, rfl⟩ rfl (fun _ _ h => h) ?_) | (refine AD1.rpy rfl rfl rfl rfl (fun _ _ h => h) (rp_move rfl rfl) ?_))
      (first | (refine AD1.noV rfl rfl rfl rfl rfl (fun _ _ h => h) ?_) | (refine AD1.noU rfl rfl ⟨_, rfl, rfl⟩ rfl (fun _ _ h => h) ?_) | (refine AD1.rpy rfl rfl rfl rfl (fun _ _ h => h) (rp_move rfl rfl) ?_))
      (first | (refine AD1.noV rfl rfl rfl rfl rfl (fun _ _ h => h) ?_) | (refine AD1.noU rfl rfl ⟨_, rfl, rfl⟩ rfl (fun _ _ h => h) ?_) | (refine AD1.rpy rfl rfl rfl rfl (fun _ _ h => h) (rp_index_map Try.underlying50 inf56 rfl rfl rfl rfl (by assumption)) ?_) | (refine AD1.rpy rfl rfl rfl rfl (fun _ _ h => h) (rp_index_own Try.underlying50 inf56 rfl rfl rfl rfl (by first | assumption | omega)) ?_) | (refine AD1.rpy rfl rfl rfl rfl (fun _ _ h => h) (rd_index_sl Try.underlying50 inf56 rfl rfl rfl rfl (by assumption)) ?_) | (refine AD1.rpy rfl rfl rfl rfl (fun _ _ h => h) (rp_index_own Try.underlying50 inf56 rfl rfl rfl (by omega) (by omega)) ?_))
      (first | (refine AD1.noV rfl rfl rfl rfl rfl (fun _ _ h => h) ?_) | (refine AD1.noU rfl rfl ⟨_, rfl, rfl⟩ rfl (fun _ _ h => h) ?_) | (refine AD1.rpy rfl rfl rfl rfl (fun _ _ h => h) (rp_field_ref Try.underlying56 rfl rfl rfl inf3 (by decide) rfl) ?_) | (refine AD1.rpy rfl rfl rfl rfl (fun _ _ h => h) (rp_field_ad Try.underlying56 rfl rfl rfl inf3 (by decide) rfl) ?_))
      (first | (refine AD1.noV rfl rfl rfl rfl rfl (fun _ _ h => h) ?_) | (refine AD1.noU rfl rfl ⟨_, rfl, rfl⟩ rfl (fun _ _ h => h) ?_) | (refine AD1.rdy rfl rfl rfl rfl (fun _ _ h => h) (rd_load_ref Try.underlying3 rfl rfl rfl rfl rfl rfl) ?_) | (refine AD1.rdy rfl rfl rfl rfl (fun _ _ h => h) (rd_load_ad Try.underlying3 rfl rfl rfl rfl) ?_) | (refine AD1.rdy rfl rfl rfl rfl (fun _ _ h => h) (rd_load_map Try.underlying3 rfl rfl rfl rfl rfl rfl (by assumption)) ?_) | (refine AD1.rdy rfl rfl rfl rfl (fun _ _ h => h) (rd_load_flat Try.underlying3 rfl rfl rfl rfl rfl rfl (fun _ => rfl) (by assumption) rfl) ?_))
      (first | (refine AD1.noV rfl rfl rfl rfl rfl (fun _ _ h => h) ?_) | (refine AD1.noU rfl rfl ⟨_, rfl, rfl⟩ rfl (fun _ _ h => h) ?_) | (refine AD1.rpy rfl rfl rfl rfl (fun _ _ h => h) (rp_move rfl rfl) ?_))
      (first | (refine AD1.noV rfl rfl rfl rfl rfl (fun _ _ h => h) ?_) | (refine AD1.noU rfl rfl ⟨_, rfl, rfl⟩ rfl (fun _ _ h => h) ?_) | (refine AD1.rpy rfl rfl rfl rfl (fun _ _ h => h) (rp_move rfl rfl) ?_))
      (first | (refine AD1.noV rfl rfl rfl rfl rfl (fun _ _ h => h) ?_) | (refine AD1.noU rfl rfl ⟨_, rfl, rfl⟩ rfl (fun _ _ h => h) ?_) | (refine AD1.rpy rfl rfl rfl rfl (fun _ _ h => h) (rp_sub rfl rfl rfl (by first | omega | (dsimp only; omega))) ?_))
      (first | (refine AD1.noV rfl rfl rfl rfl rfl (fun _ _ h => h) ?_) | (refine AD1.noU rfl rfl ⟨_, rfl, rfl⟩ rfl (fun _ _ h => h) ?_) | (refine AD1.rpy rfl rfl rfl rfl (fun _ _ h => h) (rp_index_own (k := i - 1) Try.underlying50 inf56 rfl rfl rfl (by omega) (by omega)) ?_) | (refine AD1.rpy rfl rfl rfl rfl (fun _ _ h => h) (rp_index_map (k := i - 1) Try.underlying50 inf56 rfl rfl rfl (by omega) (by assumption)) ?_))
      (first | (refine AD1.noV rfl rfl rfl rfl rfl (fun _ _ h => h) ?_) | (refine AD1.noU rfl rfl ⟨_, rfl, rfl⟩ rfl (fun _ _ h => h) ?_) | (refine AD1.rpy rfl rfl rfl rfl (fun _ _ h => h) (rp_field_ref Try.underlying56 rfl rfl rfl inf3 (by decide) rfl) ?_) | (refine AD1.rpy rfl rfl rfl rfl (fun _ _ h => h) (rp_field_ad Try.underlying56 rfl rfl rfl inf3 (by decide) rfl) ?_))
      (first | (refine AD1.noV rfl rfl rfl rfl rfl (fun _ _ h => h) ?_) | (refine AD1.noU rfl rfl ⟨_, rfl, rfl⟩ rfl (fun _ _ h => h) ?_) | (refine AD1.rdy rfl rfl rfl rfl (fun _ _ h => h) (rd_load_ref Try.underlying3 rfl rfl rfl rfl rfl rfl) ?_) | (refine AD1.rdy rfl rfl rfl rfl (fun _ _ h => h) (rd_load_ad Try.underlying3 rfl rfl rfl rfl) ?_) | (refine AD1.rdy rfl rfl rfl rfl (fun _ _ h => h) (rd_load_map Try.underlying3 rfl rfl rfl rfl rfl rfl (by assumption)) ?_) | (refine AD1.rdy rfl rfl rfl rfl (fun _ _ h => h) (rd_load_flat Try.underlying3 rfl rfl rfl rfl rfl rfl (fun _ => rfl) (by assumption) rfl) ?_))
      (first | (refine AD1.noV rfl rfl rfl rfl rfl (fun _ _ h => h) ?_) | (refine AD1.noU rfl rfl ⟨_, rfl, rfl⟩ rfl (fun _ _ h => h) ?_) | (refine AD1.rpy rfl rfl rfl rfl (fun _ _ h => h) (rp_neqT rfl rfl rfl (by first | assumption | omega | (dsimp only; omega))) ?_) | (refine AD1.rpy rfl rfl rfl rfl (fun _ _ h => h) (rp_neqF rfl rfl rfl (by first | assumption | omega | (dsimp only; omega))) ?_) | (refine AD1.rpy rfl rfl rfl rfl (fun _ _ h => h) (rp_neq rfl rfl rfl) ?_))
      refine AD1.rp rfl rfl rfl (fun _ _ h => h) (rp_pick rfl rfl rfl) ?_
      refine AD1.rp rfl rfl rfl (fun _ _ h => h) (rp_move rfl rfl) ?_
      (first | (refine AD1.noV rfl rfl rfl rfl rfl (fun _ _ h => h) ?_) | (refine AD1.noU rfl rfl ⟨_, rfl, rfl⟩ rfl (fun _ _ h => h) ?_) | (refine AD1.rpy rfl rfl rfl rfl (fun _ _ h => h) (rp_move rfl rfl) ?_))
      (first | (refine AD1.noV rfl rfl rfl rfl rfl (fun _ _ h => h) ?_) | (refine AD1.noU rfl rfl ⟨_, rfl, rfl⟩ rfl (fun _ _ h => h) ?_) | (refine AD1.rpy rfl rfl rfl rfl (fun _ _ h => h) (rp_move rfl rfl) ?_))
      (first | (refine AD1.noV rfl rfl rfl rfl rfl (fun _ _ h => h) ?_) | (refine AD1.noU rfl rfl ⟨_, rfl, rfl⟩ rfl (fun _ _ h => h) ?_) | (refine AD1.rpy rfl rfl rfl rfl (fun _ _ h => h) (rp_index_map Try.underlying50 inf56 rfl rfl rfl rfl (by assumption)) ?_) | (refine AD1.rpy rfl rfl rfl rfl (fun _ _ h => h) (rp_index_own Try.underlying50 inf56 rfl rfl rfl rfl (by first | assumption | omega)) ?_) | (refine AD1.rpy rfl rfl rfl rfl (fun _ _ h => h) (rd_index_sl Try.underlying50 inf56 rfl rfl rfl rfl (by assumption)) ?_) | (refine AD1.rpy rfl rfl rfl rfl (fun _ _ h => h) (rp_index_own Try.underlying50 inf56 rfl rfl rfl (by omega) (by omega)) ?_))
      (first | (refine AD1.noV rfl rfl rfl rfl rfl (fun _ _ h => h) ?_) | (refine AD1.noU rfl rfl ⟨_, rfl, rfl⟩ rfl (fun _ _ h => h) ?_) | (refine AD1.rpy rfl rfl rfl rfl (fun _ _ h => h) (rp_field_ref Try.underlying56 rfl rfl rfl inf3 (by decide) rfl) ?_) | (refine AD1.rpy rfl rfl rfl rfl (fun _ _ h => h) (rp_field_ad Try.underlying56 rfl rfl rfl inf3 (by decide) rfl) ?_))
      (first | (refine AD1.noV rfl rfl rfl rfl rfl (fun _ _ h => h) ?_) | (refine AD1.noU rfl rfl ⟨_, rfl, rfl⟩ rfl (fun _ _ h => h) ?_) | (refine AD1.rdy rfl rfl rfl rfl (fun _ _ h => h) (rd_load_ref Try.underlying3 rfl rfl rfl rfl rfl rfl) ?_) | (refine AD1.rdy rfl rfl rfl rfl (fun _ _ h => h) (rd_load_ad Try.underlying3 rfl rfl rfl rfl) ?_) | (refine AD1.rdy rfl rfl rfl rfl (fun _ _ h => h) (rd_load_map Try.underlying3 rfl rfl rfl rfl rfl rfl (by assumption)) ?_) | (refine AD1.rdy rfl rfl rfl rfl (fun _ _ h => h) (rd_load_flat Try.underlying3 rfl rfl rfl rfl rfl rfl (fun _ => rfl) (by assumption) rfl) ?_))
      (first | (refine AD1.noV rfl rfl rfl rfl rfl (fun _ _ h => h) ?_) | (refine AD1.noU rfl rfl ⟨_, rfl, rfl⟩ rfl (fun _ _ h => h) ?_) | (refine AD1.rpy rfl rfl rfl rfl (fun _ _ h => h) (rp_move rfl rfl) ?_))
      (first | (refine AD1.noV rfl rfl rfl rfl rfl (fun _ _ h => h) ?_) | (refine AD1.noU rfl rfl ⟨_, rfl, rfl⟩ rfl (fun _ _ h => h) ?_) | (refine AD1.rpy rfl rfl rfl rfl (fun _ _ h => h) (rp_move rfl rfl) ?_))
      (first | (refine AD1.noV rfl rfl rfl rfl rfl (fun _ _ h => h) ?_) | (refine AD1.noU rfl rfl ⟨_, rfl, rfl⟩ rfl (fun _ _ h => h) ?_) | (refine AD1.rpy rfl rfl rfl rfl (fun _ _ h => h) (rp_sub rfl rfl rfl (by first | omega | (dsimp only; omega))) ?_))
      (first | (refine AD1.noV rfl rfl rfl rfl rfl (fun _ _ h => h) ?_) | (refine AD1.noU rfl rfl ⟨_, rfl, rfl⟩ rfl (fun _ _ h => h) ?_) | (refine AD1.rpy rfl rfl rfl rfl (fun _ _ h => h) (rp_index_own (k := i - 1) Try.underlying50 inf56 rfl rfl rfl (by omega) (by omega)) ?_) | (refine AD1.rpy rfl rfl rfl rfl (fun _ _ h => h) (rp_index_map (k := i - 1) Try.underlying50 inf56 rfl rfl rfl (by omega) (by assumption)) ?_))
      (first | (refine AD1.noV rfl rfl rfl rfl rfl (fun _ _ h => h) ?_) | (refine AD1.noU rfl rfl ⟨_, rfl, rfl⟩ rfl (fun _ _ h => h) ?_) | (refine AD1.rpy rfl rfl rfl rfl (fun _ _ h => h) (rp_field_ref Try.underlying56 rfl rfl rfl inf3 (by decide) rfl) ?_) | (refine AD1.rpy rfl rfl rfl rfl (fun _ _ h => h) (rp_field_ad Try.underlying56 rfl rfl rfl inf3 (by decide) rfl) ?_))
      (first | (refine AD1.noV rfl rfl rfl rfl rfl (fun _ _ h => h) ?_) | (refine AD1.noU rfl rfl ⟨_, rfl, rfl⟩ rfl (fun _ _ h => h) ?_) | (refine AD1.rdy rfl rfl rfl rfl (fun _ _ h => h) (rd_load_ref Try.underlying3 rfl rfl rfl rfl rfl rfl) ?_) | (refine AD1.rdy rfl rfl rfl rfl (fun _ _ h => h) (rd_load_ad Try.underlying3 rfl rfl rfl rfl) ?_) | (refine AD1.rdy rfl rfl rfl rfl (fun _ _ h => h) (rd_load_map Try.underlying3 rfl rfl rfl rfl rfl rfl (by assumption)) ?_) | (refine AD1.rdy rfl rfl rfl rfl (fun _ _ h => h) (rd_load_flat Try.underlying3 rfl rfl rfl rfl rfl rfl (fun _ => rfl) (by assumption) rfl) ?_))
      (first | (refine AD1.noV rfl rfl rfl rfl rfl (fun _ _ h => h) ?_) | (refine AD1.noU rfl rfl ⟨_, rfl, rfl⟩ rfl (fun _ _ h => h) ?_) | (refine AD1.rpy rfl rfl rfl rfl (fun _ _ h => h) (rp_neqT rfl rfl rfl (by first | assumption | omega | (dsimp only; omega))) ?_) | (refine AD1.rpy rfl rfl rfl rfl (fun _ _ h => h) (rp_neqF rfl rfl rfl (by first | assumption | omega | (dsimp only; omega))) ?_) | (refine AD1.rpy rfl rfl rfl rfl (fun _ _ h => h) (rp_neq rfl rfl rfl) ?_))
      refine AD1.rp rfl rfl rfl (fun _ _ h => h) (rp_pick rfl rfl rfl) ?_
      refine AD1.nil ?_
      try simp only [thenS, S.put]
      refine AW.condF rfl ?_
      refine AW.skip ?_
      try simp only [thenS]
      refine AW.region ?_
      refine AL.rp rfl rfl (rp_move rfl rfl) ?_
      refine AL.rp rfl rfl (rp_add rfl rfl rfl (by first | omega | (dsimp only; omega))) ?_
      refine AL.rp rfl rfl (rp_assign rfl rfl) ?_
      refine AL.nil ?_
      try simp only [thenS, S.put]
      refine ⟨_, ?_, ⟨i + 1, A, ak, by omega, by rw [hsn]; simp, hak, rfl⟩, ?_⟩
      ·exact (Less.of rfl (by repeat (first | exact trivial | refine ⟨⟨_, rfl, Wk.refl _⟩, ?_⟩ | refine ⟨⟨_, rfl, Wk.nil _ _⟩, ?_⟩ | refine ⟨⟨_, rfl, Wk.junk _⟩, ?_⟩)) (by repeat (first | exact trivial | refine ⟨rfl, ?_⟩)) rfl)
      ·simp [S.nat, fnd]; omega
     ·rw [if_neg (by simp [alk, e3])] at hsn
      refine AW.seq ?_
      refine AW.seq ?_
      refine AW.region ?_
      refine AL.rp rfl rfl (rp_move rfl rfl) ?_
      refine AL.rp rfl rfl (rp_move rfl rfl) ?_
      (first | (refine AL.rp rfl rfl (rp_len_map Try.underlying50 rfl rfl (by assumption)) ?_) | (refine AL.rp rfl rfl (rp_len_own Try.underlying50 rfl rfl) ?_) | (refine AL.rp rfl rfl (rp_len_sl Try.underlying50 rfl rfl) ?_) | (refine AL.rp rfl rfl (rp_len_nil Try.underlying50 rfl rfl) ?_) | (refine AL.rp rfl rfl (rp_len_str Try.underlying50 rfl rfl) ?_))
      (first | (refine AL.rp rfl rfl (rp_lssT rfl rfl rfl (by first | assumption | omega | (dsimp only; omega))) ?_) | (refine AL.rp rfl rfl (rp_lssF rfl rfl rfl (by first | assumption | omega | (dsimp only; omega))) ?_) | (refine AL.rp rfl rfl (rp_lss rfl rfl rfl) ?_))
      refine AL.nil ?_
      try simp only [thenS, S.put]
      refine AW.condT rfl ?_
      refine AW.skip ?_
      try simp only [thenS]
      refine AW.seq ?_
      refine AW.block ?_
      refine AW.seq ?_
      refine AW.draw [(0, true), (1, true), (2, true), (3, true), (4, true), (5, true), (6, true), (7, true), (8, true), (9, true), (10, true), (11, true), (12, true), (13, true), (14, true), (15, true), (16, true), (17, true), (18, true), (19, true), (20, true), (21, true), (22, true), (23, true), (24, true), (25, true), (26, true), (27, true), (28, true), (29, true), (30, true), (31, true), (32, true), (33, true), (34, true), (35, true), (36, true), (37, true), (38, true), (39, true), (40, true), (41, true), (42, true), (43, true)] (fun i => !([] : List Nat).contains i) 44 (by kernel_rfl) (by kernel_rfl) rfl (by kernel_rfl) ?_
      refine AD1.rp rfl rfl rfl (fun _ _ h => h) (rp_move rfl rfl) ?_
      (first | (refine AD1.rp rfl rfl rfl (fun _ _ h => h) (rp_eqlT rfl rfl rfl (by first | assumption | omega | (dsimp only; omega))) ?_) | (refine AD1.rp rfl rfl rfl (fun _ _ h => h) (rp_eqlF rfl rfl rfl (by first | assumption | omega | (dsimp only; omega))) ?_) | (refine AD1.rp rfl rfl rfl (fun _ _ h => h) (rp_eql rfl rfl rfl) ?_))
      refine AD1.rp rfl rfl rfl (fun _ _ h => h) (rp_move rfl rfl) ?_
      (first | (refine AD1.noV rfl rfl rfl rfl rfl (fun _ _ h => h) ?_) | (refine AD1.noU rfl rfl ⟨_, rfl, rfl⟩ rfl (fun _ _ h => h) ?_) | (refine AD1.rpy rfl rfl rfl rfl (fun _ _ h => h) (rp_move rfl rfl) ?_))
      (first | (refine AD1.noV rfl rfl rfl rfl rfl (fun _ _ h => h) ?_) | (refine AD1.noU rfl rfl ⟨_, rfl, rfl⟩ rfl (fun _ _ h => h) ?_) | (refine AD1.rpy rfl rfl rfl rfl (fun _ _ h => h) (rp_move rfl rfl) ?_))
      (first | (refine AD1.noV rfl rfl rfl rfl rfl (fun _ _ h => h) ?_) | (refine AD1.noU rfl rfl ⟨_, rfl, rfl⟩ rfl (fun _ _ h => h) ?_) | (refine AD1.rpy rfl rfl rfl rfl (fun _ _ h => h) (rp_index_map Try.underlying50 inf56 rfl rfl rfl rfl (by assumption)) ?_) | (refine AD1.rpy rfl rfl rfl rfl (fun _ _ h => h) (rp_index_own Try.underlying50 inf56 rfl rfl rfl rfl (by first | assumption | omega)) ?_) | (refine AD1.rpy rfl rfl rfl rfl (fun _ _ h => h) (rd_index_sl Try.underlying50 inf56 rfl rfl rfl rfl (by assumption)) ?_) | (refine AD1.rpy rfl rfl rfl rfl (fun _ _ h => h) (rp_index_own Try.underlying50 inf56 rfl rfl rfl (by omega) (by omega)) ?_))
      (first | (refine AD1.noV rfl rfl rfl rfl rfl (fun _ _ h => h) ?_) | (refine AD1.noU rfl rfl ⟨_, rfl, rfl⟩ rfl (fun _ _ h => h) ?_) | (refine AD1.rpy rfl rfl rfl rfl (fun _ _ h => h) (rp_field_ref Try.underlying56 rfl rfl rfl inf3 (by decide) rfl) ?_) | (refine AD1.rpy rfl rfl rfl rfl (fun _ _ h => h) (rp_field_ad Try.underlying56 rfl rfl rfl inf3 (by decide) rfl) ?_))
      (first | (refine AD1.noV rfl rfl rfl rfl rfl (fun _ _ h => h) ?_) | (refine AD1.noU rfl rfl ⟨_, rfl, rfl⟩ rfl (fun _ _ h => h) ?_) | (refine AD1.rdy rfl rfl rfl rfl (fun _ _ h => h) (rd_load_ref Try.underlying3 rfl rfl rfl rfl rfl rfl) ?_) | (refine AD1.rdy rfl rfl rfl rfl (fun _ _ h => h) (rd_load_ad Try.underlying3 rfl rfl rfl rfl) ?_) | (refine AD1.rdy rfl rfl rfl rfl (fun _ _ h => h) (rd_load_map Try.underlying3 rfl rfl rfl rfl rfl rfl (by assumption)) ?_) | (refine AD1.rdy rfl rfl rfl rfl (fun _ _ h => h) (rd_load_flat Try.underlying3 rfl rfl rfl rfl rfl rfl (fun _ => rfl) (by assumption) rfl) ?_))
      (first | (refine AD1.noV rfl rfl rfl rfl rfl (fun _ _ h => h) ?_) | (refine AD1.noU rfl rfl ⟨_, rfl, rfl⟩ rfl (fun _ _ h => h) ?_) | (refine AD1.rpy rfl rfl rfl rfl (fun _ _ h => h) (rp_move rfl rfl) ?_))
      (first | (refine AD1.noV rfl rfl rfl rfl rfl (fun _ _ h => h) ?_) | (refine AD1.noU rfl rfl ⟨_, rfl, rfl⟩ rfl (fun _ _ h => h) ?_) | (refine AD1.rpy rfl rfl rfl rfl (fun _ _ h => h) (rp_move rfl rfl) ?_))
      (first | (refine AD1.noV rfl rfl rfl rfl rfl (fun _ _ h => h) ?_) | (refine AD1.noU rfl rfl ⟨_, rfl, rfl⟩ rfl (fun _ _ h => h) ?_) | (refine AD1.rpy rfl rfl rfl rfl (fun _ _ h => h) (rp_sub rfl rfl rfl (by first | omega | (dsimp only; omega))) ?_))
      (first | (refine AD1.noV rfl rfl rfl rfl rfl (fun _ _ h => h) ?_) | (refine AD1.noU rfl rfl ⟨_, rfl, rfl⟩ rfl (fun _ _ h => h) ?_) | (refine AD1.rpy rfl rfl rfl rfl (fun _ _ h => h) (rp_index_own (k := i - 1) Try.underlying50 inf56 rfl rfl rfl (by omega) (by omega)) ?_) | (refine AD1.rpy rfl rfl rfl rfl (fun _ _ h => h) (rp_index_map (k := i - 1) Try.underlying50 inf56 rfl rfl rfl (by omega) (by assumption)) ?_))
      (first | (refine AD1.noV rfl rfl rfl rfl rfl (fun _ _ h => h) ?_) | (refine AD1.noU rfl rfl ⟨_, rfl, rfl⟩ rfl (fun _ _ h => h) ?_) | (refine AD1.rpy rfl rfl rfl rfl (fun _ _ h => h) (rp_field_ref Try.underlying56 rfl rfl rfl inf3 (by decide) rfl) ?_) | (refine AD1.rpy rfl rfl rfl rfl (fun _ _ h => h) (rp_field_ad Try.underlying56 rfl rfl rfl inf3 (by decide) rfl) ?_))
      (first | (refine AD1.noV rfl rfl rfl rfl rfl (fun _ _ h => h) ?_) | (refine AD1.noU rfl rfl ⟨_, rfl, rfl⟩ rfl (fun _ _ h => h) ?_) | (refine AD1.rdy rfl rfl rfl rfl (fun _ _ h => h) (rd_load_ref Try.underlying3 rfl rfl rfl rfl rfl rfl) ?_) | (refine AD1.rdy rfl rfl rfl rfl (fun _ _ h => h) (rd_load_ad Try.underlying3 rfl rfl rfl rfl) ?_) | (refine AD1.rdy rfl rfl rfl rfl (fun _ _ h => h) (rd_load_map Try.underlying3 rfl rfl rfl rfl rfl rfl (by assumption)) ?_) | (refine AD1.rdy rfl rfl rfl rfl (fun _ _ h => h) (rd_load_flat Try.underlying3 rfl rfl rfl rfl rfl rfl (fun _ => rfl) (by assumption) rfl) ?_))
      (first | (refine AD1.noV rfl rfl rfl rfl rfl (fun _ _ h => h) ?_) | (refine AD1.noU rfl rfl ⟨_, rfl, rfl⟩ rfl (fun _ _ h => h) ?_) | (refine AD1.rpy rfl rfl rfl rfl (fun _ _ h => h) (rp_neqT rfl rfl rfl (by first | assumption | omega | (dsimp only; omega))) ?_) | (refine AD1.rpy rfl rfl rfl rfl (fun _ _ h => h) (rp_neqF rfl rfl rfl (by first | assumption | omega | (dsimp only; omega))) ?_) | (refine AD1.rpy rfl rfl rfl rfl (fun _ _ h => h) (rp_neq rfl rfl rfl) ?_))
      refine AD1.rp rfl rfl rfl (fun _ _ h => h) (rp_pick rfl rfl rfl) ?_
      refine AD1.rp rfl rfl rfl (fun _ _ h => h) (rp_move rfl rfl) ?_
      (first | (refine AD1.noV rfl rfl rfl rfl rfl (fun _ _ h => h) ?_) | (refine AD1.noU rfl rfl ⟨_, rfl, rfl⟩ rfl (fun _ _ h => h) ?_) | (refine AD1.rpy rfl rfl rfl rfl (fun _ _ h => h) (rp_move rfl rfl) ?_))
      (first | (refine AD1.noV rfl rfl rfl rfl rfl (fun _ _ h => h) ?_) | (refine AD1.noU rfl rfl ⟨_, rfl, rfl⟩ rfl (fun _ _ h => h) ?_) | (refine AD1.rpy rfl rfl rfl rfl (fun _ _ h => h) (rp_move rfl rfl) ?_))
      (first | (refine AD1.noV rfl rfl rfl rfl rfl (fun _ _ h => h) ?_) | (refine AD1.noU rfl rfl ⟨_, rfl, rfl⟩ rfl (fun _ _ h => h) ?_) | (refine AD1.rpy rfl rfl rfl rfl (fun _ _ h => h) (rp_index_map Try.underlying50 inf56 rfl rfl rfl rfl (by assumption)) ?_) | (refine AD1.rpy rfl rfl rfl rfl (fun _ _ h => h) (rp_index_own Try.underlying50 inf56 rfl rfl rfl rfl (by first | assumption | omega)) ?_) | (refine AD1.rpy rfl rfl rfl rfl (fun _ _ h => h) (rd_index_sl Try.underlying50 inf56 rfl rfl rfl rfl (by assumption)) ?_) | (refine AD1.rpy rfl rfl rfl rfl (fun _ _ h => h) (rp_index_own Try.underlying50 inf56 rfl rfl rfl (by omega) (by omega)) ?_))
      (first | (refine AD1.noV rfl rfl rfl rfl rfl (fun _ _ h => h) ?_) | (refine AD1.noU rfl rfl ⟨_, rfl, rfl⟩ rfl (fun _ _ h => h) ?_) | (refine AD1.rpy rfl rfl rfl rfl (fun _ _ h => h) (rp_field_ref Try.underlying56 rfl rfl rfl inf3 (by decide) rfl) ?_) | (refine AD1.rpy rfl rfl rfl rfl (fun _ _ h => h) (rp_field_ad Try.underlying56 rfl rfl rfl inf3 (by decide) rfl) ?_))
      (first | (refine AD1.noV rfl rfl rfl rfl rfl (fun _ _ h => h) ?_) | (refine AD1.noU rfl rfl ⟨_, rfl, rfl⟩ rfl (fun _ _ h => h) ?_) | (refine AD1.rdy rfl rfl rfl rfl (fun _ _ h => h) (rd_load_ref Try.underlying3 rfl rfl rfl rfl rfl rfl) ?_) | (refine AD1.rdy rfl rfl rfl rfl (fun _ _ h => h) (rd_load_ad Try.underlying3 rfl rfl rfl rfl) ?_) | (refine AD1.rdy rfl rfl rfl rfl (fun _ _ h => h) (rd_load_map Try.underlying3 rfl rfl rfl rfl rfl rfl (by assumption)) ?_) | (refine AD1.rdy rfl rfl rfl rfl (fun _ _ h => h) (rd_load_flat Try.underlying3 rfl rfl rfl rfl rfl rfl (fun _ => rfl) (by assumption) rfl) ?_))
      (first | (refine AD1.noV rfl rfl rfl rfl rfl (fun _ _ h => h) ?_) | (refine AD1.noU rfl rfl ⟨_, rfl, rfl⟩ rfl (fun _ _ h => h) ?_) | (refine AD1.rpy rfl rfl rfl rfl (fun _ _ h => h) (rp_move rfl rfl) ?_))
      (first | (refine AD1.noV rfl rfl rfl rfl rfl (fun _ _ h => h) ?_) | (refine AD1.noU rfl rfl ⟨_, rfl, rfl⟩ rfl (fun _ _ h => h) ?_) | (refine AD1.rpy rfl rfl rfl rfl (fun _ _ h => h) (rp_move rfl rfl) ?_))
      (first | (refine AD1.noV rfl rfl rfl rfl rfl (fun _ _ h => h) ?_) | (refine AD1.noU rfl rfl ⟨_, rfl, rfl⟩ rfl (fun _ _ h => h) ?_) | (refine AD1.rpy rfl rfl rfl rfl (fun _ _ h => h) (rp_sub rfl rfl rfl (by first | omega | (dsimp only; omega))) ?_))
      (first | (refine AD1.noV rfl rfl rfl rfl rfl (fun _ _ h => h) ?_) | (refine AD1.noU rfl rfl ⟨_, rfl, rfl⟩ rfl (fun _ _ h => h) ?_) | (refine AD1.rpy rfl rfl rfl rfl (fun _ _ h => h) (rp_index_own (k := i - 1) Try.underlying50 inf56 rfl rfl rfl (by omega) (by omega)) ?_) | (refine AD1.rpy rfl rfl rfl rfl (fun _ _ h => h) (rp_index_map (k := i - 1) Try.underlying50 inf56 rfl rfl rfl (by omega) (by assumption)) ?_))
      (first | (refine AD1.noV rfl rfl rfl rfl rfl (fun _ _ h => h) ?_) | (refine AD1.noU rfl rfl ⟨_, rfl, rfl⟩ rfl (fun _ _ h => h) ?_) | (refine AD1.rpy rfl rfl rfl rfl (fun _ _ h => h) (rp_field_ref Try.underlying56 rfl rfl rfl inf3 (by decide) rfl) ?_) | (refine AD1.rpy rfl rfl rfl rfl (fun _ _ h => h) (rp_field_ad Try.underlying56 rfl rfl rfl inf3 (by decide) rfl) ?_))
      (first | (refine AD1.noV rfl rfl rfl rfl rfl (fun _ _ h => h) ?_) | (refine AD1.noU rfl rfl ⟨_, rfl, rfl⟩ rfl (fun _ _ h => h) ?_) | (refine AD1.rdy rfl rfl rfl rfl (fun _ _ h => h) (rd_load_ref Try.underlying3 rfl rfl rfl rfl rfl rfl) ?_) | (refine AD1.rdy rfl rfl rfl rfl (fun _ _ h => h) (rd_load_ad Try.underlying3 rfl rfl rfl rfl) ?_) | (refine AD1.rdy rfl rfl rfl rfl (fun _ _ h => h) (rd_load_map Try.underlying3 rfl rfl rfl rfl rfl rfl (by assumption)) ?_) | (refine AD1.rdy rfl rfl rfl rfl (fun _ _ h => h) (rd_load_flat Try.underlying3 rfl rfl rfl rfl rfl rfl (fun _ => rfl) (by assumption) rfl) ?_))
      (first | (refine AD1.noV rfl rfl rfl rfl rfl (fun _ _ h => h) ?_) | (refine AD1.noU rfl rfl ⟨_, rfl, rfl⟩ rfl (fun _ _ h => h) ?_) | (refine AD1.rpy rfl rfl rfl rfl (fun _ _ h => h) (rp_neqT rfl rfl rfl (by first | assumption | omega | (dsimp only; omega))) ?_) | (refine AD1.rpy rfl rfl rfl rfl (fun _ _ h => h) (rp_neqF rfl rfl rfl (by first | assumption | omega | (dsimp only; omega))) ?_) | (refine AD1.rpy rfl rfl rfl rfl (fun _ _ h => h) (rp_neq rfl rfl rfl) ?_))
      refine AD1.rp rfl rfl rfl (fun _ _ h => h) (rp_pick rfl rfl rfl) ?_
      refine AD1.rp rfl rfl rfl (fun _ _ h => h) (rp_move rfl rfl) ?_
      (first | (refine AD1.noV rfl rfl rfl rfl rfl (fun _ _ h => h) ?_) | (refine AD1.noU rfl rfl ⟨_, rfl, rfl⟩ rfl (fun _ _ h => h) ?_) | (refine AD1.rpy rfl rfl rfl rfl (fun _ _ h => h) (rp_move rfl rfl) ?_))
      (first | (refine AD1.noV rfl rfl rfl rfl rfl (fun _ _ h => h) ?_) | (refine AD1.noU rfl rfl ⟨_, rfl, rfl⟩ rfl (fun _ _ h => h) ?_) | (refine AD1.rpy rfl rfl rfl rfl (fun _ _ h => h) (rp_move rfl rfl) ?_))
      (first | (refine AD1.noV rfl rfl rfl rfl rfl (fun _ _ h => h) ?_) | (refine AD1.noU rfl rfl ⟨_, rfl, rfl⟩ rfl (fun _ _ h => h) ?_) | (refine AD1.rpy rfl rfl rfl rfl (fun _ _ h => h) (rp_index_map Try.underlying50 inf56 rfl rfl rfl rfl (by assumption)) ?_) | (refine AD1.rpy rfl rfl rfl rfl (fun _ _ h => h) (rp_index_own Try.underlying50 inf56 rfl rfl rfl rfl (by first | assumption | omega)) ?_) | (refine AD1.rpy rfl rfl rfl rfl (fun _ _ h => h) (rd_index_sl Try.underlying50 inf56 rfl rfl rfl rfl (by assumption)) ?_) | (refine AD1.rpy rfl rfl rfl rfl (fun _ _ h => h) (rp_index_own Try.underlying50 inf56 rfl rfl rfl (by omega) (by omega)) ?_))
      (first | (refine AD1.noV rfl rfl rfl rfl rfl (fun _ _ h => h) ?_) | (refine AD1.noU rfl rfl ⟨_, rfl, rfl⟩ rfl (fun _ _ h => h) ?_) | (refine AD1.rpy rfl rfl rfl rfl (fun _ _ h => h) (rp_field_ref Try.underlying56 rfl rfl rfl inf3 (by decide) rfl) ?_) | (refine AD1.rpy rfl rfl rfl rfl (fun _ _ h => h) (rp_field_ad Try.underlying56 rfl rfl rfl inf3 (by decide) rfl) ?_))
      (first | (refine AD1.noV rfl rfl rfl rfl rfl (fun _ _ h => h) ?_) | (refine AD1.noU rfl rfl ⟨_, rfl, rfl⟩ rfl (fun _ _ h => h) ?_) | (refine AD1.rdy rfl rfl rfl rfl (fun _ _ h => h) (rd_load_ref Try.underlying3 rfl rfl rfl rfl rfl rfl) ?_) | (refine AD1.rdy rfl rfl rfl rfl (fun _ _ h => h) (rd_load_ad Try.underlying3 rfl rfl rfl rfl) ?_) | (refine AD1.rdy rfl rfl rfl rfl (fun _ _ h => h) (rd_load_map Try.underlying3 rfl rfl rfl rfl rfl rfl (by assumption)) ?_) | (refine AD1.rdy rfl rfl rfl rfl (fun _ _ h => h) (rd_load_flat Try.underlying3 rfl rfl rfl rfl rfl rfl (fun _ => rfl) (by assumption) rfl) ?_))
      (first | (refine AD1.noV rfl rfl rfl rfl rfl (fun _ _ h => h) ?_) | (refine AD1.noU rfl rfl ⟨_, rfl, rfl⟩ rfl (fun _ _ h => h) ?_) | (refine AD1.rpy rfl rfl rfl rfl (fun _ _ h => h) (rp_move rfl rfl) ?_))
      (first | (refine AD1.noV rfl rfl rfl rfl rfl (fun _ _ h => h) ?_) | (refine AD1.noU rfl rfl ⟨_, rfl, rfl⟩ rfl (fun _ _ h => h) ?_) | (refine AD1.rpy rfl rfl rfl rfl (fun _ _ h => h) (rp_move rfl rfl) ?_))
      (first | (refine AD1.noV rfl rfl rfl rfl rfl (fun _ _ h => h) ?_) | (refine AD1.noU rfl rfl ⟨_, rfl, rfl⟩ rfl (fun _ _ h => h) ?_) | (refine AD1.rpy rfl rfl rfl rfl (fun _ _ h => h) (rp_sub rfl rfl rfl (by first | omega | (dsimp only; omega))) ?_))
      (first | (refine AD1.noV rfl rfl rfl rfl rfl (fun _ _ h => h) ?_) | (refine AD1.noU rfl rfl ⟨_, rfl, rfl⟩ rfl (fun _ _ h => h) ?_) | (refine AD1.rpy rfl rfl rfl rfl (fun _ _ h => h) (rp_index_own (k := i - 1) Try.underlying50 inf56 rfl rfl rfl (by omega) (by omega)) ?_) | (refine AD1.rpy rfl rfl rfl rfl (fun _ _ h => h) (rp_index_map (k := i - 1) Try.underlying50 inf56 rfl rfl rfl (by omega) (by assumption)) ?_))
      (first | (refine AD1.noV rfl rfl rfl rfl rfl (fun _ _ h => h) ?_) | (refine AD1.noU rfl rfl ⟨_, rfl, rfl⟩ rfl (fun _ _ h => h) ?_) | (refine AD1.rpy rfl rfl rfl rfl (fun _ _ h => h) (rp_field_ref Try.underlying56 rfl rfl rfl inf3 (by decide) rfl) ?_) | (refine AD1.rpy rfl rfl rfl rfl (fun _ _ h => h) (rp_field_ad Try.underlying56 rfl rfl rfl inf3 (by decide) rfl) ?_))
      (first | (refine AD1.noV rfl rfl rfl rfl rfl (fun _ _ h => h) ?_) | (refine AD1.noU rfl rfl ⟨_, rfl, rfl⟩ rfl (fun _ _ h => h) ?_) | (refine AD1.rdy rfl rfl rfl rfl (fun _ _ h => h) (rd_load_ref Try.underlying3 rfl rfl rfl rfl rfl rfl) ?_) | (refine AD1.rdy rfl rfl rfl rfl (fun _ _ h => h) (rd_load_ad Try.underlying3 rfl rfl rfl rfl) ?_) | (refine AD1.rdy rfl rfl rfl rfl (fun _ _ h => h) (rd_load_map Try.underlying3 rfl rfl rfl rfl rfl rfl (by assumption)) ?_) | (refine AD1.rdy rfl rfl rfl rfl (fun _ _ h => h) (rd_load_flat Try.underlying3 rfl rfl rfl rfl rfl rfl (fun _ => rfl) (by assumption) rfl) ?_))
      (first | (refine AD1.noV rfl rfl rfl rfl rfl (fun _ _ h => h) ?_) | (refine AD1.noU rfl rfl ⟨_, rfl, rfl⟩ rfl (fun _ _ h => h) ?_) | (refine AD1.rpy rfl rfl rfl rfl (fun _ _ h => h) (rp_neqT rfl rfl rfl (by first | assumption | omega | (dsimp only; omega))) ?_) | (refine AD1.rpy rfl rfl rfl rfl (fun _ _ h => h) (rp_neqF rfl rfl rfl (by first | assumption | omega | (dsimp only; omega))) ?_) | (refine AD1.rpy rfl rfl rfl rfl (fun _ _ h => h) (rp_neq rfl rfl rfl) ?_))
      refine AD1.rp rfl rfl rfl (fun _ _ h => h) (rp_pick rfl rfl rfl) ?_
      refine AD1.nil ?_
      try simp only [thenS, S.put]
      refine AW.condT rfl ?_
      refine AW.region ?_
      refine AL.rp rfl rfl (rp_move rfl rfl) ?_
      refine AL.rp rfl rfl (rp_move rfl rfl) ?_
      refine AL.rp rfl rfl (rp_move rfl rfl) ?_
      (first | (refine AL.rp rfl rfl (rp_index_map Try.underlying50 inf56 rfl rfl rfl rfl (by assumption)) ?_) | (refine AL.rp rfl rfl (rp_index_own Try.underlying50 inf56 rfl rfl rfl rfl (by first | assumption | omega)) ?_) | (refine AL.rp rfl rfl (rd_index_sl Try.underlying50 inf56 rfl rfl rfl rfl (by assumption)) ?_) | (refine AL.rp rfl rfl (rp_index_own Try.underlying50 inf56 rfl rfl rfl (by omega) (by omega)) ?_))
      (first | (refine AL.rd rfl rfl (rd_loads_ref Try.underlying56 rfl inf56 rfl rfl rfl rfl rfl rfl) ?_) | (refine AL.rd rfl rfl (rd_loads_ad Try.underlying56 rfl inf56 rfl rfl rfl rfl) ?_))
      refine AL.sm rfl (sm_slice (vs := [(0, _)]) (zs := [.d (.p (.int .i64 0)), .d (.p (.int .i64 0)), .d (.p (.int .i64 0)), .d (.p (.int .i64 0))]) 60 Try.underlying50 inf56 rfl rfl (by decide) (by decide) (by decide) rfl rfl rfl rfl (by first | rfl | simp [S.clean, S.put, S.newObj, S.forget, V.has, V.hasL, junkIf, setL, V.cs, hasL_i, hasL_b, hasL_s, hasL_n, hasL_rep, hasL_flat, hasL_append, -List.map_set]) (by first | rfl | simp [S.clean, S.put, S.newObj, S.forget, V.has, V.hasL, junkIf, setL, V.cs, hasL_i, hasL_b, hasL_s, hasL_n, hasL_rep, hasL_flat, hasL_append, -List.map_set]) rfl) ?_
      refine AL.st rfl (st_appendF Try.underlying50 inf56 rfl (by decide) rfl rfl rfl rfl rfl rfl (by first | assumption | rfl | (simp; done)) (by first | rfl | simp [S.clean, S.put, S.newObj, S.forget, V.has, V.hasL, junkIf, setL, V.cs, hasL_i, hasL_b, hasL_s, hasL_n, hasL_rep, hasL_flat, hasL_append, -List.map_set]) rfl rfl rfl rfl rfl (by first | rfl | simp [S.clean, S.put, S.newObj, S.forget, V.has, V.hasL, junkIf, setL, V.cs, hasL_i, hasL_b, hasL_s, hasL_n, hasL_rep, hasL_flat, hasL_append, -List.map_set]) rfl (by decide) (by omega) (by omega) rfl) ?_
      simp only [S.forget, S.put, S.newObj, junkIf, V.has, V.hasL, hasL_i, hasL_b, hasL_s, hasL_d, hasL_n, hasL_rep, hasL_flat, hasL_append, List.map_cons, List.map_nil, List.filter_cons, List.filter_nil, Nat.reduceBNe, Nat.reduceBEq, eq_self, bne_self_eq_false,  Bool.not_true, Bool.not_false, Bool.or_false, Bool.or_true, Bool.false_or, Bool.true_or, if_true, if_false, Bool.false_eq_true, ite_true, ite_false, ↓reduceIte, beq_self_eq_true, Nat.reduceEqDiff]
      refine AL.rp rfl rfl (rp_assign rfl rfl) ?_
      refine AL.nil ?_
      try simp only [thenS, S.put, S.newObj, setL, V.cs, List.length_cons, List.length_nil, List.take_succ_cons, List.take_zero, List.drop_succ_cons, List.drop_zero, List.drop_nil, List.nil_append, List.cons_append, List.append_nil, Nat.zero_add, Nat.reduceAdd, List.map_cons, List.map_nil, List.set_cons_zero, List.set_cons_succ]
      refine AW.region ?_
      refine AL.rp rfl rfl (rp_move rfl rfl) ?_
      refine AL.rp rfl rfl (rp_add rfl rfl rfl (by first | omega | (dsimp only; omega))) ?_
      refine AL.rp rfl rfl (rp_assign rfl rfl) ?_
      refine AL.nil ?_
      try simp only [thenS, S.put]
      refine ⟨_, ?_, ⟨i + 1, A ++ [⟨xi, xo, xw, xt⟩], ak + 1, by omega, hsn.symm, by simp [hak], rfl⟩, ?_⟩
      ·simp only [List.flatMap_append, List.flatMap_cons, List.flatMap_nil, List.append_nil]
       exact (Less.of rfl (by repeat (first | exact trivial | refine ⟨⟨_, rfl, Wk.refl _⟩, ?_⟩ | refine ⟨⟨_, rfl, Wk.nil _ _⟩, ?_⟩ | refine ⟨⟨_, rfl, Wk.junk _⟩, ?_⟩)) (by repeat (first | exact trivial | refine ⟨rfl, ?_⟩)) rfl)
      ·simp [S.nat, fnd]; omega
    ·rw [if_neg (by simp [alk, e2])] at hsn
     refine AW.seq ?_
     refine AW.seq ?_
     refine AW.region ?_
     refine AL.rp rfl rfl (rp_move rfl rfl) ?_
     refine AL.rp rfl rfl (rp_move rfl rfl) ?_
     (first | (refine AL.rp rfl rfl (rp_len_map Try.underlying50 rfl rfl (by assumption)) ?_) | (refine AL.rp rfl rfl (rp_len_own Try.underlying50 rfl rfl) ?_) | (refine AL.rp rfl rfl (rp_len_sl Try.underlying50 rfl rfl) ?_) | (refine AL.rp rfl rfl (rp_len_nil Try.underlying50 rfl rfl) ?_) | (refine AL.rp rfl rfl (rp_len_str Try.underlying50 rfl rfl) ?_))
     (first | (refine AL.rp rfl rfl (rp_lssT rfl rfl rfl (by first | assumption | omega | (dsimp only; omega))) ?_) | (refine AL.rp rfl rfl (rp_lssF rfl rfl rfl (by first | assumption | omega | (dsimp only; omega))) ?_) | (refine AL.rp rfl rfl (rp_lss rfl rfl rfl) ?_))
     refine AL.nil ?_
     try simp only [thenS, S.put]
     refine AW.condT rfl ?_
     refine AW.skip ?_
     try simp only [thenS]
     refine AW.seq ?_
     refine AW.block ?_
     refine AW.seq ?_
     refine AW.draw [(0, true), (1, true), (2, true), (3, true), (4, true), (5, true), (6, true), (7, true), (8, true), (9, true), (10, true), (11, true), (12, true), (13, true), (14, true), (15, true), (16, true), (17, true), (18, true), (19, true), (20, true), (21, true), (22, true), (23, true), (24, true), (25, true), (26, true), (27, true), (28, true), (29, true), (30, true), (31, true), (32, true), (33, true), (34, true), (35, true), (36, true), (37, true), (38, true), (39, true), (40, true), (41, true), (42, true), (43, true)] (fun i => !([] : List Nat).contains i) 44 (by kernel_rfl) (by kernel_rfl) rfl (by kernel_rfl) ?_
     refine AD1.rp rfl rfl rfl (fun _ _ h => h) (rp_move rfl rfl) ?_
     (first | (refine AD1.rp rfl rfl rfl (fun _ _ h => h) (rp_eqlT rfl rfl rfl (by first | assumption | omega | (dsimp only; omega))) ?_) | (refine AD1.rp rfl rfl rfl (fun _ _ h => h) (rp_eqlF rfl rfl rfl (by first | assumption | omega | (dsimp only; omega))) ?_) | (refine AD1.rp rfl rfl rfl (fun _ _ h => h) (rp_eql rfl rfl rfl) ?_))
     refine AD1.rp rfl rfl rfl (fun _ _ h => h) (rp_move rfl rfl) ?_
     (first | (refine AD1.noV rfl rfl rfl rfl rfl (fun _ _ h => h) ?_) | (refine AD1.noU rfl rfl ⟨_, rfl, rfl⟩ rfl (fun _ _ h => h) ?_) | (refine AD1.rpy rfl rfl rfl rfl (fun _ _ h => h) (rp_move rfl rfl) ?_))
     (first | (refine AD1.noV rfl rfl rfl rfl rfl (fun _ _ h => h) ?_) | (refine AD1.noU rfl rfl ⟨_, rfl, rfl⟩ rfl (fun _ _ h => h) ?_) | (refine AD1.rpy rfl rfl rfl rfl (fun _ _ h => h) (rp_move rfl rfl) ?_))
     (first | (refine AD1.noV rfl rfl rfl rfl rfl (fun _ _ h => h) ?_) | (refine AD1.noU rfl rfl ⟨_, rfl, rfl⟩ rfl (fun _ _ h => h) ?_) | (refine AD1.rpy rfl rfl rfl rfl (fun _ _ h => h) (rp_index_map Try.underlying50 inf56 rfl rfl rfl rfl (by assumption)) ?_) | (refine AD1.rpy rfl rfl rfl rfl (fun _ _ h => h) (rp_index_own Try.underlying50 inf56 rfl rfl rfl rfl (by first | assumption | omega)) ?_) | (refine AD1.rpy rfl rfl rfl rfl (fun _ _ h => h) (rd_index_sl Try.underlying50 inf56 rfl rfl rfl rfl (by assumption)) ?_) | (refine AD1.rpy rfl rfl rfl rfl (fun _ _ h => h) (rp_index_own Try.underlying50 inf56 rfl rfl rfl (by omega) (by omega)) ?_))
     (first | (refine AD1.noV rfl rfl rfl rfl rfl (fun _ _ h => h) ?_) | (refine AD1.noU rfl rfl ⟨_, rfl, rfl⟩ rfl (fun _ _ h => h) ?_) | (refine AD1.rpy rfl rfl rfl rfl (fun _ _ h => h) (rp_field_ref Try.underlying56 rfl rfl rfl inf3 (by decide) rfl) ?_) | (refine AD1.rpy rfl rfl rfl rfl (fun _ _ h => h) (rp_field_ad Try.underlying56 rfl rfl rfl inf3 (by decide) rfl) ?_))
     (first | (refine AD1.noV rfl rfl rfl rfl rfl (fun _ _ h => h) ?_) | (refine AD1.noU rfl rfl ⟨_, rfl, rfl⟩ rfl (fun _ _ h => h) ?_) | (refine AD1.rdy rfl rfl rfl rfl (fun _ _ h => h) (rd_load_ref Try.underlying3 rfl rfl rfl rfl rfl rfl) ?_) | (refine AD1.rdy rfl rfl rfl rfl (fun _ _ h => h) (rd_load_ad Try.underlying3 rfl rfl rfl rfl) ?_) | (refine AD1.rdy rfl rfl rfl rfl (fun _ _ h => h) (rd_load_map Try.underlying3 rfl rfl rfl rfl rfl rfl (by assumption)) ?_) | (refine AD1.rdy rfl rfl rfl rfl (fun _ _ h => h) (rd_load_flat Try.underlying3 rfl rfl rfl rfl rfl rfl (fun _ => rfl) (by assumption) rfl) ?_))
     (first | (refine AD1.noV rfl rfl rfl rfl rfl (fun _ _ h => h) ?_) | (refine AD1.noU rfl rfl ⟨_, rfl, rfl⟩ rfl (fun _ _ h => h) ?_) | (refine AD1.rpy rfl rfl rfl rfl (fun _ _ h => h) (rp_move rfl rfl) ?_))
     (first | (refine AD1.noV rfl rfl rfl rfl rfl (fun _ _ h => h) ?_) | (refine AD1.noU rfl rfl ⟨_, rfl, rfl⟩ rfl (fun _ _ h => h) ?_) | (refine AD1.rpy rfl rfl rfl rfl (fun _ _ h => h) (rp_move rfl rfl) ?_))
     (first | (refine AD1.noV rfl rfl rfl rfl rfl (fun _ _ h => h) ?_) | (refine AD1.noU rfl rfl ⟨_, rfl, rfl⟩ rfl (fun _ _ h => h) ?_) | (refine AD1.rpy rfl rfl rfl rfl (fun _ _ h => h) (rp_sub rfl rfl rfl (by first | omega | (dsimp only; omega))) ?_))
     (first | (refine AD1.noV rfl rfl rfl rfl rfl (fun _ _ h => h) ?_) | (refine AD1.noU rfl rfl ⟨_, rfl, rfl⟩ rfl (fun _ _ h => h) ?_) | (refine AD1.rpy rfl rfl rfl rfl (fun _ _ h => h) (rp_index_own (k := i - 1) Try.underlying50 inf56 rfl rfl rfl (by omega) (by omega)) ?_) | (refine AD1.rpy rfl rfl rfl rfl (fun _ _ h => h) (rp_index_map (k := i - 1) Try.underlying50 inf56 rfl rfl rfl (by omega) (by assumption)) ?_))
     (first | (refine AD1.noV rfl rfl rfl rfl rfl (fun _ _ h => h) ?_) | (refine AD1.noU rfl rfl ⟨_, rfl, rfl⟩ rfl (fun _ _ h => h) ?_) | (refine AD1.rpy rfl rfl rfl rfl (fun _ _ h => h) (rp_field_ref Try.underlying56 rfl rfl rfl inf3 (by decide) rfl) ?_) | (refine AD1.rpy rfl rfl rfl rfl (fun _ _ h => h) (rp_field_ad Try.underlying56 rfl rfl rfl inf3 (by decide) rfl) ?_))
     (first | (refine AD1.noV rfl rfl rfl rfl rfl (fun _ _ h => h) ?_) | (refine AD1.noU rfl rfl ⟨_, rfl, rfl⟩ rfl (fun _ _ h => h) ?_) | (refine AD1.rdy rfl rfl rfl rfl (fun _ _ h => h) (rd_load_ref Try.underlying3 rfl rfl rfl rfl rfl rfl) ?_) | (refine AD1.rdy rfl rfl rfl rfl (fun _ _ h => h) (rd_load_ad Try.underlying3 rfl rfl rfl rfl) ?_) | (refine AD1.rdy rfl rfl rfl rfl (fun _ _ h => h) (rd_load_map Try.underlying3 rfl rfl rfl rfl rfl rfl (by assumption)) ?_) | (refine AD1.rdy rfl rfl rfl rfl (fun _ _ h => h) (rd_load_flat Try.underlying3 rfl rfl rfl rfl rfl rfl (fun _ => rfl) (by assumption) rfl) ?_))
     (first | (refine AD1.noV rfl rfl rfl rfl rfl (fun _ _ h => h) ?_) | (refine AD1.noU rfl rfl ⟨_, rfl, rfl⟩ rfl (fun _ _ h => h) ?_) | (refine AD1.rpy rfl rfl rfl rfl (fun _ _ h => h) (rp_neqT rfl rfl rfl (by first | assumption | omega | (dsimp only; omega))) ?_) | (refine AD1.rpy rfl rfl rfl rfl (fun _ _ h => h) (rp_neqF rfl rfl rfl (by first | assumption | omega | (dsimp only; omega))) ?_) | (refine AD1.rpy rfl rfl rfl rfl (fun _ _ h => h) (rp_neq rfl rfl rfl) ?_))
     refine AD1.rp rfl rfl rfl (fun _ _ h => h) (rp_pick rfl rfl rfl) ?_
     refine AD1.rp rfl rfl rfl (fun _ _ h => h) (rp_move rfl rfl) ?_
     (first | (refine AD1.noV rfl rfl rfl rfl rfl (fun _ _ h => h) ?_) | (refine AD1.noU rfl rfl ⟨_, rfl, rfl⟩ rfl (fun _ _ h => h) ?_) | (refine AD1.rpy rfl rfl rfl rfl (fun _ _ h => h) (rp_move rfl rfl) ?_))
     (first | (refine AD1.noV rfl rfl rfl rfl rfl (fun _ _ h => h) ?_) | (refine AD1.noU rfl rfl ⟨_, rfl, rfl⟩ rfl (fun _ _ h => h) ?_) | (refine AD1.rpy rfl rfl rfl rfl (fun _ _ h => h) (rp_move rfl rfl) ?_))
     (first | (refine AD1.noV rfl rfl rfl rfl rfl (fun _ _ h => h) ?_) | (refine AD1.noU rfl rfl ⟨_, rfl, rfl⟩ rfl (fun _ _ h => h) ?_) | (refine AD1.rpy rfl rfl rfl rfl (fun _ _ h => h) (rp_index_map Try.underlying50 inf56 rfl rfl rfl rfl (by assumption)) ?_) | (refine AD1.rpy rfl rfl rfl rfl (fun _ _ h => h) (rp_index_own Try.underlying50 inf56 rfl rfl rfl rfl (by first | assumption | omega)) ?_) | (refine AD1.rpy rfl rfl rfl rfl (fun _ _ h => h) (rd_index_sl Try.underlying50 inf56 rfl rfl rfl rfl (by assumption)) ?_) | (refine AD1.rpy rfl rfl rfl rfl (fun _ _ h => h) (rp_index_own Try.underlying50 inf56 rfl rfl rfl (by omega) (by omega)) ?_))
     (first | (refine AD1.noV rfl rfl rfl rfl rfl (fun _ _ h => h) ?_) | (refine AD1.noU rfl rfl ⟨_, rfl, rfl⟩ rfl (fun _ _ h => h) ?_) | (refine AD1.rpy rfl rfl rfl rfl (fun _ _ h => h) (rp_field_ref Try.underlying56 rfl rfl rfl inf3 (by decide) rfl) ?_) | (refine AD1.rpy rfl rfl rfl rfl (fun _ _ h => h) (rp_field_ad Try.underlying56 rfl rfl rfl inf3 (by decide) rfl) ?_))
     (first | (refine AD1.noV rfl rfl rfl rfl rfl (fun _ _ h => h) ?_) | (refine AD1.noU rfl rfl ⟨_, rfl, rfl⟩ rfl (fun _ _ h => h) ?_) | (refine AD1.rdy rfl rfl rfl rfl (fun _ _ h => h) (rd_load_ref Try.underlying3 rfl rfl rfl rfl rfl rfl) ?_) | (refine AD1.rdy rfl rfl rfl rfl (fun _ _ h => h) (rd_load_ad Try.underlying3 rfl rfl rfl rfl) ?_) | (refine AD1.rdy rfl rfl rfl rfl (fun _ _ h => h) (rd_load_map Try.underlying3 rfl rfl rfl rfl rfl rfl (by assumption)) ?_) | (refine AD1.rdy rfl rfl rfl rfl (fun _ _ h => h) (rd_load_flat Try.underlying3 rfl rfl rfl rfl rfl rfl (fun _ => rfl) (by assumption) rfl) ?_))
     (first | (refine AD1.noV rfl rfl rfl rfl rfl (fun _ _ h => h) ?_) | (refine AD1.noU rfl rfl ⟨_, rfl, rfl⟩ rfl (fun _ _ h => h) ?_) | (refine AD1.rpy rfl rfl rfl rfl (fun _ _ h => h) (rp_move rfl rfl) ?_))
     (first | (refine AD1.noV rfl rfl rfl rfl rfl (fun _ _ h => h) ?_) | (refine AD1.noU rfl rfl ⟨_, rfl, rfl⟩ rfl (fun _ _ h => h) ?_) | (refine AD1.rpy rfl rfl rfl rfl (fun _ _ h => h) (rp_move rfl rfl) ?_))
     (first | (refine AD1.noV rfl rfl rfl rfl rfl (fun _ _ h => h) ?_) | (refine AD1.noU rfl rfl ⟨_, rfl, rfl⟩ rfl (fun _ _ h => h) ?_) | (refine AD1.rpy rfl rfl rfl rfl (fun _ _ h => h) (rp_sub rfl rfl rfl (by first | omega | (dsimp only; omega))) ?_))
     (first | (refine AD1.noV rfl rfl rfl rfl rfl (fun _ _ h => h) ?_) | (refine AD1.noU rfl rfl ⟨_, rfl, rfl⟩ rfl (fun _ _ h => h) ?_) | (refine AD1.rpy rfl rfl rfl rfl (fun _ _ h => h) (rp_index_own (k := i - 1) Try.underlying50 inf56 rfl rfl rfl (by omega) (by omega)) ?_) | (refine AD1.rpy rfl rfl rfl rfl (fun _ _ h => h) (rp_index_map (k := i - 1) Try.underlying50 inf56 rfl rfl rfl (by omega) (by assumption)) ?_))
     (first | (refine AD1.noV rfl rfl rfl rfl rfl (fun _ _ h => h) ?_) | (refine AD1.noU rfl rfl ⟨_, rfl, rfl⟩ rfl (fun _ _ h => h) ?_) | (refine AD1.rpy rfl rfl rfl rfl (fun _ _ h => h) (rp_field_ref Try.underlying56 rfl rfl rfl inf3 (by decide) rfl) ?_) | (refine AD1.rpy rfl rfl rfl rfl (fun _ _ h => h) (rp_field_ad Try.underlying56 rfl rfl rfl inf3 (by decide) rfl) ?_))
     (first | (refine AD1.noV rfl rfl rfl rfl rfl (fun _ _ h => h) ?_) | (refine AD1.noU rfl rfl ⟨_, rfl, rfl⟩ rfl (fun _ _ h => h) ?_) | (refine AD1.rdy rfl rfl rfl rfl (fun _ _ h => h) (rd_load_ref Try.underlying3 rfl rfl rfl rfl rfl rfl) ?_) | (refine AD1.rdy rfl rfl rfl rfl (fun _ _ h => h) (rd_load_ad Try.underlying3 rfl rfl rfl rfl) ?_) | (refine AD1.rdy rfl rfl rfl rfl (fun _ _ h => h) (rd_load_map Try.underlying3 rfl rfl rfl rfl rfl rfl (by assumption)) ?_) | (refine AD1.rdy rfl rfl rfl rfl (fun _ _ h => h) (rd_load_flat Try.underlying3 rfl rfl rfl rfl rfl rfl (fun _ => rfl) (by assumption) rfl) ?_))
     (first | (refine AD1.noV rfl rfl rfl rfl rfl (fun _ _ h => h) ?_) | (refine AD1.noU rfl rfl ⟨_, rfl, rfl⟩ rfl (fun _ _ h => h) ?_) | (refine AD1.rpy rfl rfl rfl rfl (fun _ _ h => h) (rp_neqT rfl rfl rfl (by first | assumption | omega | (dsimp only; omega))) ?_) | (refine AD1.rpy rfl rfl rfl rfl (fun _ _ h => h) (rp_neqF rfl rfl rfl (by first | assumption | omega | (dsimp only; omega))) ?_) | (refine AD1.rpy rfl rfl rfl rfl (fun _ _ h => h) (rp_neq rfl rfl rfl) ?_))
     refine AD1.rp rfl rfl rfl (fun _ _ h => h) (rp_pick rfl rfl rfl) ?_
     refine AD1.rp rfl rfl rfl (fun _ _ h => h) (rp_move rfl rfl) ?_
     (first | (refine AD1.noV rfl rfl rfl rfl rfl (fun _ _ h => h) ?_) | (refine AD1.noU rfl rfl ⟨_, rfl, rfl⟩ rfl (fun _ _ h => h) ?_) | (refine AD1.rpy rfl rfl rfl rfl (fun _ _ h => h) (rp_move rfl rfl) ?_))
     (first | (refine AD1.noV rfl rfl rfl rfl rfl (fun _ _ h => h) ?_) | (refine AD1.noU rfl rfl ⟨_, rfl, rfl⟩ rfl (fun _ _ h => h) ?_) | (refine AD1.rpy rfl rfl rfl rfl (fun _ _ h => h) (rp_move rfl rfl) ?_))
     (first | (refine AD1.noV rfl rfl rfl rfl rfl (fun _ _ h => h) ?_) | (refine AD1.noU rfl rfl ⟨_, rfl, rfl⟩ rfl (fun _ _ h => h) ?_) | (refine AD1.rpy rfl rfl rfl rfl (fun _ _ h => h) (rp_index_map Try.underlying50 inf56 rfl rfl rfl rfl (by assumption)) ?_) | (refine AD1.rpy rfl rfl rfl rfl (fun _ _ h => h) (rp_index_own Try.underlying50 inf56 rfl rfl rfl rfl (by first | assumption | omega)) ?_) | (refine AD1.rpy rfl rfl rfl rfl (fun _ _ h => h) (rd_index_sl Try.underlying50 inf56 rfl rfl rfl rfl (by assumption)) ?_) | (refine AD1.rpy rfl rfl rfl rfl (fun _ _ h => h) (rp_index_own Try.underlying50 inf56 rfl rfl rfl (by omega) (by omega)) ?_))
     (first | (refine AD1.noV rfl rfl rfl rfl rfl (fun _ _ h => h) ?_) | (refine AD1.noU rfl rfl ⟨_, rfl, rfl⟩ rfl (fun _ _ h => h) ?_) | (refine AD1.rpy rfl rfl rfl rfl (fun _ _ h => h) (rp_field_ref Try.underlying56 rfl rfl rfl inf3 (by decide) rfl) ?_) | (refine AD1.rpy rfl rfl rfl rfl (fun _ _ h => h) (rp_field_ad Try.underlying56 rfl rfl rfl inf3 (by decide) rfl) ?_))
     (first | (refine AD1.noV rfl rfl rfl rfl rfl (fun _ _ h => h) ?_) | (refine AD1.noU rfl rfl ⟨_, rfl, rfl⟩ rfl (fun _ _ h => h) ?_) | (refine AD1.rdy rfl rfl rfl rfl (fun _ _ h => h) (rd_load_ref Try.underlying3 rfl rfl rfl rfl rfl rfl) ?_) | (refine AD1.rdy rfl rfl rfl rfl (fun _ _ h => h) (rd_load_ad Try.underlying3 rfl rfl rfl rfl) ?_) | (refine AD1.rdy rfl rfl rfl rfl (fun _ _ h => h) (rd_load_map Try.underlying3 rfl rfl rfl rfl rfl rfl (by assumption)) ?_) | (refine AD1.rdy rfl rfl rfl rfl (fun _ _ h => h) (rd_load_flat Try.underlying3 rfl rfl rfl rfl rfl rfl (fun _ => rfl) (by assumption) rfl) ?_))
     (first | (refine AD1.noV rfl rfl rfl rfl rfl (fun _ _ h => h) ?_) | (refine AD1.noU rfl rfl ⟨_, rfl, rfl⟩ rfl (fun _ _ h => h) ?_) | (refine AD1.rpy rfl rfl rfl rfl (fun _ _ h => h) (rp_move rfl rfl) ?_))
     (first | (refine AD1.noV rfl rfl rfl rfl rfl (fun _ _ h => h) ?_) | (refine AD1.noU rfl rfl ⟨_, rfl, rfl⟩ rfl (fun _ _ h => h) ?_) | (refine AD1.rpy rfl rfl rfl rfl (fun _ _ h => h) (rp_move rfl rfl) ?_))
     (first | (refine AD1.noV rfl rfl rfl rfl rfl (fun _ _ h => h) ?_) | (refine AD1.noU rfl rfl ⟨_, rfl, rfl⟩ rfl (fun _ _ h => h) ?_) | (refine AD1.rpy rfl rfl rfl rfl (fun _ _ h => h) (rp_sub rfl rfl rfl (by first | omega | (dsimp only; omega))) ?_))
     (first | (refine AD1.noV rfl rfl rfl rfl rfl (fun _ _ h => h) ?_) | (refine AD1.noU rfl rfl ⟨_, rfl, rfl⟩ rfl (fun _ _ h => h) ?_) | (refine AD1.rpy rfl rfl rfl rfl (fun _ _ h => h) (rp_index_own (k := i - 1) Try.underlying50 inf56 rfl rfl rfl (by omega) (by omega)) ?_) | (refine AD1.rpy rfl rfl rfl rfl (fun _ _ h => h) (rp_index_map (k := i - 1) Try.underlying50 inf56 rfl rfl rfl (by omega) (by assumption)) ?_))
     (first | (refine AD1.noV rfl rfl rfl rfl rfl (fun _ _ h => h) ?_) | (refine AD1.noU rfl rfl ⟨_, rfl, rfl⟩ rfl (fun _ _ h => h) ?_) | (refine AD1.rpy rfl rfl rfl rfl (fun _ _ h => h) (rp_field_ref Try.underlying56 rfl rfl rfl inf3 (by decide) rfl) ?_) | (refine AD1.rpy rfl rfl rfl rfl (fun _ _ h => h) (rp_field_ad Try.underlying56 rfl rfl rfl inf3 (by decide) rfl) ?_))
     (first | (refine AD1.noV rfl rfl rfl rfl rfl (fun _ _ h => h) ?_) | (refine AD1.noU rfl rfl ⟨_, rfl, rfl⟩ rfl (fun _ _ h => h) ?_) | (refine AD1.rdy rfl rfl rfl rfl (fun _ _ h => h) (rd_load_ref Try.underlying3 rfl rfl rfl rfl rfl rfl) ?_) | (refine AD1.rdy rfl rfl rfl rfl (fun _ _ h => h) (rd_load_ad Try.underlying3 rfl rfl rfl rfl) ?_) | (refine AD1.rdy rfl rfl rfl rfl (fun _ _ h => h) (rd_load_map Try.underlying3 rfl rfl rfl rfl rfl rfl (by assumption)) ?_) | (refine AD1.rdy rfl rfl rfl rfl (fun _ _ h => h) (rd_load_flat Try.underlying3 rfl rfl rfl rfl rfl rfl (fun _ => rfl) (by assumption) rfl) ?_))
     (first | (refine AD1.noV rfl rfl rfl rfl rfl (fun _ _ h => h) ?_) | (refine AD1.noU rfl rfl ⟨_, rfl, rfl⟩ rfl (fun _ _ h => h) ?_) | (refine AD1.rpy rfl rfl rfl rfl (fun _ _ h => h) (rp_neqT rfl rfl rfl (by first | assumption | omega | (dsimp only; omega))) ?_) | (refine AD1.rpy rfl rfl rfl rfl (fun _ _ h => h) (rp_neqF rfl rfl rfl (by first | assumption | omega | (dsimp only; omega))) ?_) | (refine AD1.rpy rfl rfl rfl rfl (fun _ _ h => h) (rp_neq rfl rfl rfl) ?_))
     refine AD1.rp rfl rfl rfl (fun _ _ h => h) (rp_pick rfl rfl rfl) ?_
     refine AD1.nil ?_
     try simp only [thenS, S.put]
     refine AW.condT rfl ?_
     refine AW.region ?_
     refine AL.rp rfl rfl (rp_move rfl rfl) ?_
     refine AL.rp rfl rfl (rp_move rfl rfl) ?_
     refine AL.rp rfl rfl (rp_move rfl rfl) ?_
     (first | (refine AL.rp rfl rfl (rp_index_map Try.underlying50 inf56 rfl rfl rfl rfl (by assumption)) ?_) | (refine AL.rp rfl rfl (rp_index_own Try.underlying50 inf56 rfl rfl rfl rfl (by first | assumption | omega)) ?_) | (refine AL.rp rfl rfl (rd_index_sl Try.underlying50 inf56 rfl rfl rfl rfl (by assumption)) ?_) | (refine AL.rp rfl rfl (rp_index_own Try.underlying50 inf56 rfl rfl rfl (by omega) (by omega)) ?_))
     (first | (refine AL.rd rfl rfl (rd_loads_ref Try.underlying56 rfl inf56 rfl rfl rfl rfl rfl rfl) ?_) | (refine AL.rd rfl rfl (rd_loads_ad Try.underlying56 rfl inf56 rfl rfl rfl rfl) ?_))
     refine AL.sm rfl (sm_slice (vs := [(0, _)]) (zs := [.d (.p (.int .i64 0)), .d (.p (.int .i64 0)), .d (.p (.int .i64 0)), .d (.p (.int .i64 0))]) 60 Try.underlying50 inf56 rfl rfl (by decide) (by decide) (by decide) rfl rfl rfl rfl (by first | rfl | simp [S.clean, S.put, S.newObj, S.forget, V.has, V.hasL, junkIf, setL, V.cs, hasL_i, hasL_b, hasL_s, hasL_n, hasL_rep, hasL_flat, hasL_append, -List.map_set]) (by first | rfl | simp [S.clean, S.put, S.newObj, S.forget, V.has, V.hasL, junkIf, setL, V.cs, hasL_i, hasL_b, hasL_s, hasL_n, hasL_rep, hasL_flat, hasL_append, -List.map_set]) rfl) ?_
     refine AL.st rfl (st_appendF Try.underlying50 inf56 rfl (by decide) rfl rfl rfl rfl rfl rfl (by first | assumption | rfl | (simp; done)) (by first | rfl | simp [S.clean, S.put, S.newObj, S.forget, V.has, V.hasL, junkIf, setL, V.cs, hasL_i, hasL_b, hasL_s, hasL_n, hasL_rep, hasL_flat, hasL_append, -List.map_set]) rfl rfl rfl rfl rfl (by first | rfl | simp [S.clean, S.put, S.newObj, S.forget, V.has, V.hasL, junkIf, setL, V.cs, hasL_i, hasL_b, hasL_s, hasL_n, hasL_rep, hasL_flat, hasL_append, -List.map_set]) rfl (by decide) (by omega) (by omega) rfl) ?_
     simp only [S.forget, S.put, S.newObj, junkIf, V.has, V.hasL, hasL_i, hasL_b, hasL_s, hasL_d, hasL_n, hasL_rep, hasL_flat, hasL_append, List.map_cons, List.map_nil, List.filter_cons, List.filter_nil, Nat.reduceBNe, Nat.reduceBEq, eq_self, bne_self_eq_false,  Bool.not_true, Bool.not_false, Bool.or_false, Bool.or_true, Bool.false_or, Bool.true_or, if_true, if_false, Bool.false_eq_true, ite_true, ite_false, ↓reduceIte, beq_self_eq_true, Nat.reduceEqDiff]
     refine AL.rp rfl rfl (rp_assign rfl rfl) ?_
     refine AL.nil ?_
     try simp only [thenS, S.put, S.newObj, setL, V.cs, List.length_cons, List.length_nil, List.take_succ_cons, List.take_zero, List.drop_succ_cons, List.drop_zero, List.drop_nil, List.nil_append, List.cons_append, List.append_nil, Nat.zero_add, Nat.reduceAdd, List.map_cons, List.map_nil, List.set_cons_zero, List.set_cons_succ]
     refine AW.region ?_
     refine AL.rp rfl rfl (rp_move rfl rfl) ?_
     refine AL.rp rfl rfl (rp_add rfl rfl rfl (by first | omega | (dsimp only; omega))) ?_
     refine AL.rp rfl rfl (rp_assign rfl rfl) ?_
     refine AL.nil ?_
     try simp only [thenS, S.put]
     refine ⟨_, ?_, ⟨i + 1, A ++ [⟨xi, xo, xw, xt⟩], ak + 1, by omega, hsn.symm, by simp [hak], rfl⟩, ?_⟩
     ·simp only [List.flatMap_append, List.flatMap_cons, List.flatMap_nil, List.append_nil]
      exact (Less.of rfl (by repeat (first | exact trivial | refine ⟨⟨_, rfl, Wk.refl _⟩, ?_⟩ | refine ⟨⟨_, rfl, Wk.nil _ _⟩, ?_⟩ | refine ⟨⟨_, rfl, Wk.junk _⟩, ?_⟩)) (by repeat (first | exact trivial | refine ⟨rfl, ?_⟩)) rfl)
     ·simp [S.nat, fnd]; omega
   ·rw [if_neg (by simp [alk, e1])] at hsn
    refine AW.seq ?_
    refine AW.seq ?_
    refine AW.region ?_
    refine AL.rp rfl rfl (rp_move rfl rfl) ?_
    refine AL.rp rfl rfl (rp_move rfl rfl) ?_
    (first | (refine AL.rp rfl rfl (rp_len_map Try.underlying50 rfl rfl (by assumption)) ?_) | (refine AL.rp rfl rfl (rp_len_own Try.underlying50 rfl rfl) ?_) | (refine AL.rp rfl rfl (rp_len_sl Try.underlying50 rfl rfl) ?_) | (refine AL.rp rfl rfl (rp_len_nil Try.underlying50 rfl rfl) ?_) | (refine AL.rp rfl rfl (rp_len_str Try.underlying50 rfl rfl) ?_))
    (first | (refine AL.rp rfl rfl (rp_lssT rfl rfl rfl (by first | assumption | omega | (dsimp only; omega))) ?_) | (refine AL.rp rfl rfl (rp_lssF rfl rfl rfl (by first | assumption | omega | (dsimp only; omega))) ?_) | (refine AL.rp rfl rfl (rp_lss rfl rfl rfl) ?_))
    refine AL.nil ?_
    try simp only [thenS, S.put]
    refine AW.condT rfl ?_
    refine AW.skip ?_
    try simp only [thenS]
    refine AW.seq ?_
    refine AW.block ?_
    refine AW.seq ?_
    refine AW.draw [(0, true), (1, true), (2, true), (3, true), (4, true), (5, true), (6, true), (7, true), (8, true), (9, true), (10, true), (11, true), (12, true), (13, true), (14, true), (15, true), (16, true), (17, true), (18, true), (19, true), (20, true), (21, true), (22, true), (23, true), (24, true), (25, true), (26, true), (27, true), (28, true), (29, true), (30, true), (31, true), (32, true), (33, true), (34, true), (35, true), (36, true), (37, true), (38, true), (39, true), (40, true), (41, true), (42, true), (43, true)] (fun i => !([] : List Nat).contains i) 44 (by kernel_rfl) (by kernel_rfl) rfl (by kernel_rfl) ?_
    refine AD1.rp rfl rfl rfl (fun _ _ h => h) (rp_move rfl rfl) ?_
    (first | (refine AD1.rp rfl rfl rfl (fun _ _ h => h) (rp_eqlT rfl rfl rfl (by first | assumption | omega | (dsimp only; omega))) ?_) | (refine AD1.rp rfl rfl rfl (fun _ _ h => h) (rp_eqlF rfl rfl rfl (by first | assumption | omega | (dsimp only; omega))) ?_) | (refine AD1.rp rfl rfl rfl (fun _ _ h => h) (rp_eql rfl rfl rfl) ?_))
    refine AD1.rp rfl rfl rfl (fun _ _ h => h) (rp_move rfl rfl) ?_
    (first | (refine AD1.noV rfl rfl rfl rfl rfl (fun _ _ h => h) ?_) | (refine AD1.noU rfl rfl ⟨_, rfl, rfl⟩ rfl (fun _ _ h => h) ?_) | (refine AD1.rpy rfl rfl rfl rfl (fun _ _ h => h) (rp_move rfl rfl) ?_))
    (first | (refine AD1.noV rfl rfl rfl rfl rfl (fun _ _ h => h) ?_) | (refine AD1.noU rfl rfl ⟨_, rfl, rfl⟩ rfl (fun _ _ h => h) ?_) | (refine AD1.rpy rfl rfl rfl rfl (fun _ _ h => h) (rp_move rfl rfl) ?_))
    (first | (refine AD1.noV rfl rfl rfl rfl rfl (fun _ _ h => h) ?_) | (refine AD1.noU rfl rfl ⟨_, rfl, rfl⟩ rfl (fun _ _ h => h) ?_) | (refine AD1.rpy rfl rfl rfl rfl (fun _ _ h => h) (rp_index_map Try.underlying50 inf56 rfl rfl rfl rfl (by assumption)) ?_) | (refine AD1.rpy rfl rfl rfl rfl (fun _ _ h => h) (rp_index_own Try.underlying50 inf56 rfl rfl rfl rfl (by first | assumption | omega)) ?_) | (refine AD1.rpy rfl rfl rfl rfl (fun _ _ h => h) (rd_index_sl Try.underlying50 inf56 rfl rfl rfl rfl (by assumption)) ?_) | (refine AD1.rpy rfl rfl rfl rfl (fun _ _ h => h) (rp_index_own Try.underlying50 inf56 rfl rfl rfl (by omega) (by omega)) ?_))
    (first | (refine AD1.noV rfl rfl rfl rfl rfl (fun _ _ h => h) ?_) | (refine AD1.noU rfl rfl ⟨_, rfl, rfl⟩ rfl (fun _ _ h => h) ?_) | (refine AD1.rpy rfl rfl rfl rfl (fun _ _ h => h) (rp_field_ref Try.underlying56 rfl rfl rfl inf3 (by decide) rfl) ?_) | (refine AD1.rpy rfl rfl rfl rfl (fun _ _ h => h) (rp_field_ad Try.underlying56 rfl rfl rfl inf3 (by decide) rfl) ?_))
    (first | (refine AD1.noV rfl rfl rfl rfl rfl (fun _ _ h => h) ?_) | (refine AD1.noU rfl rfl ⟨_, rfl, rfl⟩ rfl (fun _ _ h => h) ?_) | (refine AD1.rdy rfl rfl rfl rfl (fun _ _ h => h) (rd_load_ref Try.underlying3 rfl rfl rfl rfl rfl rfl) ?_) | (refine AD1.rdy rfl rfl rfl rfl (fun _ _ h => h) (rd_load_ad Try.underlying3 rfl rfl rfl rfl) ?_) | (refine AD1.rdy rfl rfl rfl rfl (fun _ _ h => h) (rd_load_map Try.underlying3 rfl rfl rfl rfl rfl rfl (by assumption)) ?_) | (refine AD1.rdy rfl rfl rfl rfl (fun _ _ h => h) (rd_load_flat Try.underlying3 rfl rfl rfl rfl rfl rfl (fun _ => rfl) (by assumption) rfl) ?_))
    (first | (refine AD1.noV rfl rfl rfl rfl rfl (fun _ _ h => h) ?_) | (refine AD1.noU rfl rfl ⟨_, rfl, rfl⟩ rfl (fun _ _ h => h) ?_) | (refine AD1.rpy rfl rfl rfl rfl (fun _ _ h => h) (rp_move rfl rfl) ?_))
    (first | (refine AD1.noV rfl rfl rfl rfl rfl (fun _ _ h => h) ?_) | (refine AD1.noU rfl rfl ⟨_, rfl, rfl⟩ rfl (fun _ _ h => h) ?_) | (refine AD1.rpy rfl rfl rfl rfl (fun _ _ h => h) (rp_move rfl rfl) ?_))
    (first | (refine AD1.noV rfl rfl rfl rfl rfl (fun _ _ h => h) ?_) | (refine AD1.noU rfl rfl ⟨_, rfl, rfl⟩ rfl (fun _ _ h => h) ?_) | (refine AD1.rpy rfl rfl rfl rfl (fun _ _ h => h) (rp_sub rfl rfl rfl (by first | omega | (dsimp only; omega))) ?_))
    (first | (refine AD1.noV rfl rfl rfl rfl rfl (fun _ _ h => h) ?_) | (refine AD1.noU rfl rfl ⟨_, rfl, rfl⟩ rfl (fun _ _ h => h) ?_) | (refine AD1.rpy rfl rfl rfl rfl (fun _ _ h => h) (rp_index_own (k := i - 1) Try.underlying50 inf56 rfl rfl rfl (by omega) (by omega)) ?_) | (refine AD1.rpy rfl rfl rfl rfl (fun _ _ h => h) (rp_index_map (k := i - 1) Try.underlying50 inf56 rfl rfl rfl (by omega) (by assumption)) ?_))
    (first | (refine AD1.noV rfl rfl rfl rfl rfl (fun _ _ h => h) ?_) | (refine AD1.noU rfl rfl ⟨_, rfl, rfl⟩ rfl (fun _ _ h => h) ?_) | (refine AD1.rpy rfl rfl rfl rfl (fun _ _ h => h) (rp_field_ref Try.underlying56 rfl rfl rfl inf3 (by decide) rfl) ?_) | (refine AD1.rpy rfl rfl rfl rfl (fun _ _ h => h) (rp_field_ad Try.underlying56 rfl rfl rfl inf3 (by decide) rfl) ?_))
    (first | (refine AD1.noV rfl rfl rfl rfl rfl (fun _ _ h => h) ?_) | (refine AD1.noU rfl rfl ⟨_, rfl, rfl⟩ rfl (fun _ _ h => h) ?_) | (refine AD1.rdy rfl rfl rfl rfl (fun _ _ h => h) (rd_load_ref Try.underlying3 rfl rfl rfl rfl rfl rfl) ?_) | (refine AD1.rdy rfl rfl rfl rfl (fun _ _ h => h) (rd_load_ad Try.underlying3 rfl rfl rfl rfl) ?_) | (refine AD1.rdy rfl rfl rfl rfl (fun _ _ h => h) (rd_load_map Try.underlying3 rfl rfl rfl rfl rfl rfl (by assumption)) ?_) | (refine AD1.rdy rfl rfl rfl rfl (fun _ _ h => h) (rd_load_flat Try.underlying3 rfl rfl rfl rfl rfl rfl (fun _ => rfl) (by assumption) rfl) ?_))
    (first | (refine AD1.noV rfl rfl rfl rfl rfl (fun _ _ h => h) ?_) | (refine AD1.noU rfl rfl ⟨_, rfl, rfl⟩ rfl (fun _ _ h => h) ?_) | (refine AD1.rpy rfl rfl rfl rfl (fun _ _ h => h) (rp_neqT rfl rfl rfl (by first | assumption | omega | (dsimp only; omega))) ?_) | (refine AD1.rpy rfl rfl rfl rfl (fun _ _ h => h) (rp_neqF rfl rfl rfl (by first | assumption | omega | (dsimp only; omega))) ?_) | (refine AD1.rpy rfl rfl rfl rfl (fun _ _ h => h) (rp_neq rfl rfl rfl) ?_))
    refine AD1.rp rfl rfl rfl (fun _ _ h => h) (rp_pick rfl rfl rfl) ?_
    refine AD1.rp rfl rfl rfl (fun _ _ h => h) (rp_move rfl rfl) ?_
    (first | (refine AD1.noV rfl rfl rfl rfl rfl (fun _ _ h => h) ?_) | (refine AD1.noU rfl rfl ⟨_, rfl, rfl⟩ rfl (fun _ _ h => h) ?_) | (refine AD1.rpy rfl rfl rfl rfl (fun _ _ h => h) (rp_move rfl rfl) ?_))
    (first | (refine AD1.noV rfl rfl rfl rfl rfl (fun _ _ h => h) ?_) | (refine AD1.noU rfl rfl ⟨_, rfl, rfl⟩ rfl (fun _ _ h => h) ?_) | (refine AD1.rpy rfl rfl rfl rfl (fun _ _ h => h) (rp_move rfl rfl) ?_))
    (first | (refine AD1.noV rfl rfl rfl rfl rfl (fun _ _ h => h) ?_) | (refine AD1.noU rfl rfl ⟨_, rfl, rfl⟩ rfl (fun _ _ h => h) ?_) | (refine AD1.rpy rfl rfl rfl rfl (fun _ _ h => h) (rp_index_map Try.underlying50 inf56 rfl rfl rfl rfl (by assumption)) ?_) | (refine AD1.rpy rfl rfl rfl rfl (fun _ _ h => h) (rp_index_own Try.underlying50 inf56 rfl rfl rfl rfl (by first | assumption | omega)) ?_) | (refine AD1.rpy rfl rfl rfl rfl (fun _ _ h => h) (rd_index_sl Try.underlying50 inf56 rfl rfl rfl rfl (by assumption)) ?_) | (refine AD1.rpy rfl rfl rfl rfl (fun _ _ h => h) (rp_index_own Try.underlying50 inf56 rfl rfl rfl (by omega) (by omega)) ?_))
    (first | (refine AD1.noV rfl rfl rfl rfl rfl (fun _ _ h => h) ?_) | (refine AD1.noU rfl rfl ⟨_, rfl, rfl⟩ rfl (fun _ _ h => h) ?_) | (refine AD1.rpy rfl rfl rfl rfl (fun _ _ h => h) (rp_field_ref Try.underlying56 rfl rfl rfl inf3 (by decide) rfl) ?_) | (refine AD1.rpy rfl rfl rfl rfl (fun _ _ h => h) (rp_field_ad Try.underlying56 rfl rfl rfl inf3 (by decide) rfl) ?_))
    (first | (refine AD1.noV rfl rfl rfl rfl rfl (fun _ _ h => h) ?_) | (refine AD1.noU rfl rfl ⟨_, rfl, rfl⟩ rfl (fun _ _ h => h) ?_) | (refine AD1.rdy rfl rfl rfl rfl (fun _ _ h => h) (rd_load_ref Try.underlying3 rfl rfl rfl rfl rfl rfl) ?_) | (refine AD1.rdy rfl rfl rfl rfl (fun _ _ h => h) (rd_load_ad Try.underlying3 rfl rfl rfl rfl) ?_) | (refine AD1.rdy rfl rfl rfl rfl (fun _ _ h => h) (rd_load_map Try.underlying3 rfl rfl rfl rfl rfl rfl (by assumption)) ?_) | (refine AD1.rdy rfl rfl rfl rfl (fun _ _ h => h) (rd_load_flat Try.underlying3 rfl rfl rfl rfl rfl rfl (fun _ => rfl) (by assumption) rfl) ?_))
    (first | (refine AD1.noV rfl rfl rfl rfl rfl (fun _ _ h => h) ?_) | (refine AD1.noU rfl rfl ⟨_, rfl, rfl⟩ rfl (fun _ _ h => h) ?_) | (refine AD1.rpy rfl rfl rfl rfl (fun _ _ h => h) (rp_move rfl rfl) ?_))
    (first | (refine AD1.noV rfl rfl rfl rfl rfl (fun _ _ h => h) ?_) | (refine AD1.noU rfl rfl ⟨_, rfl, rfl⟩ rfl (fun _ _ h => h) ?_) | (refine AD1.rpy rfl rfl rfl rfl (fun _ _ h => h) (rp_move rfl rfl) ?_))
    (first | (refine AD1.noV rfl rfl rfl rfl rfl (fun _ _ h => h) ?_) | (refine AD1.noU rfl rfl ⟨_, rfl, rfl⟩ rfl (fun _ _ h => h) ?_) | (refine AD1.rpy rfl rfl rfl rfl (fun _ _ h => h) (rp_sub rfl rfl rfl (by first | omega | (dsimp only; omega))) ?_))
    (first | (refine AD1.noV rfl rfl rfl rfl rfl (fun _ _ h => h) ?_) | (refine AD1.noU rfl rfl ⟨_, rfl, rfl⟩ rfl (fun _ _ h => h) ?_) | (refine AD1.rpy rfl rfl rfl rfl (fun _ _ h => h) (rp_index_own (k := i - 1) Try.underlying50 inf56 rfl rfl rfl (by omega) (by omega)) ?_) | (refine AD1.rpy rfl rfl rfl rfl (fun _ _ h => h) (rp_index_map (k := i - 1) Try.underlying50 inf56 rfl rfl rfl (by omega) (by assumption)) ?_))
    (first | (refine AD1.noV rfl rfl rfl rfl rfl (fun _ _ h => h) ?_) | (refine AD1.noU rfl rfl ⟨_, rfl, rfl⟩ rfl (fun _ _ h => h) ?_) | (refine AD1.rpy rfl rfl rfl rfl (fun _ _ h => h) (rp_field_ref Try.underlying56 rfl rfl rfl inf3 (by decide) rfl) ?_) | (refine AD1.rpy rfl rfl rfl rfl (fun _ _ h => h) (rp_field_ad Try.underlying56 rfl rfl rfl inf3 (by decide) rfl) ?_))
    (first | (refine AD1.noV rfl rfl rfl rfl rfl (fun _ _ h => h) ?_) | (refine AD1.noU rfl rfl ⟨_, rfl, rfl⟩ rfl (fun _ _ h => h) ?_) | (refine AD1.rdy rfl rfl rfl rfl (fun _ _ h => h) (rd_load_ref Try.underlying3 rfl rfl rfl rfl rfl rfl) ?_) | (refine AD1.rdy rfl rfl rfl rfl (fun _ _ h => h) (rd_load_ad Try.underlying3 rfl rfl rfl rfl) ?_) | (refine AD1.rdy rfl rfl rfl rfl (fun _ _ h => h) (rd_load_map Try.underlying3 rfl rfl rfl rfl rfl rfl (by assumption)) ?_) | (refine AD1.rdy rfl rfl rfl rfl (fun _ _ h => h) (rd_load_flat Try.underlying3 rfl rfl rfl rfl rfl rfl (fun _ => rfl) (by assumption) rfl) ?_))
    (first | (refine AD1.noV rfl rfl rfl rfl rfl (fun _ _ h => h) ?_) | (refine AD1.noU rfl rfl ⟨_, rfl, rfl⟩ rfl (fun _ _ h => h) ?_) | (refine AD1.rpy rfl rfl rfl rfl (fun _ _ h => h) (rp_neqT rfl rfl rfl (by first | assumption | omega | (dsimp only; omega))) ?_) | (refine AD1.rpy rfl rfl rfl rfl (fun _ _ h => h) (rp_neqF rfl rfl rfl (by first | assumption | omega | (dsimp only; omega))) ?_) | (refine AD1.rpy rfl rfl rfl rfl (fun _ _ h => h) (rp_neq rfl rfl rfl) ?_))
    refine AD1.rp rfl rfl rfl (fun _ _ h => h) (rp_pick rfl rfl rfl) ?_
    refine AD1.rp rfl rfl rfl (fun _ _ h => h) (rp_move rfl rfl) ?_
    (first | (refine AD1.noV rfl rfl rfl rfl rfl (fun _ _ h => h) ?_) | (refine AD1.noU rfl rfl ⟨_, rfl, rfl⟩ rfl (fun _ _ h => h) ?_) | (refine AD1.rpy rfl rfl rfl rfl (fun _ _ h => h) (rp_move rfl rfl) ?_))
    (first | (refine AD1.noV rfl rfl rfl rfl rfl (fun _ _ h => h) ?_) | (refine AD1.noU rfl rfl ⟨_, rfl, rfl⟩ rfl (fun _ _ h => h) ?_) | (refine AD1.rpy rfl rfl rfl rfl (fun _ _ h => h) (rp_move rfl rfl) ?_))
    (first | (refine AD1.noV rfl rfl rfl rfl rfl (fun _ _ h => h) ?_) | (refine AD1.noU rfl rfl ⟨_, rfl, rfl⟩ rfl (fun _ _ h => h) ?_) | (refine AD1.rpy rfl rfl rfl rfl (fun _ _ h => h) (rp_index_map Try.underlying50 inf56 rfl rfl rfl rfl (by assumption)) ?_) | (refine AD1.rpy rfl rfl rfl rfl (fun _ _ h => h) (rp_index_own Try.underlying50 inf56 rfl rfl rfl rfl (by first | assumption | omega)) ?_) | (refine AD1.rpy rfl rfl rfl rfl (fun _ _ h => h) (rd_index_sl Try.underlying50 inf56 rfl rfl rfl rfl (by assumption)) ?_) | (refine AD1.rpy rfl rfl rfl rfl (fun _ _ h => h) (rp_index_own Try.underlying50 inf56 rfl rfl rfl (by omega) (by omega)) ?_))
    (first | (refine AD1.noV rfl rfl rfl rfl rfl (fun _ _ h => h) ?_) | (refine AD1.noU rfl rfl ⟨_, rfl, rfl⟩ rfl (fun _ _ h => h) ?_) | (refine AD1.rpy rfl rfl rfl rfl (fun _ _ h => h) (rp_field_ref Try.underlying56 rfl rfl rfl inf3 (by decide) rfl) ?_) | (refine AD1.rpy rfl rfl rfl rfl (fun _ _ h => h) (rp_field_ad Try.underlying56 rfl rfl rfl inf3 (by decide) rfl) ?_))
    (first | (refine AD1.noV rfl rfl rfl rfl rfl (fun _ _ h => h) ?_) | (refine AD1.noU rfl rfl ⟨_, rfl, rfl⟩ rfl (fun _ _ h => h) ?_) | (refine AD1.rdy rfl rfl rfl rfl (fun _ _ h => h) (rd_load_ref Try.underlying3 rfl rfl rfl rfl rfl rfl) ?_) | (refine AD1.rdy rfl rfl rfl rfl (fun _ _ h => h) (rd_load_ad Try.underlying3 rfl rfl rfl rfl) ?_) | (refine AD1.rdy rfl rfl rfl rfl (fun _ _ h => h) (rd_load_map Try.underlying3 rfl rfl rfl rfl rfl rfl (by assumption)) ?_) | (refine AD1.rdy rfl rfl rfl rfl (fun _ _ h => h) (rd_load_flat Try.underlying3 rfl rfl rfl rfl rfl rfl (fun _ => rfl) (by assumption) rfl) ?_))
    (first | (refine AD1.noV rfl rfl rfl rfl rfl (fun _ _ h => h) ?_) | (refine AD1.noU rfl rfl ⟨_, rfl, rfl⟩ rfl (fun _ _ h => h) ?_) | (refine AD1.rpy rfl rfl rfl rfl (fun _ _ h => h) (rp_move rfl rfl) ?_))
    (first | (refine AD1.noV rfl rfl rfl rfl rfl (fun _ _ h => h) ?_) | (refine AD1.noU rfl rfl ⟨_, rfl, rfl⟩ rfl (fun _ _ h => h) ?_) | (refine AD1.rpy rfl rfl rfl rfl (fun _ _ h => h) (rp_move rfl rfl) ?_))
    (first | (refine AD1.noV rfl rfl rfl rfl rfl (fun _ _ h => h) ?_) | (refine AD1.noU rfl rfl ⟨_, rfl, rfl⟩ rfl (fun _ _ h => h) ?_) | (refine AD1.rpy rfl rfl rfl rfl (fun _ _ h => h) (rp_sub rfl rfl rfl (by first | omega | (dsimp only; omega))) ?_))
    (first | (refine AD1.noV rfl rfl rfl rfl rfl (fun _ _ h => h) ?_) | (refine AD1.noU rfl rfl ⟨_, rfl, rfl⟩ rfl (fun _ _ h => h) ?_) | (refine AD1.rpy rfl rfl rfl rfl (fun _ _ h => h) (rp_index_own (k := i - 1) Try.underlying50 inf56 rfl rfl rfl (by omega) (by omega)) ?_) | (refine AD1.rpy rfl rfl rfl rfl (fun _ _ h => h) (rp_index_map (k := i - 1) Try.underlying50 inf56 rfl rfl rfl (by omega) (by assumption)) ?_))
    (first | (refine AD1.noV rfl rfl rfl rfl rfl (fun _ _ h => h) ?_) | (refine AD1.noU rfl rfl ⟨_, rfl, rfl⟩ rfl (fun _ _ h => h) ?_) | (refine AD1.rpy rfl rfl rfl rfl (fun _ _ h => h) (rp_field_ref Try.underlying56 rfl rfl rfl inf3 (by decide) rfl) ?_) | (refine AD1.rpy rfl rfl rfl rfl (fun _ _ h => h) (rp_field_ad Try.underlying56 rfl rfl rfl inf3 (by decide) rfl) ?_))
    (first | (refine AD1.noV rfl rfl rfl rfl rfl (fun _ _ h => h) ?_) | (refine AD1.noU rfl rfl ⟨_, rfl, rfl⟩ rfl (fun _ _ h => h) ?_) | (refine AD1.rdy rfl rfl rfl rfl (fun _ _ h => h) (rd_load_ref Try.underlying3 rfl rfl rfl rfl rfl rfl) ?_) | (refine AD1.rdy rfl rfl rfl rfl (fun _ _ h => h) (rd_load_ad Try.underlying3 rfl rfl rfl rfl) ?_) | (refine AD1.rdy rfl rfl rfl rfl (fun _ _ h => h) (rd_load_map Try.underlying3 rfl rfl rfl rfl rfl rfl (by assumption)) ?_) | (refine AD1.rdy rfl rfl rfl rfl (fun _ _ h => h) (rd_load_flat Try.underlying3 rfl rfl rfl rfl rfl rfl (fun _ => rfl) (by assumption) rfl) ?_))
    (first | (refine AD1.noV rfl rfl rfl rfl rfl (fun _ _ h => h) ?_) | (refine AD1.noU rfl rfl ⟨_, rfl, rfl⟩ rfl (fun _ _ h => h) ?_) | (refine AD1.rpy rfl rfl rfl rfl (fun _ _ h => h) (rp_neqT rfl rfl rfl (by first | assumption | omega | (dsimp only; omega))) ?_) | (refine AD1.rpy rfl rfl rfl rfl (fun _ _ h => h) (rp_neqF rfl rfl rfl (by first | assumption | omega | (dsimp only; omega))) ?_) | (refine AD1.rpy rfl rfl rfl rfl (fun _ _ h => h) (rp_neq rfl rfl rfl) ?_))
    refine AD1.rp rfl rfl rfl (fun _ _ h => h) (rp_pick rfl rfl rfl) ?_
    refine AD1.nil ?_
    try simp only [thenS, S.put]
    refine AW.condT rfl ?_
    refine AW.region ?_
    refine AL.rp rfl rfl (rp_move rfl rfl) ?_
    refine AL.rp rfl rfl (rp_move rfl rfl) ?_
    refine AL.rp rfl rfl (rp_move rfl rfl) ?_
    (first | (refine AL.rp rfl rfl (rp_index_map Try.underlying50 inf56 rfl rfl rfl rfl (by assumption)) ?_) | (refine AL.rp rfl rfl (rp_index_own Try.underlying50 inf56 rfl rfl rfl rfl (by first | assumption | omega)) ?_) | (refine AL.rp rfl rfl (rd_index_sl Try.underlying50 inf56 rfl rfl rfl rfl (by assumption)) ?_) | (refine AL.rp rfl rfl (rp_index_own Try.underlying50 inf56 rfl rfl rfl (by omega) (by omega)) ?_))
    (first | (refine AL.rd rfl rfl (rd_loads_ref Try.underlying56 rfl inf56 rfl rfl rfl rfl rfl rfl) ?_) | (refine AL.rd rfl rfl (rd_loads_ad Try.underlying56 rfl inf56 rfl rfl rfl rfl) ?_))
    refine AL.sm rfl (sm_slice (vs := [(0, _)]) (zs := [.d (.p (.int .i64 0)), .d (.p (.int .i64 0)), .d (.p (.int .i64 0)), .d (.p (.int .i64 0))]) 60 Try.underlying50 inf56 rfl rfl (by decide) (by decide) (by decide) rfl rfl rfl rfl (by first | rfl | simp [S.clean, S.put, S.newObj, S.forget, V.has, V.hasL, junkIf, setL, V.cs, hasL_i, hasL_b, hasL_s, hasL_n, hasL_rep, hasL_flat, hasL_append, -List.map_set]) (by first | rfl | simp [S.clean, S.put, S.newObj, S.forget, V.has, V.hasL, junkIf, setL, V.cs, hasL_i, hasL_b, hasL_s, hasL_n, hasL_rep, hasL_flat, hasL_append, -List.map_set]) rfl) ?_
    refine AL.st rfl (st_appendF Try.underlying50 inf56 rfl (by decide) rfl rfl rfl rfl rfl rfl (by first | assumption | rfl | (simp; done)) (by first | rfl | simp [S.clean, S.put, S.newObj, S.forget, V.has, V.hasL, junkIf, setL, V.cs, hasL_i, hasL_b, hasL_s, hasL_n, hasL_rep, hasL_flat, hasL_append, -List.map_set]) rfl rfl rfl rfl rfl (by first | rfl | simp [S.clean, S.put, S.newObj, S.forget, V.has, V.hasL, junkIf, setL, V.cs, hasL_i, hasL_b, hasL_s, hasL_n, hasL_rep, hasL_flat, hasL_append, -List.map_set]) rfl (by decide) (by omega) (by omega) rfl) ?_
    simp only [S.forget, S.put, S.newObj, junkIf, V.has, V.hasL, hasL_i, hasL_b, hasL_s, hasL_d, hasL_n, hasL_rep, hasL_flat, hasL_append, List.map_cons, List.map_nil, List.filter_cons, List.filter_nil, Nat.reduceBNe, Nat.reduceBEq, eq_self, bne_self_eq_false,  Bool.not_true, Bool.not_false, Bool.or_false, Bool.or_true, Bool.false_or, Bool.true_or, if_true, if_false, Bool.false_eq_true, ite_true, ite_false, ↓reduceIte, beq_self_eq_true, Nat.reduceEqDiff]
    refine AL.rp rfl rfl (rp_assign rfl rfl) ?_
    refine AL.nil ?_
    try simp only [thenS, S.put, S.newObj, setL, V.cs, List.length_cons, List.length_nil, List.take_succ_cons, List.take_zero, List.drop_succ_cons, List.drop_zero, List.drop_nil, List.nil_append, List.cons_append, List.append_nil, Nat.zero_add, Nat.reduceAdd, List.map_cons, List.map_nil, List.set_cons_zero, List.set_cons_succ]
    refine AW.region ?_
    refine AL.rp rfl rfl (rp_move rfl rfl) ?_
    refine AL.rp rfl rfl (rp_add rfl rfl rfl (by first | omega | (dsimp only; omega))) ?_
    refine AL.rp rfl rfl (rp_assign rfl rfl) ?_
    refine AL.nil ?_
    try simp only [thenS, S.put]
    refine ⟨_, ?_, ⟨i + 1, A ++ [⟨xi, xo, xw, xt⟩], ak + 1, by omega, hsn.symm, by simp [hak], rfl⟩, ?_⟩
    ·simp only [List.flatMap_append, List.flatMap_cons, List.flatMap_nil, List.append_nil]
     exact (Less.of rfl (by repeat (first | exact trivial | refine ⟨⟨_, rfl, Wk.refl _⟩, ?_⟩ | refine ⟨⟨_, rfl, Wk.nil _ _⟩, ?_⟩ | refine ⟨⟨_, rfl, Wk.junk _⟩, ?_⟩)) (by repeat (first | exact trivial | refine ⟨rfl, ?_⟩)) rfl)
    ·simp [S.nat, fnd]; omega
 ·rw [List.take_of_length_le (by omega)] at hA
  rw [← hA]
  refine AW.seq ?_
  refine AW.seq ?_
  refine AW.region ?_
  refine AL.rp rfl rfl (rp_move rfl rfl) ?_
  refine AL.rp rfl rfl (rp_move rfl rfl) ?_
  (first | (refine AL.rp rfl rfl (rp_len_map Try.underlying50 rfl rfl (by assumption)) ?_) | (refine AL.rp rfl rfl (rp_len_own Try.underlying50 rfl rfl) ?_) | (refine AL.rp rfl rfl (rp_len_sl Try.underlying50 rfl rfl) ?_) | (refine AL.rp rfl rfl (rp_len_nil Try.underlying50 rfl rfl) ?_) | (refine AL.rp rfl rfl (rp_len_str Try.underlying50 rfl rfl) ?_))
  (first | (refine AL.rp rfl rfl (rp_lssT rfl rfl rfl (by first | assumption | omega | (dsimp only; omega))) ?_) | (refine AL.rp rfl rfl (rp_lssF rfl rfl rfl (by first | assumption | omega | (dsimp only; omega))) ?_) | (refine AL.rp rfl rfl (rp_lss rfl rfl rfl) ?_))
  refine AL.nil ?_
  try simp only [thenS, S.put]
  refine AW.condF rfl ?_
  refine AW.exit ?_
  try simp only [thenS, inBlockS, ↓reduceIte, Nat.reduceEqDiff]
  refine AW.seq ?_
  refine AW.freeze 3 32 (A.map arD) rfl rfl rfl (by rw [List.length_map, hak]) (by omega) (rowsF (enc := arD) (sz := 4) (l := A) (fun _ => rfl) rfl) ?_
  refine AW.region ?_
  refine AL.rp rfl rfl (rp_move rfl rfl) ?_
  refine AL.rp rfl rfl (rp_assign rfl rfl) ?_
  refine AL.nil ?_
  try simp only [thenS, S.put]
  refine AW.ret ?_
  exact ⟨[_], ⟨rfl, trivial⟩, rfl, by simp [tupOf, V.pure, V.has]⟩

theorem am_Arranged2 (m : Mach) : Fn Try.prog 13 [mV m, .i 2] (fun v => resP (machE m) (resM inL m) v) := by
 by_cases h0 : machE m = 0
 ·have hz := machE_zero h0
  have hR : resM inL m = ⟨m.start, m.states.map fun s => ⟨s.fin, inL s.arcs⟩⟩ := by unfold resM; rw [if_pos h0]
  rw [hR, h0]
  refine Fn.mach m 0 rfl fun hb hal => ?_
  obtain ⟨st, sts⟩ := m
  simp only at hb hal hz
  obtain ⟨n, hn⟩ : ∃ n, sts.length = n := ⟨_, rfl⟩
  rw [hn] at hb
  refine Fn.intro (n := 62) ⟨Try.func13, rfl, rfl, rfl, rfl⟩ (by simp [V.pure, V.has, V.hasL]) (by simp) fun w0 out => ?_
  refine AW.seq ?_
  refine AW.region ?_
  refine AL.sm rfl (sm_box 2 rfl rfl rfl (by first | rfl | simp [S.clean, S.put, S.newObj, S.forget, V.has, V.hasL, junkIf, setL, V.cs, hasL_i, hasL_b, hasL_s, hasL_n, hasL_rep, hasL_flat, hasL_append, -List.map_set]) rfl) ?_
  refine AL.sm rfl (sm_alloc (l := [.d (.p (.int .i64 0)), .d (.p (.slice none 0 0))]) 4 inf24 rfl (by first | rfl | simp [S.clean, S.put, S.newObj, S.forget, V.has, V.hasL, junkIf, setL, V.cs, hasL_i, hasL_b, hasL_s, hasL_n, hasL_rep, hasL_flat, hasL_append, -List.map_set]) rfl rfl) ?_
  refine AL.rp rfl rfl (rp_assign rfl rfl) ?_
  refine AL.nil ?_
  try simp only [thenS, S.put, S.newObj, setL, V.cs, List.length_cons, List.length_nil, List.take_succ_cons, List.take_zero, List.drop_succ_cons, List.drop_zero, List.drop_nil, List.nil_append, List.cons_append, List.append_nil, Nat.zero_add, Nat.reduceAdd, List.map_cons, List.map_nil, List.set_cons_zero, List.set_cons_succ, enum]
  refine AW.seq ?_
  refine AW.region ?_
  (first | (refine AL.rd rfl rfl (rd_loads_ref Try.underlying24 rfl inf24 rfl rfl rfl rfl rfl rfl) ?_) | (refine AL.rd rfl rfl (rd_loads_ad Try.underlying24 rfl inf24 rfl rfl rfl rfl) ?_))
  refine AL.call (post := ?pc18) rfl (sm_call (args := [_]) ?hc18 ⟨Try.func37, rfl, rfl, rfl, rfl⟩ rfl rfl rfl rfl) ?_
  case hc18 => exact Fn.eqi (am_Fault ⟨st, sts⟩) h0
  rintro _ rfl -
  try dsimp only
  refine AL.rp rfl rfl (rp_assign rfl rfl) ?_
  refine AL.nil ?_
  try simp only [thenS, S.put, S.newObj, setL, V.cs, List.length_cons, List.length_nil, List.take_succ_cons, List.take_zero, List.drop_succ_cons, List.drop_zero, List.drop_nil, List.nil_append, List.cons_append, List.append_nil, Nat.zero_add, Nat.reduceAdd, List.map_cons, List.map_nil, List.set_cons_zero, List.set_cons_succ]
  refine AW.seq ?_
  refine AW.seq ?_
  refine AW.region ?_
  refine AL.rp rfl rfl (rp_move rfl rfl) ?_
  (first | (refine AL.rp rfl rfl (rp_neqT rfl rfl rfl (by first | assumption | omega | (dsimp only; omega))) ?_) | (refine AL.rp rfl rfl (rp_neqF rfl rfl rfl (by first | assumption | omega | (dsimp only; omega))) ?_) | (refine AL.rp rfl rfl (rp_neq rfl rfl rfl) ?_))
  refine AL.nil ?_
  try simp only [thenS, S.put]
  refine AW.condF rfl ?_
  refine AW.skip ?_
  try simp only [thenS]
  refine AW.seq ?_
  refine AW.region ?_
  (first | (refine AL.rp rfl rfl (rp_field_ref Try.underlying24 rfl rfl rfl inf3 (by decide) rfl) ?_) | (refine AL.rp rfl rfl (rp_field_ad Try.underlying24 rfl rfl rfl inf3 (by decide) rfl) ?_))
  (first | (refine AL.rd rfl rfl (rd_load_ref Try.underlying3 rfl rfl rfl rfl rfl rfl) ?_) | (refine AL.rd rfl rfl (rd_load_ad Try.underlying3 rfl rfl rfl rfl) ?_) | (refine AL.rd rfl rfl (rd_load_map Try.underlying3 rfl rfl rfl rfl rfl rfl (by assumption)) ?_) | (refine AL.rd rfl rfl (rd_load_flat Try.underlying3 rfl rfl rfl rfl rfl rfl (fun _ => rfl) (by assumption) rfl) ?_))
  refine AL.rp rfl rfl (rp_build (vs := [(0, _)]) (zs := [.d (.p (.int .i64 0)), .d (.p (.slice none 0 0))]) pl24 inf24 rfl rfl rfl rfl) ?_
  refine AL.sm rfl (sm_alloc (l := [.d (.p (.int .i64 0)), .d (.p (.slice none 0 0))]) 7 inf24 rfl (by first | rfl | simp [S.clean, S.put, S.newObj, S.forget, V.has, V.hasL, junkIf, setL, V.cs, hasL_i, hasL_b, hasL_s, hasL_n, hasL_rep, hasL_flat, hasL_append, -List.map_set]) rfl rfl) ?_
  refine AL.st rfl (st_store_any inf24 rfl rfl rfl rfl rfl rfl rfl rfl (by first | decide | (simp; done) | (simp; omega)) rfl) ?_
  refine AL.nil ?_
  try simp only [thenS, S.put, S.newObj, setL, V.cs, List.length_cons, List.length_nil, List.take_succ_cons, List.take_zero, List.drop_succ_cons, List.drop_zero, List.drop_nil, List.nil_append, List.cons_append, List.append_nil, Nat.zero_add, Nat.reduceAdd, List.map_cons, List.map_nil, List.set_cons_zero, List.set_cons_succ]
  refine AW.seq ?_
  refine AW.seq ?_
  refine AW.adoptH 7 1 901 2 52 rfl rfl rfl (by simp [S.clean, V.has, V.hasL, V.cs, setL]) ?_
  refine AW.region ?_
  refine AL.rp rfl rfl (rp_assign rfl rfl) ?_
  refine AL.nil ?_
  try simp only [thenS, S.put]
  refine AW.block ?_
  refine AW.loop (fun s' => ∃ (k : Nat) (P : List St), k ≤ n ∧ P = (sts.take k).map (fun s => ⟨s.fin, inL s.arcs⟩) ∧ P.length = k ∧ s' = ⟨62, [(1, .i 2), (2, .ref 2 0), (4, .ref 4 0), (7, .ref 7 0), (8, .i k)], [(2, ⟨24, [.i st, .d (stsD sts)], false, 0⟩), (4, ⟨24, [.i 0, .nil], false, 0⟩), (7, ⟨24, [.i st, .own 901 2 k (decide (k = 0))], false, 0⟩), (901, ⟨52, P.flatMap stV2, decide (k = 0), 2⟩)], []⟩) (fun s' => n - s'.nat 8) ⟨_, ?_, 0, [], by omega, rfl, rfl, rfl⟩ ?_
  ·exact (Less.of rfl (by repeat (first | exact trivial | refine ⟨⟨_, rfl, Wk.refl _⟩, ?_⟩ | refine ⟨⟨_, rfl, Wk.nil _ _⟩, ?_⟩ | refine ⟨⟨_, rfl, Wk.junk _⟩, ?_⟩)) (by repeat (first | exact trivial | refine ⟨rfl, ?_⟩)) rfl)
  rintro s' ⟨k, P, hk, hP, hPl, rfl⟩
  have hfl : (P.flatMap stV2).length = k * 2 := by rw [flat_len (sz := 2) (fun _ => rfl), hPl]
  by_cases hlt : k < n
  ·obtain ⟨x, hx⟩ := get_lt hn hlt
   have hxm := List.mem_of_getElem? hx
   have hxl := arc_le hxm
   have hx4 : x.arcs.length ≤ 400 := by omega
   have hsn := take_snoc hx
   refine AW.seq ?_
   refine AW.seq ?_
   refine AW.region ?_
   refine AL.rp rfl rfl (rp_move rfl rfl) ?_
   (first | (refine AL.rp rfl rfl (rp_field_ref Try.underlying24 rfl rfl rfl inf22 (by decide) rfl) ?_) | (refine AL.rp rfl rfl (rp_field_ad Try.underlying24 rfl rfl rfl inf22 (by decide) rfl) ?_))
   (first | (refine AL.rd rfl rfl (rd_load_ref Try.underlying22 rfl rfl rfl rfl rfl rfl) ?_) | (refine AL.rd rfl rfl (rd_load_ad Try.underlying22 rfl rfl rfl rfl) ?_) | (refine AL.rd rfl rfl (rd_load_map Try.underlying22 rfl rfl rfl rfl rfl rfl (by assumption)) ?_) | (refine AL.rd rfl rfl (rd_load_flat Try.underlying22 rfl rfl rfl rfl rfl rfl (fun _ => rfl) (by assumption) rfl) ?_))
   (first | (refine AL.rp rfl rfl (rp_len_map Try.underlying22 rfl rfl (by assumption)) ?_) | (refine AL.rp rfl rfl (rp_len_own Try.underlying22 rfl rfl) ?_) | (refine AL.rp rfl rfl (rp_len_sl Try.underlying22 rfl rfl) ?_) | (refine AL.rp rfl rfl (rp_len_nil Try.underlying22 rfl rfl) ?_) | (refine AL.rp rfl rfl (rp_len_str Try.underlying22 rfl rfl) ?_))
   (first | (refine AL.rp rfl rfl (rp_lssT rfl rfl rfl (by first | assumption | omega | (dsimp only; omega))) ?_) | (refine AL.rp rfl rfl (rp_lssF rfl rfl rfl (by first | assumption | omega | (dsimp only; omega))) ?_) | (refine AL.rp rfl rfl (rp_lss rfl rfl rfl) ?_))
   refine AL.nil ?_
   try simp only [thenS, S.put]
   refine AW.condT rfl ?_
   refine AW.skip ?_
   try simp only [thenS]
   refine AW.seq ?_
   refine AW.block ?_
   refine AW.seq ?_
   refine AW.region ?_
   (first | (refine AL.rp rfl rfl (rp_field_ref Try.underlying24 rfl rfl rfl inf22 (by decide) rfl) ?_) | (refine AL.rp rfl rfl (rp_field_ad Try.underlying24 rfl rfl rfl inf22 (by decide) rfl) ?_))
   (first | (refine AL.rd rfl rfl (rd_load_ref Try.underlying22 rfl rfl rfl rfl rfl rfl) ?_) | (refine AL.rd rfl rfl (rd_load_ad Try.underlying22 rfl rfl rfl rfl) ?_) | (refine AL.rd rfl rfl (rd_load_map Try.underlying22 rfl rfl rfl rfl rfl rfl (by assumption)) ?_) | (refine AL.rd rfl rfl (rd_load_flat Try.underlying22 rfl rfl rfl rfl rfl rfl (fun _ => rfl) (by assumption) rfl) ?_))
   refine AL.rp rfl rfl (rp_move rfl rfl) ?_
   (first | (refine AL.rp rfl rfl (rp_index_map Try.underlying22 inf52 rfl rfl rfl rfl (by assumption)) ?_) | (refine AL.rp rfl rfl (rp_index_own Try.underlying22 inf52 rfl rfl rfl rfl (by first | assumption | omega)) ?_) | (refine AL.rp rfl rfl (rd_index_sl Try.underlying22 inf52 rfl rfl rfl rfl (by assumption)) ?_) | (refine AL.rp rfl rfl (rp_index_own Try.underlying22 inf52 rfl rfl rfl (by omega) (by omega)) ?_))
   (first | (refine AL.rp rfl rfl (rp_field_ref Try.underlying52 rfl rfl rfl inf50 (by decide) rfl) ?_) | (refine AL.rp rfl rfl (rp_field_ad Try.underlying52 rfl rfl rfl inf50 (by decide) rfl) ?_))
   (first | (refine AL.rd rfl rfl (rd_load_ref Try.underlying50 rfl rfl rfl rfl rfl rfl) ?_) | (refine AL.rd rfl rfl (rd_load_ad Try.underlying50 rfl rfl rfl rfl) ?_) | (refine AL.rd rfl rfl (rd_load_map Try.underlying50 rfl rfl rfl rfl rfl rfl (by assumption)) ?_) | (refine AL.rd rfl rfl (rd_load_flat Try.underlying50 rfl rfl rfl rfl rfl rfl (fun _ => rfl) (by assumption) rfl) ?_))
   refine AL.call (post := ?pc19) rfl (sm_call (args := [_]) ?hc19 ⟨Try.func38, rfl, rfl, rfl, rfl⟩ rfl rfl rfl rfl) ?_
   case hc19 => exact am_InOrder x.arcs hx4
   rintro _ rfl -
   try dsimp only
   refine AL.rp rfl rfl (rp_assign rfl rfl) ?_
   refine AL.nil ?_
   try simp only [thenS, S.put, S.newObj, setL, V.cs, List.length_cons, List.length_nil, List.take_succ_cons, List.take_zero, List.drop_succ_cons, List.drop_zero, List.drop_nil, List.nil_append, List.cons_append, List.append_nil, Nat.zero_add, Nat.reduceAdd, List.map_cons, List.map_nil, List.set_cons_zero, List.set_cons_succ]
   refine AW.seq ?_
   refine AW.seq ?_
   refine AW.region ?_
   refine AL.rp rfl rfl (rp_move rfl rfl) ?_
   (first | (refine AL.rp rfl rfl (rp_eqlT rfl rfl rfl (by first | assumption | omega | (dsimp only; omega))) ?_) | (refine AL.rp rfl rfl (rp_eqlF rfl rfl rfl (by first | assumption | omega | (dsimp only; omega))) ?_) | (refine AL.rp rfl rfl (rp_eql rfl rfl rfl) ?_))
   refine AL.nil ?_
   try simp only [thenS, S.put]
   refine AW.condF rfl ?_
   refine AW.skip ?_
   try simp only [thenS]
   refine AW.seq ?_
   refine AW.seq ?_
   refine AW.region ?_
   refine AL.rp rfl rfl (rp_move rfl rfl) ?_
   (first | (refine AL.rp rfl rfl (rp_eqlT rfl rfl rfl (by first | assumption | omega | (dsimp only; omega))) ?_) | (refine AL.rp rfl rfl (rp_eqlF rfl rfl rfl (by first | assumption | omega | (dsimp only; omega))) ?_) | (refine AL.rp rfl rfl (rp_eql rfl rfl rfl) ?_))
   refine AL.nil ?_
   try simp only [thenS, S.put]
   refine AW.condT rfl ?_
   refine AW.region ?_
   refine AL.rp rfl rfl (rp_move rfl rfl) ?_
   refine AL.call (post := ?pc20) rfl (sm_call (args := [_]) ?hc20 ⟨Try.func40, rfl, rfl, rfl, rfl⟩ rfl rfl rfl rfl) ?_
   case hc20 => exact am_lightest (inO x.arcs) (by rw [inO_len]; exact hx4)
   rintro _ rfl -
   try dsimp only
   refine AL.rp rfl rfl (rp_assign rfl rfl) ?_
   refine AL.nil ?_
   try simp only [thenS, S.put, S.newObj, setL, V.cs, List.length_cons, List.length_nil, List.take_succ_cons, List.take_zero, List.drop_succ_cons, List.drop_zero, List.drop_nil, List.nil_append, List.cons_append, List.append_nil, Nat.zero_add, Nat.reduceAdd, List.map_cons, List.map_nil, List.set_cons_zero, List.set_cons_succ]
   refine AW.draw [(0, true), (1, true), (2, true), (3, true), (4, true), (5, true), (6, true), (7, true), (8, true), (9, true), (10, false), (11, false), (12, false), (13, false)] (fun i => !([11, 12, 13] : List Nat).contains i) 14 (by kernel_rfl) (by kernel_rfl) rfl (by kernel_rfl) ?_
   (first | (refine AD1.rp rfl rfl rfl (fun _ _ h => h) (rp_field_ref Try.underlying24 rfl rfl rfl inf22 (by decide) rfl) ?_) | (refine AD1.rp rfl rfl rfl (fun _ _ h => h) (rp_field_ad Try.underlying24 rfl rfl rfl inf22 (by decide) rfl) ?_))
   (first | (refine AD1.rd rfl rfl rfl (fun _ _ h => h) (rd_load_ref Try.underlying22 rfl rfl rfl rfl rfl rfl) ?_) | (refine AD1.rd rfl rfl rfl (fun _ _ h => h) (rd_load_ad Try.underlying22 rfl rfl rfl rfl) ?_) | (refine AD1.rd rfl rfl rfl (fun _ _ h => h) (rd_load_map Try.underlying22 rfl rfl rfl rfl rfl rfl (by assumption)) ?_) | (refine AD1.rd rfl rfl rfl (fun _ _ h => h) (rd_load_flat Try.underlying22 rfl rfl rfl rfl rfl rfl (fun _ => rfl) (by assumption) rfl) ?_))
   (first | (refine AD1.rp rfl rfl rfl (fun _ _ h => h) (rp_field_ref Try.underlying24 rfl rfl rfl inf22 (by decide) rfl) ?_) | (refine AD1.rp rfl rfl rfl (fun _ _ h => h) (rp_field_ad Try.underlying24 rfl rfl rfl inf22 (by decide) rfl) ?_))
   (first | (refine AD1.rd rfl rfl rfl (fun _ _ h => h) (rd_load_ref Try.underlying22 rfl rfl rfl rfl rfl rfl) ?_) | (refine AD1.rd rfl rfl rfl (fun _ _ h => h) (rd_load_ad Try.underlying22 rfl rfl rfl rfl) ?_) | (refine AD1.rd rfl rfl rfl (fun _ _ h => h) (rd_load_map Try.underlying22 rfl rfl rfl rfl rfl rfl (by assumption)) ?_) | (refine AD1.rd rfl rfl rfl (fun _ _ h => h) (rd_load_flat Try.underlying22 rfl rfl rfl rfl rfl rfl (fun _ => rfl) (by assumption) rfl) ?_))
   refine AD1.rp rfl rfl rfl (fun _ _ h => h) (rp_move rfl rfl) ?_
   (first | (refine AD1.rp rfl rfl rfl (fun _ _ h => h) (rp_index_map Try.underlying22 inf52 rfl rfl rfl rfl (by assumption)) ?_) | (refine AD1.rp rfl rfl rfl (fun _ _ h => h) (rp_index_own Try.underlying22 inf52 rfl rfl rfl rfl (by first | assumption | omega)) ?_) | (refine AD1.rp rfl rfl rfl (fun _ _ h => h) (rd_index_sl Try.underlying22 inf52 rfl rfl rfl rfl (by assumption)) ?_) | (refine AD1.rp rfl rfl rfl (fun _ _ h => h) (rp_index_own Try.underlying22 inf52 rfl rfl rfl (by omega) (by omega)) ?_))
   (first | (refine AD1.rp rfl rfl rfl (fun _ _ h => h) (rp_field_ref Try.underlying52 rfl rfl rfl inf3 (by decide) rfl) ?_) | (refine AD1.rp rfl rfl rfl (fun _ _ h => h) (rp_field_ad Try.underlying52 rfl rfl rfl inf3 (by decide) rfl) ?_))
   (first | (refine AD1.rd rfl rfl rfl (fun _ _ h => h) (rd_load_ref Try.underlying3 rfl rfl rfl rfl rfl rfl) ?_) | (refine AD1.rd rfl rfl rfl (fun _ _ h => h) (rd_load_ad Try.underlying3 rfl rfl rfl rfl) ?_) | (refine AD1.rd rfl rfl rfl (fun _ _ h => h) (rd_load_map Try.underlying3 rfl rfl rfl rfl rfl rfl (by assumption)) ?_) | (refine AD1.rd rfl rfl rfl (fun _ _ h => h) (rd_load_flat Try.underlying3 rfl rfl rfl rfl rfl rfl (fun _ => rfl) (by assumption) rfl) ?_))
   refine AD1.rp rfl rfl rfl (fun _ _ h => h) (rp_move rfl rfl) ?_
   refine AD1.rp rfl rfl rfl (fun _ _ h => h) (rp_build (vs := [(0, _), (1, _)]) (zs := [.d (.p (.int .i64 0)), .d (.p (.slice none 0 0))]) pl52 inf52 rfl rfl rfl rfl) ?_
   refine AD1.go ?_
   refine AD2.sm rfl rfl (sm_slice (vs := [(0, _)]) (zs := [.d (.p (.int .i64 0)), .d (.p (.slice none 0 0))]) 58 Try.underlying22 inf52 rfl rfl (by decide) (by decide) (by decide) rfl rfl rfl rfl (by first | rfl | simp [S.clean, S.put, S.newObj, S.forget, V.has, V.hasL, junkIf, setL, V.cs, hasL_i, hasL_b, hasL_s, hasL_n, hasL_rep, hasL_flat, hasL_append, -List.map_set]) (by first | rfl | simp [S.clean, S.put, S.newObj, S.forget, V.has, V.hasL, junkIf, setL, V.cs, hasL_i, hasL_b, hasL_s, hasL_n, hasL_rep, hasL_flat, hasL_append, -List.map_set]) rfl) ?_
   refine AD2.go ?_
   refine AD3.st rfl rfl rfl (st_appendF Try.underlying22 inf52 rfl (by decide) rfl rfl rfl rfl rfl rfl (by first | assumption | rfl | (simp; done)) (by first | rfl | simp [S.clean, S.put, S.newObj, S.forget, V.has, V.hasL, junkIf, setL, V.cs, hasL_i, hasL_b, hasL_s, hasL_n, hasL_rep, hasL_flat, hasL_append, -List.map_set]) rfl rfl rfl rfl rfl (by first | rfl | simp [S.clean, S.put, S.newObj, S.forget, V.has, V.hasL, junkIf, setL, V.cs, hasL_i, hasL_b, hasL_s, hasL_n, hasL_rep, hasL_flat, hasL_append, -List.map_set]) rfl (by decide) (by omega) (by omega) rfl) ?_
   simp only [S.forget, S.put, S.newObj, junkIf, V.has, V.hasL, hasL_i, hasL_b, hasL_s, hasL_d, hasL_n, hasL_rep, hasL_flat, hasL_append, List.map_cons, List.map_nil, List.filter_cons, List.filter_nil, Nat.reduceBNe, Nat.reduceBEq, eq_self, bne_self_eq_false,  Bool.not_true, Bool.not_false, Bool.or_false, Bool.or_true, Bool.false_or, Bool.true_or, if_true, if_false, Bool.false_eq_true, ite_true, ite_false, ↓reduceIte, beq_self_eq_true, Nat.reduceEqDiff]
   (first | (refine AD3.rp1 rfl rfl rfl rfl (rp_field_ref Try.underlying24 rfl rfl rfl inf22 (by decide) rfl) ?_) | (refine AD3.rp1 rfl rfl rfl rfl (rp_field_ad Try.underlying24 rfl rfl rfl inf22 (by decide) rfl) ?_))
   (first | (refine AD3.st rfl rfl rfl (st_store_map2 inf22 rfl rfl rfl rfl rfl rfl rfl rfl (by first | assumption | omega)) ?_) | (refine AD3.st rfl rfl rfl (st_store inf22 rfl rfl rfl rfl rfl rfl rfl (by first | decide | (simp; done)) rfl) ?_))
   refine AD3.nil ?_
   try simp only [thenS, S.put, S.newObj, setL, V.cs, List.length_cons, List.length_nil, List.take_succ_cons, List.take_zero, List.drop_succ_cons, List.drop_zero, List.drop_nil, List.nil_append, List.cons_append, List.append_nil, Nat.zero_add, Nat.reduceAdd, List.map_cons, List.map_nil, List.set_cons_zero, List.set_cons_succ]
   refine AW.region ?_
   refine AL.rp rfl rfl (rp_move rfl rfl) ?_
   refine AL.rp rfl rfl (rp_add rfl rfl rfl (by first | omega | (dsimp only; omega))) ?_
   refine AL.rp rfl rfl (rp_assign rfl rfl) ?_
   refine AL.nil ?_
   try simp only [thenS, S.put]
   refine ⟨_, ?_, ⟨k + 1, P ++ [⟨x.fin, inL x.arcs⟩], by omega, by rw [hsn, List.map_append, hP]; rfl, by simp [hPl], rfl⟩, ?_⟩
   ·simp only [List.map_append, List.map_cons, List.map_nil, List.flatMap_append, List.flatMap_cons, List.flatMap_nil, List.append_nil]
    exact (Less.of rfl (by repeat (first | exact trivial | refine ⟨⟨_, rfl, Wk.refl _⟩, ?_⟩ | refine ⟨⟨_, rfl, Wk.nil _ _⟩, ?_⟩ | refine ⟨⟨_, rfl, Wk.junk _⟩, ?_⟩)) (by repeat (first | exact trivial | refine ⟨rfl, ?_⟩)) rfl)
   ·simp [S.nat, fnd]; omega
  ·obtain rfl : k = n := by omega
   rw [List.take_of_length_le (by omega)] at hP
   refine AW.seq ?_
   refine AW.seq ?_
   refine AW.region ?_
   refine AL.rp rfl rfl (rp_move rfl rfl) ?_
   (first | (refine AL.rp rfl rfl (rp_field_ref Try.underlying24 rfl rfl rfl inf22 (by decide) rfl) ?_) | (refine AL.rp rfl rfl (rp_field_ad Try.underlying24 rfl rfl rfl inf22 (by decide) rfl) ?_))
   (first | (refine AL.rd rfl rfl (rd_load_ref Try.underlying22 rfl rfl rfl rfl rfl rfl) ?_) | (refine AL.rd rfl rfl (rd_load_ad Try.underlying22 rfl rfl rfl rfl) ?_) | (refine AL.rd rfl rfl (rd_load_map Try.underlying22 rfl rfl rfl rfl rfl rfl (by assumption)) ?_) | (refine AL.rd rfl rfl (rd_load_flat Try.underlying22 rfl rfl rfl rfl rfl rfl (fun _ => rfl) (by assumption) rfl) ?_))
   (first | (refine AL.rp rfl rfl (rp_len_map Try.underlying22 rfl rfl (by assumption)) ?_) | (refine AL.rp rfl rfl (rp_len_own Try.underlying22 rfl rfl) ?_) | (refine AL.rp rfl rfl (rp_len_sl Try.underlying22 rfl rfl) ?_) | (refine AL.rp rfl rfl (rp_len_nil Try.underlying22 rfl rfl) ?_) | (refine AL.rp rfl rfl (rp_len_str Try.underlying22 rfl rfl) ?_))
   (first | (refine AL.rp rfl rfl (rp_lssT rfl rfl rfl (by first | assumption | omega | (dsimp only; omega))) ?_) | (refine AL.rp rfl rfl (rp_lssF rfl rfl rfl (by first | assumption | omega | (dsimp only; omega))) ?_) | (refine AL.rp rfl rfl (rp_lss rfl rfl rfl) ?_))
   refine AL.nil ?_
   try simp only [thenS, S.put]
   refine AW.condF rfl ?_
   refine AW.exit ?_
   try simp only [thenS, inBlockS, ↓reduceIte, Nat.reduceEqDiff]
   refine AW.seq ?_
   refine AW.freezeH 7 1 32 (P.map stD) rfl rfl rfl (by decide) rfl rfl (by rw [List.length_map, hPl]) (by omega) (rowsF (enc := stD) (sz := 2) (l := P) (fun _ => rfl) rfl) ?_
   refine AW.region ?_
   (first | (refine AL.rd rfl rfl (rd_loads_ref Try.underlying24 rfl inf24 rfl rfl rfl rfl rfl rfl) ?_) | (refine AL.rd rfl rfl (rd_loads_ad Try.underlying24 rfl inf24 rfl rfl rfl rfl) ?_))
   refine AL.st rfl (st_store_any inf24 rfl rfl rfl rfl rfl rfl rfl rfl (by first | decide | (simp; done) | (simp; omega)) rfl) ?_
   refine AL.rp rfl rfl (rp_assign rfl rfl) ?_
   refine AL.nil ?_
   try simp only [thenS, S.put, S.newObj, setL, V.cs, List.length_cons, List.length_nil, List.take_succ_cons, List.take_zero, List.drop_succ_cons, List.drop_zero, List.drop_nil, List.nil_append, List.cons_append, List.append_nil, Nat.zero_add, Nat.reduceAdd, List.map_cons, List.map_nil, List.set_cons_zero, List.set_cons_succ]
   refine AW.ret ?_
   exact ⟨[_, _], ⟨⟨4, 0, _, _, rfl, rfl, rfl, Try.underlying24, .inr ⟨rfl, _, _, _, _, inf24, rfl, rfl, rfl⟩⟩, rfl, trivial⟩, .inr ⟨rfl, by rw [hP]; rfl⟩, by simp [tupOf, V.pure, V.has, V.hasL]⟩
 ·obtain ⟨e, he⟩ : ∃ e, machE m = e := ⟨_, rfl⟩
  rw [he]
  rw [he] at h0
  obtain ⟨⟨st, sts⟩, rfl⟩ : ∃ m', m' = m := ⟨m, rfl⟩
  refine Fn.intro (n := 62) ⟨Try.func13, rfl, rfl, rfl, rfl⟩ (by simp [V.pure, V.has, V.hasL]) (by simp) fun w0 out => ?_
  refine AW.seq ?_
  refine AW.region ?_
  refine AL.sm rfl (sm_box 2 rfl rfl rfl (by first | rfl | simp [S.clean, S.put, S.newObj, S.forget, V.has, V.hasL, junkIf, setL, V.cs, hasL_i, hasL_b, hasL_s, hasL_n, hasL_rep, hasL_flat, hasL_append, -List.map_set]) rfl) ?_
  refine AL.sm rfl (sm_alloc (l := [.d (.p (.int .i64 0)), .d (.p (.slice none 0 0))]) 4 inf24 rfl (by first | rfl | simp [S.clean, S.put, S.newObj, S.forget, V.has, V.hasL, junkIf, setL, V.cs, hasL_i, hasL_b, hasL_s, hasL_n, hasL_rep, hasL_flat, hasL_append, -List.map_set]) rfl rfl) ?_
  refine AL.rp rfl rfl (rp_assign rfl rfl) ?_
  refine AL.nil ?_
  try simp only [thenS, S.put, S.newObj, setL, V.cs, List.length_cons, List.length_nil, List.take_succ_cons, List.take_zero, List.drop_succ_cons, List.drop_zero, List.drop_nil, List.nil_append, List.cons_append, List.append_nil, Nat.zero_add, Nat.reduceAdd, List.map_cons, List.map_nil, List.set_cons_zero, List.set_cons_succ, enum]
  refine AW.seq ?_
  refine AW.region ?_
  (first | (refine AL.rd rfl rfl (rd_loads_ref Try.underlying24 rfl inf24 rfl rfl rfl rfl rfl rfl) ?_) | (refine AL.rd rfl rfl (rd_loads_ad Try.underlying24 rfl inf24 rfl rfl rfl rfl) ?_))
  refine AL.call (post := ?pc21) rfl (sm_call (args := [_]) ?hc21 ⟨Try.func37, rfl, rfl, rfl, rfl⟩ rfl rfl rfl rfl) ?_
  case hc21 => exact Fn.eqi (am_Fault ⟨st, sts⟩) he
  rintro _ rfl -
  try dsimp only
  refine AL.rp rfl rfl (rp_assign rfl rfl) ?_
  refine AL.nil ?_
  try simp only [thenS, S.put, S.newObj, setL, V.cs, List.length_cons, List.length_nil, List.take_succ_cons, List.take_zero, List.drop_succ_cons, List.drop_zero, List.drop_nil, List.nil_append, List.cons_append, List.append_nil, Nat.zero_add, Nat.reduceAdd, List.map_cons, List.map_nil, List.set_cons_zero, List.set_cons_succ]
  refine AW.seq ?_
  refine AW.seq ?_
  refine AW.region ?_
  refine AL.rp rfl rfl (rp_move rfl rfl) ?_
  (first | (refine AL.rp rfl rfl (rp_neqT rfl rfl rfl (by first | assumption | omega | (dsimp only; omega))) ?_) | (refine AL.rp rfl rfl (rp_neqF rfl rfl rfl (by first | assumption | omega | (dsimp only; omega))) ?_) | (refine AL.rp rfl rfl (rp_neq rfl rfl rfl) ?_))
  refine AL.nil ?_
  try simp only [thenS, S.put]
  refine AW.condT rfl ?_
  refine AW.seq ?_
  refine AW.region ?_
  refine AL.rp rfl rfl (rp_build (vs := []) (zs := [.d (.p (.int .i64 0)), .d (.p (.slice none 0 0))]) pl24 inf24 rfl rfl rfl rfl) ?_
  refine AL.rp rfl rfl (rp_move rfl rfl) ?_
  refine AL.st rfl (st_store_any inf24 rfl rfl rfl rfl rfl rfl rfl rfl (by first | decide | (simp; done) | (simp; omega)) rfl) ?_
  refine AL.rp rfl rfl (rp_assign rfl rfl) ?_
  refine AL.nil ?_
  try simp only [thenS, S.put, S.newObj, setL, V.cs, List.length_cons, List.length_nil, List.take_succ_cons, List.take_zero, List.drop_succ_cons, List.drop_zero, List.drop_nil, List.nil_append, List.cons_append, List.append_nil, Nat.zero_add, Nat.reduceAdd, List.map_cons, List.map_nil, List.set_cons_zero, List.set_cons_succ]
  refine AW.ret ?_
  exact ⟨[_, _], ⟨⟨4, 0, _, _, rfl, rfl, rfl, Try.underlying24, .inr ⟨rfl, _, _, _, _, inf24, rfl, rfl, rfl⟩⟩, rfl, trivial⟩, .inl ⟨h0, rfl⟩, by simp [tupOf, V.pure, V.has, V.hasL]⟩
theorem am_ArrF (m : Mach) : Fn Try.prog 13 [mV m, .i 2] (fun v => v = .tup [mV (resM inL m), .i (machE m)]) := (am_Arranged2 m).wkS (resP_wk fun h => by unfold resM; rw [if_neg h])
end Go.Proofs.Ytjbldphpkkmdpaa
