/- Texts of this claim, one behind the other: the functions, and that the machine does what they say. -/
import Derived.Test.YtejkoahgmnejkaaDoorRx1
import Derived.Test.YtejkoahgmnejkaaDoorRx2
import Derived.Test.YtejkoahgmnejkaaDoorRx3
import Derived.Test.YtejkoahgmnejkaaDoorRx0
import Derived.Test.YtejkoahgmnejkaaDoorRun2
import Derived.Laws.BitsLemmas
import Derived.ArgAppend
import Derived.Lib.AppendStr
set_option linter.constructorNameAsVariable false
set_option linter.unusedSimpArgs false
set_option linter.unusedVariables false
set_option linter.unusedSectionVars false
namespace Go.Proofs.YtejkoahgmnejkaaDoor.F
open Go Go.RowKit Go.Proofs.YtejkoahgmnejkaaDoorW.PrintWords
open Go.Rk hiding Rd
open Go.Proofs.Tryd
set_option linter.unusedVariables false
set_option linter.unusedSimpArgs false
set_option maxRecDepth 100000
set_option maxHeartbeats 8000000
theorem gimballaw19_Upper.does_l {a0 : Int} {l1 : List Int} {a2 : Int} (k : Nat) : (∀ (n_0 : Int) (all_1 : List Int) (ups_2 i_8 h0_0 h1_0 h1_1 h1_2 : Int) (h2 : List Int) (r : Int × Int × Int × (List Int)), gimballaw19_Upper.l0 k n_0 all_1 ups_2 i_8 h1_0 h1_1 h1_2 h2 = some r → wk_ E0 (gimballaw19_Upper.Q a0 l1 a2 r) (frs (bodyOf Tryd.f6) [1, 1, 0, 1, 0] []) (sub (bodyOf Tryd.f6) [1, 1, 0, 1, 0]) ⟨.i .i64 n_0 :: .r (all_1.map (V.i .u64)) all_1.length true :: .i .u64 ups_2 :: u_ 3 (.p (some (0, 0)) :: .p (some (1, 0)) :: .i .i64 i_8 :: u_ 107 ([])), ofL [.row [.i .i64 h0_0, .i .i64 h0_0, .i .i64 h0_0, .s none 0] 0 0 true true none, .row [.i .i64 h1_0, .i .i64 h1_1, .i .i64 h1_2, .s (some (2, 0)) h2.length] 0 0 true true none, .row (h2.map (V.i .u64)) 2 1 true true none], 3, 0⟩) ∧
    (∀ (n_0 : Int) (all_1 : List Int) (ups_2 i_8 k_9 h0_0 h1_0 h1_1 h1_2 : Int) (h2 : List Int) (r : Int × Int × Int × (List Int)), gimballaw19_Upper.l1 k n_0 all_1 ups_2 i_8 k_9 h1_0 h1_1 h1_2 h2 = some r → wk_ E0 (gimballaw19_Upper.Q a0 l1 a2 r) (frs (bodyOf Tryd.f6) [1, 1, 0, 1, 0, 0, 1, 0, 0, 1, 0] []) (sub (bodyOf Tryd.f6) [1, 1, 0, 1, 0, 0, 1, 0, 0, 1, 0]) ⟨.i .i64 n_0 :: .r (all_1.map (V.i .u64)) all_1.length true :: .i .u64 ups_2 :: u_ 3 (.p (some (0, 0)) :: .p (some (1, 0)) :: .i .i64 i_8 :: .i .i64 k_9 :: u_ 106 ([])), ofL [.row [.i .i64 h0_0, .i .i64 h0_0, .i .i64 h0_0, .s none 0] 0 0 true true none, .row [.i .i64 h1_0, .i .i64 h1_1, .i .i64 h1_2, .s (some (2, 0)) h2.length] 0 0 true true none, .row (h2.map (V.i .u64)) 2 1 true true none], 3, 0⟩) ∧
    (∀ (n_0 : Int) (all_1 : List Int) (ups_2 i_10 h0_0 h1_0 h1_1 h1_2 : Int) (h2 : List Int) (r : Int × Int × Int × (List Int)), gimballaw19_Upper.l2 k n_0 all_1 ups_2 i_10 h1_0 h1_1 h1_2 h2 = some r → wk_ E0 (gimballaw19_Upper.Q a0 l1 a2 r) (frs (bodyOf Tryd.f6) [1, 1, 1, 0, 1, 0] []) (sub (bodyOf Tryd.f6) [1, 1, 1, 0, 1, 0]) ⟨.i .i64 n_0 :: .r (all_1.map (V.i .u64)) all_1.length true :: .i .u64 ups_2 :: u_ 3 (.p (some (0, 0)) :: .p (some (1, 0)) :: .u :: .u :: .i .i64 i_10 :: u_ 105 ([])), ofL [.row [.i .i64 h0_0, .i .i64 h0_0, .i .i64 h0_0, .s none 0] 0 0 true true none, .row [.i .i64 h1_0, .i .i64 h1_1, .i .i64 h1_2, .s (some (2, 0)) h2.length] 0 0 true true none, .row (h2.map (V.i .u64)) 2 1 true true none], 3, 0⟩) ∧
    (∀ (n_0 : Int) (all_1 : List Int) (ups_2 i_10 b_11 : Int) (t_72 : Bool) (h0_0 h1_0 h1_1 h1_2 : Int) (h2 : List Int) (r : Int × Int × Int × (List Int)), gimballaw19_Upper.j3 k n_0 all_1 ups_2 i_10 b_11 t_72 h1_0 h1_1 h1_2 h2 = some r → kont E0 (gimballaw19_Upper.Q a0 l1 a2 r) (frs (bodyOf Tryd.f6) [1, 1, 1, 0, 1, 0, 0, 1, 0, 0, 1, 0] []) .normal ⟨.i .i64 n_0 :: .r (all_1.map (V.i .u64)) all_1.length true :: .i .u64 ups_2 :: u_ 3 (.p (some (0, 0)) :: .p (some (1, 0)) :: .u :: .u :: .i .i64 i_10 :: .i .u64 b_11 :: u_ 60 (.b t_72 :: u_ 43 ([]))), ofL [.row [.i .i64 h0_0, .i .i64 h0_0, .i .i64 h0_0, .s none 0] 0 0 true true none, .row [.i .i64 h1_0, .i .i64 h1_1, .i .i64 h1_2, .s (some (2, 0)) h2.length] 0 0 true true none, .row (h2.map (V.i .u64)) 2 1 true true none], 3, 0⟩) ∧
    (∀ (n_0 : Int) (all_1 : List Int) (ups_2 i_10 b_11 c_12 : Int) (t_96 : Bool) (h0_0 h1_0 h1_1 h1_2 : Int) (h2 : List Int) (r : Int × Int × Int × (List Int)), gimballaw19_Upper.j4 k n_0 all_1 ups_2 i_10 b_11 c_12 t_96 h1_0 h1_1 h1_2 h2 = some r → kont E0 (gimballaw19_Upper.Q a0 l1 a2 r) (frs (bodyOf Tryd.f6) [1, 1, 1, 0, 1, 0, 0, 1, 0, 0, 1, 1, 0, 1, 1, 0, 0] []) .normal ⟨.i .i64 n_0 :: .r (all_1.map (V.i .u64)) all_1.length true :: .i .u64 ups_2 :: u_ 3 (.p (some (0, 0)) :: .p (some (1, 0)) :: .u :: .u :: .i .i64 i_10 :: .i .u64 b_11 :: .i .u64 c_12 :: u_ 83 (.b t_96 :: u_ 19 ([]))), ofL [.row [.i .i64 h0_0, .i .i64 h0_0, .i .i64 h0_0, .s none 0] 0 0 true true none, .row [.i .i64 h1_0, .i .i64 h1_1, .i .i64 h1_2, .s (some (2, 0)) h2.length] 0 0 true true none, .row (h2.map (V.i .u64)) 2 1 true true none], 3, 0⟩) := by
 induction k with
 | zero => exact ⟨by intros; simp [gimballaw19_Upper.l0] at *, by intros; simp [gimballaw19_Upper.l1] at *, by intros; simp [gimballaw19_Upper.l2] at *, by intros; simp [gimballaw19_Upper.j3] at *, by intros; simp [gimballaw19_Upper.j4] at *⟩
 | succ k ih =>
  obtain ⟨ih0, ih1, ih2, ih3, ih4⟩ := ih
  refine ⟨?_, ?_, ?_, ?_, ?_⟩
  ·intro n_0 all_1 ups_2 i_8 h0_0 h1_0 h1_1 h1_2 h2 r H; unfold gimballaw19_Upper.l0 at H; refine fb ?_; refine w_loop ?_; refine w_seq ?_; refine sr fun K hK => ?_; refine o_ ?_; refine nk hK ?_; rcases its H with ⟨c2, H⟩ | ⟨c2, H⟩
   ·refine dT c2 ?_; refine wT ?_; refine sk ?_; refine w_seq ?_; refine w_block ?_; refine sr fun K hK => ?_; refine o_ ?_; refine nk hK ?_; refine w_block ?_; refine ww [0, 1, 2] [0, 0, 0, 3, 0, 0, 0] ?_; exact gi (ih1 n_0 all_1 ups_2 i_8 i_8 h0_0 h1_0 h1_1 h1_2 h2 r H)
   ·refine dF c2 ?_; refine wF ?_; refine w_exit rfl ?_; refine k_seq ?_; refine w_seq ?_; refine sr fun K hK => ?_; refine o_ ?_; refine nk hK ?_; refine w_block ?_; refine ww [0, 1, 2] [0, 0, 0, 3, 0, 2] ?_; exact gi (ih2 n_0 all_1 ups_2 0 h0_0 h1_0 h1_1 h1_2 h2 r H)
  ·intro n_0 all_1 ups_2 i_8 k_9 h0_0 h1_0 h1_1 h1_2 h2 r H; unfold gimballaw19_Upper.l1 at H; refine fb ?_; refine w_loop ?_; refine w_seq ?_; refine sr fun K hK => ?_; refine o_ ?_; refine nk hK ?_; rcases its H with ⟨c3, H⟩ | ⟨c3, H⟩
   ·refine dT c3 ?_; refine wT ?_; refine sk ?_; refine w_seq ?_; refine w_block ?_; refine sr fun K hK => ?_; refine o_ ?_; refine g_len_r rfl rfl Tryd.underlying22 rfl (gT ?_); refine o_ ?_; refine nk hK ?_; rcases its H with ⟨c4, H⟩ | ⟨c4, H⟩
    ·refine dT c4 ?_; refine wT ?_; refine wD fun K hK => ?_; refine o_ ?_; refine g_len_r rfl rfl Tryd.underlying22 rfl (gT ?_); obtain ⟨c5, H⟩ := it0 H; refine g_rem rfl rfl rfl rfl ao_ (gT ?_); obtain ⟨c6, H⟩ := it1 H; obtain ⟨c7, H⟩ := it1 H; refine g_ixr rfl rfl Tryd.underlying22 sz27 rfl rfl ao_ al_ (gT ?_); refine g_ldq rfl rfl ag27 sz27 rfl ao_ (gT ?_); obtain ⟨q8, hq8, H⟩ := bnd H
     have zq8_0 := mat_Matrix_Set.len hq8; (try simp only [List.length_set, List.length_replicate, List.length_append, List.length_cons, List.length_nil, Nat.zero_add] at zq8_0); refine cz [2] func21 (mat_Matrix_Set.does hq8) zq8_0.symm ?_; refine g_nil (hK _ _ _ (by kernel_rfl) ?_); refine k_block ?_; refine k_seq ?_; refine wR fun K hK => ?_; refine o_ ?_; refine nl hK ?_; refine k_loop ?_
     refine ww [0, 1, 2] [0, 0, 0, 3, 0, 0, 0] ?_; exact gi (ih1 n_0 all_1 ups_2 i_8 (wrap64 (k_9 + 1)) h0_0 h1_0 h1_1 h1_2 q8 r H)
    ·refine dF c4 ?_; refine wF ?_; refine w_skip ?_; refine k_block ?_; refine k_seq ?_; refine wR fun K hK => ?_; refine o_ ?_; refine nl hK ?_; refine k_loop ?_; refine ww [0, 1, 2] [0, 0, 0, 3, 0, 0, 0] ?_; exact gi (ih1 n_0 all_1 ups_2 i_8 (wrap64 (k_9 + 1)) h0_0 h1_0 h1_1 h1_2 h2 r H)
   ·refine dF c3 ?_; refine wF ?_; refine w_exit rfl ?_; refine k_block ?_; refine k_seq ?_; refine wR fun K hK => ?_; refine o_ ?_; refine nl hK ?_; refine k_loop ?_; refine ww [0, 1, 2] [0, 0, 0, 3, 0, 0] ?_; exact gi (ih0 n_0 all_1 ups_2 (wrap64 (i_8 + 1)) h0_0 h1_0 h1_1 h1_2 h2 r H)
  ·intro n_0 all_1 ups_2 i_10 h0_0 h1_0 h1_1 h1_2 h2 r H; unfold gimballaw19_Upper.l2 at H; refine fb ?_; refine w_loop ?_; refine w_seq ?_; refine sr fun K hK => ?_; refine o_ ?_; refine nk hK ?_; rcases its H with ⟨c9, H⟩ | ⟨c9, H⟩
   ·refine dT c9 ?_; refine wT ?_; refine sk ?_; refine w_seq ?_; refine w_block ?_; refine sr fun K hK => ?_; refine o_ ?_; obtain ⟨q10, hq10, H⟩ := bnd H; refine cs [] func15 (mat_Matrix_At.does hq10) ?_; refine o_ ?_; refine nksr hK fun K hK => ?_; refine o_ ?_; refine g_conv rfl rfl Tryd.underlying3 Tryd.underlying51 rfl (gT ?_); obtain ⟨c11, H⟩ := it1 H
    refine g_shr rfl rfl rfl rfl (by omega) (gT ?_); refine o_ ?_; rcases its H with ⟨c12, H⟩ | ⟨c12, H⟩
    ·refine dE c12 ?_; refine o_ ?_; obtain ⟨q13, hq13, H⟩ := bnd H; refine cs [] func22 (word_Abs.does hq13) ?_; refine o_ ?_; rcases its H with ⟨c14, H⟩ | ⟨c14, H⟩
     ·refine dE c14 ?_; refine o_ ?_; refine nl hK ?_; refine kw [0, 1, 2] [0, 0, 0, 3, 0, 2, 0, 60] ?_; exact gi (ih3 n_0 all_1 ups_2 i_10 q10 false h0_0 h1_0 h1_1 h1_2 h2 r H)
     ·refine dN c14 ?_; refine o_ ?_; obtain ⟨q15, hq15, H⟩ := bnd H; refine cs [] func23 (word_Kind.does hq15) ?_; refine o_ ?_; refine nl hK ?_; refine kw [0, 1, 2] [0, 0, 0, 3, 0, 2, 0, 60] ?_; exact gi (ih3 n_0 all_1 ups_2 i_10 q10 (q15 != 5) h0_0 h1_0 h1_1 h1_2 h2 r H)
    ·refine dN c12 ?_; refine o_ ?_; refine nl hK ?_; refine kw [0, 1, 2] [0, 0, 0, 3, 0, 2, 0, 60] ?_; exact gi (ih3 n_0 all_1 ups_2 i_10 q10 false h0_0 h1_0 h1_1 h1_2 h2 r H)
   ·refine dF c9 ?_; refine wF ?_; refine w_exit rfl ?_; refine ksr fun K hK => ?_; refine o_ ?_; refine nkt hK ?_; rw [← Option.some.inj H]; exact fw [2]
  ·intro n_0 all_1 ups_2 i_10 b_11 t_72 h0_0 h1_0 h1_1 h1_2 h2 r H; unfold gimballaw19_Upper.j3 at H; refine fb ?_; refine k_seq ?_; rcases its H with ⟨c16, H⟩ | ⟨c16, H⟩
   ·refine dV c16 ?_; refine wT ?_; refine w_seq ?_; refine wD fun K hK => ?_; refine o_ ?_; obtain ⟨q17, hq17, H⟩ := bnd H; refine cs [] func15 (mat_Matrix_At.does hq17) ?_; obtain ⟨q18, hq18, H⟩ := bnd H; have zq18_0 := mat_Matrix_Set.len hq18; (try simp only [List.length_set, List.length_replicate, List.length_append, List.length_cons, List.length_nil, Nat.zero_add] at zq18_0)
    refine cz [2] func21 (mat_Matrix_Set.does hq18) zq18_0.symm ?_; refine g_nil (hK _ _ _ (by kernel_rfl) ?_); refine ksr fun K hK => ?_; refine o_ ?_; refine nk hK ?_; refine w_seq ?_; refine sr fun K hK => ?_; refine o_ ?_; refine g_len_r rfl rfl Tryd.underlying22 rfl (gT ?_); refine o_ ?_; rcases its H with ⟨c19, H⟩ | ⟨c19, H⟩
    ·refine dT c19 ?_; refine o_ ?_; refine g_len_r rfl rfl Tryd.underlying22 rfl (gT ?_); obtain ⟨c20, H⟩ := it0 H; refine g_rem rfl rfl rfl rfl ao_ (gT ?_); obtain ⟨c21, H⟩ := it1 H; obtain ⟨c22, H⟩ := it1 H; refine g_ixr rfl rfl Tryd.underlying22 sz27 rfl rfl ao_ al_ (gT ?_); refine g_ldq rfl rfl ag27 sz27 rfl ao_ (gT ?_); obtain ⟨q23, hq23, H⟩ := bnd H; refine cs [] func22 (word_Abs.does hq23) ?_
     refine o_ ?_; refine nl hK ?_; refine kw [0, 1, 2] [0, 0, 0, 3, 0, 2, 0, 0, 83] ?_; exact gi (ih4 n_0 all_1 ups_2 i_10 b_11 4607182418800017408 (q23 != 0) h0_0 h1_0 h1_1 h1_2 q18 r H)
    ·refine dF c19 ?_; refine o_ ?_; refine nl hK ?_; refine kw [0, 1, 2] [0, 0, 0, 3, 0, 2, 0, 0, 83] ?_; exact gi (ih4 n_0 all_1 ups_2 i_10 b_11 4607182418800017408 false h0_0 h1_0 h1_1 h1_2 q18 r H)
   ·refine dW c16 ?_; refine wF ?_; refine w_skip ?_; refine k_block ?_; refine k_seq ?_; refine wR fun K hK => ?_; refine o_ ?_; refine nl hK ?_; refine k_loop ?_; refine ww [0, 1, 2] [0, 0, 0, 3, 0, 2] ?_; exact gi (ih2 n_0 all_1 ups_2 (wrap64 (i_10 + 1)) h0_0 h1_0 h1_1 h1_2 h2 r H)
  ·intro n_0 all_1 ups_2 i_10 b_11 c_12 t_96 h0_0 h1_0 h1_1 h1_2 h2 r H; unfold gimballaw19_Upper.j4 at H; refine fb ?_; refine k_seq ?_; rcases its H with ⟨c24, H⟩ | ⟨c24, H⟩
   ·refine dV c24 ?_; refine wT ?_; refine wR fun K hK => ?_; refine o_ ?_; refine g_len_r rfl rfl Tryd.underlying22 rfl (gT ?_); obtain ⟨c25, H⟩ := it0 H; refine g_rem rfl rfl rfl rfl ao_ (gT ?_); obtain ⟨c26, H⟩ := it1 H; obtain ⟨c27, H⟩ := it1 H; refine g_ixr rfl rfl Tryd.underlying22 sz27 rfl rfl ao_ al_ (gT ?_); refine g_ldq rfl rfl ag27 sz27 rfl ao_ (gT ?_); refine o_ ?_; refine nk hK ?_
    refine w_seq ?_; refine wD fun K hK => ?_; refine o_ ?_; obtain ⟨q28, hq28, H⟩ := bnd H; refine cs [] func25 (word_Sign.does hq28) ?_; obtain ⟨q29, hq29, H⟩ := bnd H; refine cs [] func24 (word_Flip.does hq29) ?_; obtain ⟨q30, hq30, H⟩ := bnd H; have zq30_0 := mat_Matrix_Set.len hq30
    (try simp only [List.length_set, List.length_replicate, List.length_append, List.length_cons, List.length_nil, Nat.zero_add] at zq30_0); refine cz [2] func21 (mat_Matrix_Set.does hq30) zq30_0.symm ?_; refine g_nil (hK _ _ _ (by kernel_rfl) ?_); refine k_seq ?_; refine wR fun K hK => ?_; refine o_ ?_; refine nl hK ?_; refine k_block ?_; refine k_seq ?_; refine wR fun K hK => ?_; refine o_ ?_
    refine nl hK ?_; refine k_loop ?_; refine ww [0, 1, 2] [0, 0, 0, 3, 0, 2] ?_; exact gi (ih2 n_0 all_1 ups_2 (wrap64 ((wrap64 (i_10 + 1)) + 1)) h0_0 h1_0 h1_1 h1_2 q30 r H)
   ·refine dW c24 ?_; refine wF ?_; refine sk ?_; refine w_seq ?_; refine wD fun K hK => ?_; refine o_ ?_; obtain ⟨q31, hq31, H⟩ := bnd H; refine cs [] func25 (word_Sign.does hq31) ?_; obtain ⟨q32, hq32, H⟩ := bnd H; refine cs [] func24 (word_Flip.does hq32) ?_; obtain ⟨q33, hq33, H⟩ := bnd H; have zq33_0 := mat_Matrix_Set.len hq33
    (try simp only [List.length_set, List.length_replicate, List.length_append, List.length_cons, List.length_nil, Nat.zero_add] at zq33_0); refine cz [2] func21 (mat_Matrix_Set.does hq33) zq33_0.symm ?_; refine g_nil (hK _ _ _ (by kernel_rfl) ?_); refine k_seq ?_; refine wR fun K hK => ?_; refine o_ ?_; refine nl hK ?_; refine k_block ?_; refine k_seq ?_; refine wR fun K hK => ?_; refine o_ ?_
    refine nl hK ?_; refine k_loop ?_; refine ww [0, 1, 2] [0, 0, 0, 3, 0, 2] ?_; exact gi (ih2 n_0 all_1 ups_2 (wrap64 ((wrap64 (i_10 + 1)) + 1)) h0_0 h1_0 h1_1 h1_2 q33 r H)
theorem gimballaw19_Upper.does {k : Nat} {a0 : Int} {l1 : List Int} {a2 : Int} {r : Int × Int × Int × (List Int)} (H : gimballaw19_Upper.f k a0 l1 a2 = some r) : Do E0 (.fn 6 [.i .i64 a0, .r (l1.map (V.i .u64)) l1.length true, .i .u64 a2] [] (.a [.i .i64 r.1, .i .i64 r.2.1, .i .i64 r.2.2.1, .s (some (0, 0)) r.2.2.2.length]) [.row (r.2.2.2.map (V.i .u64)) 2 1 true true none]) := by
 obtain ⟨ih0, ih1, ih2, ih3, ih4⟩ := @gimballaw19_Upper.does_l a0 l1 a2 k; refine fnw ((gimballaw19_Upper.Q a0 l1 a2 r)) func6 ntmps6 ?_; unfold gimballaw19_Upper.f at H; refine sr fun K hK => ?_; refine o_ ?_; refine nksr hK fun K hK => ?_; refine o_ ?_; obtain ⟨q1, hq1, H⟩ := bnd H; refine cs [] func20 (mat_New.does hq1) ?_; refine o_ ?_; refine nk hK ?_; refine w_seq ?_; refine sr fun K hK => ?_
 refine o_ ?_; refine nk hK ?_; refine w_block ?_; refine ww [0, 16, 12] [0, 0, 0, 3, 0, 0] ?_; exact gi (ih0 a0 l1 a2 0 0 q1.1 q1.2.1 q1.2.2.1 q1.2.2.2 r H)
theorem gimballaw21_made.does_l {a0 a1 : Int} {l2 : List Int} {a3 : Int} (k : Nat) : (∀ (all_2 : List Int) (from_3 t_16 t_17 h0_0 h1_0 h1_1 h1_2 : Int) (h2 : List Int) (r : Int × Int × Int × (List Int)), gimballaw21_made.l0 k all_2 from_3 t_16 t_17 h1_0 h1_1 h1_2 h2 = some r → wk_ E0 (gimballaw21_made.Q a0 a1 l2 a3 r) (frs (bodyOf Tryd.f7) [1, 1, 0, 1, 0] []) (sub (bodyOf Tryd.f7) [1, 1, 0, 1, 0]) ⟨.u :: .u :: .r (all_2.map (V.i .u64)) all_2.length true :: .i .i64 from_3 :: u_ 4 (.p (some (0, 0)) :: .p (some (1, 0)) :: u_ 6 (.i .i64 t_16 :: .i .i64 t_17 :: u_ 20 ([]))), ofL [.row [.i .i64 h0_0, .i .i64 h0_0, .i .i64 h0_0, .s none 0] 0 0 true true none, .row [.i .i64 h1_0, .i .i64 h1_1, .i .i64 h1_2, .s (some (2, 0)) h2.length] 0 0 true true none, .row (h2.map (V.i .u64)) 2 1 true true none], 3, 0⟩) := by
 induction k with
 | zero => exact by intros; simp [gimballaw21_made.l0] at *
 | succ k ih =>
  have ih0 := ih
  refine ?_
  ·intro all_2 from_3 t_16 t_17 h0_0 h1_0 h1_1 h1_2 h2 r H; unfold gimballaw21_made.l0 at H; refine fb ?_; refine w_loop ?_; refine sr fun K hK => ?_; refine o_ ?_; refine nk hK ?_; refine w_seq ?_; rcases its H with ⟨c2, H⟩ | ⟨c2, H⟩
   ·refine dT c2 ?_; refine wT ?_; refine sk ?_; refine w_seq ?_; refine w_block ?_; refine sr fun K hK => ?_; refine o_ ?_; refine nksr hK fun K hK => ?_; refine o_ ?_; refine g_len_r rfl rfl Tryd.underlying22 rfl (gT ?_); refine o_ ?_; refine nk hK ?_; rcases its H with ⟨c3, H⟩ | ⟨c3, H⟩
    ·refine dT c3 ?_; refine wT ?_; refine wD fun K hK => ?_; refine o_ ?_; refine g_len_r rfl rfl Tryd.underlying22 rfl (gT ?_); obtain ⟨c4, H⟩ := it0 H; refine g_rem rfl rfl rfl rfl ao_ (gT ?_); obtain ⟨c5, H⟩ := it1 H; obtain ⟨c6, H⟩ := it1 H; refine g_ixr rfl rfl Tryd.underlying22 sz27 rfl rfl ao_ al_ (gT ?_); refine g_ldq rfl rfl ag27 sz27 rfl ao_ (gT ?_); obtain ⟨c7, H⟩ := it1 H
     obtain ⟨c8, H⟩ := it1 H; refine g_ixo rfl rfl Tryd.underlying22 sz27 rfl rfl ao_ al_ (gT ?_); refine g_st rfl rfl sz27 rfl rfl rfl (by rfl) am_ (gU ?_); refine g_nil (hK _ _ _ (by kernel_rfl) ?_); refine k_block ?_; refine k_seq ?_; refine wR fun K hK => ?_; refine o_ ?_; refine nl hK ?_; refine k_loop ?_; refine ww [0, 1, 2] [2, 0, 4, 0, 6, 0] ?_
     exact gi (ih0 all_2 from_3 t_16 (wrap64 (t_17 + 1)) h0_0 h1_0 h1_1 h1_2 (h2.set t_17.toNat (rd all_2 (Int.tmod (wrap64 (t_17 + from_3)) (all_2.length : Int)))) r H)
    ·refine dF c3 ?_; refine wF ?_; refine w_skip ?_; refine k_block ?_; refine k_seq ?_; refine wR fun K hK => ?_; refine o_ ?_; refine nl hK ?_; refine k_loop ?_; refine ww [0, 1, 2] [2, 0, 4, 0, 6, 0] ?_; exact gi (ih0 all_2 from_3 t_16 (wrap64 (t_17 + 1)) h0_0 h1_0 h1_1 h1_2 h2 r H)
   ·refine dF c2 ?_; refine wF ?_; refine w_exit rfl ?_; refine ksr fun K hK => ?_; refine o_ ?_; refine nkt hK ?_; rw [← Option.some.inj H]; exact fw [2]
theorem gimballaw21_made.does {k : Nat} {a0 a1 : Int} {l2 : List Int} {a3 : Int} {r : Int × Int × Int × (List Int)} (H : gimballaw21_made.f k a0 a1 l2 a3 = some r) : Do E0 (.fn 7 [.i .i64 a0, .i .i64 a1, .r (l2.map (V.i .u64)) l2.length true, .i .i64 a3] [] (.a [.i .i64 r.1, .i .i64 r.2.1, .i .i64 r.2.2.1, .s (some (0, 0)) r.2.2.2.length]) [.row (r.2.2.2.map (V.i .u64)) 2 1 true true none]) := by
 obtain ih0 := @gimballaw21_made.does_l a0 a1 l2 a3 k; refine fnw ((gimballaw21_made.Q a0 a1 l2 a3 r)) func7 ntmps7 ?_; unfold gimballaw21_made.f at H; refine sr fun K hK => ?_; refine o_ ?_; refine nksr hK fun K hK => ?_; refine o_ ?_; obtain ⟨q1, hq1, H⟩ := bnd H; refine cs [] func20 (mat_New.does hq1) ?_; refine o_ ?_; refine nk hK ?_; refine w_seq ?_; refine sr fun K hK => ?_; refine o_ ?_
 refine g_len_s rfl rfl Tryd.underlying22 rfl (gT ?_); refine o_ ?_; refine nk hK ?_; refine w_block ?_; refine ww [0, 16, 12] [2, 0, 4, 0, 6, 0] ?_; exact gi (ih0 l2 a3 (q1.2.2.2.length : Int) 0 0 q1.1 q1.2.1 q1.2.2.1 q1.2.2.2 r H)
theorem gimballaw21_SylvShapes.does_l {a0 a1 a2 a3 : Int} {l4 : List Int} (k : Nat) : (∀ (q_1 : Int) (x_4 : List Int) (e_15 : Int) (t_57 : Bool) (h0_0 h0_1 h0_2 h1_0 h1_1 h1_2 h2_0 h2_1 h2_2 : Int) (h3 h4 h5 : List Int) (r : Bool), gimballaw21_SylvShapes.j0 k q_1 x_4 e_15 t_57 h0_0 h0_1 h0_2 h1_0 h1_1 h1_2 h2_0 h2_1 h2_2 h3 h4 h5 = some r → kont E0 (gimballaw21_SylvShapes.Q a0 a1 a2 a3 l4 r) (frs (bodyOf Tryd.f3) [1, 1, 1, 1, 1, 1, 1, 0, 0] []) .normal ⟨.u :: .i .i64 q_1 :: .u :: .u :: .r (x_4.map (V.i .u64)) x_4.length true :: u_ 6 (.p (some (0, 0)) :: .p (some (1, 0)) :: .p (some (2, 0)) :: .u :: .i .i64 e_15 :: u_ 41 (.b t_57 :: u_ 27 ([]))), ofL [.row [.i .i64 h0_0, .i .i64 h0_1, .i .i64 h0_2, .s (some (3, 0)) h3.length] 0 0 true true none, .row [.i .i64 h1_0, .i .i64 h1_1, .i .i64 h1_2, .s (some (4, 0)) h4.length] 0 0 true true none, .row [.i .i64 h2_0, .i .i64 h2_1, .i .i64 h2_2, .s (some (5, 0)) h5.length] 0 0 true true none, .row (h3.map (V.i .u64)) 2 1 true true none, .row (h4.map (V.i .u64)) 2 1 true true none, .row (h5.map (V.i .u64)) 2 1 true true none], 6, 0⟩) := by
 induction k with
 | zero => exact by intros; simp [gimballaw21_SylvShapes.j0] at *
 | succ k ih =>
  have ih0 := ih
  refine ?_
  ·intro q_1 x_4 e_15 t_57 h0_0 h0_1 h0_2 h1_0 h1_1 h1_2 h2_0 h2_1 h2_2 h3 h4 h5 r H; unfold gimballaw21_SylvShapes.j0 at H; refine fb ?_; refine k_seq ?_; rcases its H with ⟨c8, H⟩ | ⟨c8, H⟩
   ·refine dV c8 ?_; refine wT ?_; refine sr fun K hK => ?_; refine o_ ?_; refine nkt hK ?_; rw [← Option.some.inj H]; exact fw []
   ·refine dW c8 ?_; refine wF ?_; refine sk ?_; refine sr fun K hK => ?_; refine o_ ?_; refine nksr hK fun K hK => ?_; refine o_ ?_; obtain ⟨q9, hq9, H⟩ := bnd H; obtain ⟨zq9_0, zq9_1, zq9_2⟩ := sylv_Solve.len hq9; (try simp only [List.length_set, List.length_replicate, List.length_append, List.length_cons, List.length_nil, Nat.zero_add] at zq9_0 zq9_1 zq9_2)
    refine cz [3, 4, 5] func8 (sylv_Solve.does hq9) (And.intro zq9_0.symm (And.intro zq9_1.symm zq9_2.symm)) ?_; refine o_ ?_; refine nk hK ?_; refine w_seq ?_; refine wD fun K hK => ?_; refine o_ ?_; obtain ⟨q10, hq10, H⟩ := bnd H; refine cs [] func7 (gimballaw21_made.does hq10) ?_; refine o_ ?_; obtain ⟨q11, hq11, H⟩ := bnd H; refine cs [] func7 (gimballaw21_made.does hq11) ?_
    obtain ⟨q12, hq12, H⟩ := bnd H; obtain ⟨zq12_0, zq12_1, zq12_2⟩ := sylv_Solve.len hq12; (try simp only [List.length_set, List.length_replicate, List.length_append, List.length_cons, List.length_nil, Nat.zero_add] at zq12_0 zq12_1 zq12_2); refine cz [58, 4, 78] func8 (sylv_Solve.does hq12) (And.intro zq12_0.symm (And.intro zq12_1.symm zq12_2.symm)) ?_; refine o_ ?_
    refine g_nil (hK _ _ _ (by kernel_rfl) ?_); refine ksr fun K hK => ?_; refine o_ ?_; rcases its H with ⟨c13, H⟩ | ⟨c13, H⟩
    ·refine dE c13 ?_; refine o_ ?_; refine nkt hK ?_; rw [← Option.some.inj H]; exact fw []
    ·refine dN c13 ?_; refine o_ ?_; refine nkt hK ?_; rw [← Option.some.inj H]; exact fw []
theorem gimballaw21_SylvShapes.does {k : Nat} {a0 a1 a2 a3 : Int} {l4 : List Int} {r : Bool} (H : gimballaw21_SylvShapes.f k a0 a1 a2 a3 l4 = some r) : Do E0 (.fn 3 [.i .i64 a0, .i .i64 a1, .i .i64 a2, .i .i64 a3, .r (l4.map (V.i .u64)) l4.length true] [] (.b r) []) := by
 obtain ih0 := @gimballaw21_SylvShapes.does_l a0 a1 a2 a3 l4 k; refine fnw ((gimballaw21_SylvShapes.Q a0 a1 a2 a3 l4 r)) func3 ntmps3 ?_; unfold gimballaw21_SylvShapes.f at H; refine sr fun K hK => ?_; refine o_ ?_; refine nk hK ?_; refine w_seq ?_; refine sr fun K hK => ?_; obtain ⟨q1, hq1, H⟩ := bnd H; refine cs [] func5 (gimballaw21_head_ok.does hq1) ?_; refine o_ ?_; refine nk hK ?_; refine wF ?_
 refine sk ?_; refine w_seq ?_; refine sr fun K hK => ?_; refine o_ ?_; refine g_len_r rfl rfl Tryd.underlying22 rfl (gT ?_); refine o_ ?_; refine nk hK ?_; rcases its H with ⟨c2, H⟩ | ⟨c2, H⟩
 ·refine dT c2 ?_; refine wT ?_; refine sr fun K hK => ?_; refine o_ ?_; refine nkt hK ?_; rw [← Option.some.inj H]; exact fw []
 ·refine dF c2 ?_; refine wF ?_; refine sk ?_; refine sr fun K hK => ?_; refine o_ ?_; obtain ⟨q3, hq3, H⟩ := bnd H; refine cs [] func6 (gimballaw19_Upper.does hq3) ?_; refine o_ ?_; refine nksr hK fun K hK => ?_; refine o_ ?_; obtain ⟨q4, hq4, H⟩ := bnd H; refine cs [] func6 (gimballaw19_Upper.does hq4) ?_; refine o_ ?_; refine nksr hK fun K hK => ?_; refine o_ ?_; obtain ⟨q5, hq5, H⟩ := bnd H
  refine cs [] func7 (gimballaw21_made.does hq5) ?_; refine o_ ?_; refine nksr hK fun K hK => ?_; refine o_ ?_; obtain ⟨q6, hq6, H⟩ := bnd H; obtain ⟨zq6_0, zq6_1, zq6_2⟩ := sylv_Solve.len hq6; (try simp only [List.length_set, List.length_replicate, List.length_append, List.length_cons, List.length_nil, Nat.zero_add] at zq6_0 zq6_1 zq6_2)
  refine cz [36, 60, 92] func8 (sylv_Solve.does hq6) (And.intro zq6_0.symm (And.intro zq6_1.symm zq6_2.symm)) ?_; refine o_ ?_; refine nk hK ?_; refine w_seq ?_; refine sr fun K hK => ?_; refine o_ ?_; rcases its H with ⟨c7, H⟩ | ⟨c7, H⟩
  ·refine dE c7 ?_; refine o_ ?_; refine nl hK ?_; refine kw [40, 64, 96, 36, 60, 92] [1, 2, 6, 0, 0, 1, 41] ?_; exact gi (ih0 a1 l4 q6.2.2.2.2.2.2.1 ((Go.bits .and .i64 a3 3) != (Go.bits .and .i64 a1 3)) q3.1 q3.2.1 q3.2.2.1 q4.1 q4.2.1 q4.2.2.1 q5.1 q5.2.1 q5.2.2.1 q6.2.2.2.2.2.2.2.1 q6.2.2.2.2.2.2.2.2.1 q6.2.2.2.2.2.2.2.2.2 r H)
  ·refine dN c7 ?_; refine o_ ?_; refine nl hK ?_; refine kw [40, 64, 96, 36, 60, 92] [1, 2, 6, 0, 0, 1, 41] ?_; exact gi (ih0 a1 l4 q6.2.2.2.2.2.2.1 true q3.1 q3.2.1 q3.2.2.1 q4.1 q4.2.1 q4.2.2.1 q5.1 q5.2.1 q5.2.2.1 q6.2.2.2.2.2.2.2.1 q6.2.2.2.2.2.2.2.2.1 q6.2.2.2.2.2.2.2.2.2 r H)
end Go.Proofs.YtejkoahgmnejkaaDoor.F
namespace Go.Proofs.YtejkoahgmnejkaaDoor.F
open Go Go.RowKit Go.Proofs.YtejkoahgmnejkaaDoorW.PrintWords
open Go.Rk hiding Rd
set_option linter.unusedVariables false
set_option maxRecDepth 100000
def sub64Entry_ : Array Value → Sem Value := fun args => do
  let (x, y, b) ← Extern.MathBitsCarry.three "Sub64" args
  pure (Extern.MathBitsCarry.pair ((x + Extern.MathBitsCarry.m64 - y - b) % Extern.MathBitsCarry.m64) (if x < y + b then 1 else 0))
theorem run_sub64_ {P : Program} (x y b : Nat) (hb : b ≤ 1) (w : World) :
    (sub64Entry_ #[.int .u64 x, .int .u64 y, .int .u64 b]).run P w =
      .ok (.tuple #[.int .u64 (((x + 18446744073709551616 - y - b) % 18446744073709551616 : Nat) : Int), .int .u64 ((if x < y + b then 1 else 0 : Nat) : Int)]) w := by
  have : b = 0 ∨ b = 1 := by omega
  rcases this with rfl | rfl <;> rfl
theorem vs3 {ι : Io} {μ : Mu} {k k' k'' : IntKind} {x y c : Int} {args' : List Value} (h : Vs ι μ [.i k x, .i k' y, .i k'' c] args') : args' = [.int k x, .int k' y, .int k'' c] := by
  obtain ⟨a, l, rfl, ha, h⟩ := h.head
  obtain ⟨b, l, rfl, hb, h⟩ := h.head
  obtain ⟨d, l, rfl, hd, h⟩ := h.head
  rw [h.nil', ha.i_inv, hb.i_inv, hd.i_inv]
theorem vr2 {ι : Io} {μ : Mu} {x y : Int} : VR ι μ (.t [.i .u64 x, .i .u64 y]) (.tuple #[.int .u64 x, .int .u64 y]) :=
  .t (cs := [.int .u64 x, .int .u64 y]) rfl fun j hj => by
    match j, hj with
    | 0, _ => exact .c .i
    | 1, _ => exact .c .i
theorem envOk : EnvOk E0 where
  mixed := by kernel_rfl
  noNG := by
    intro f fn h
    have h0 : (Tryd.prog.funcs.toList.all fun fn => !(fn.name == "runtime.NumGoroutine")) = true := by kernel_rfl
    have h1 : fn ∈ Tryd.prog.funcs.toList := by
      have h : Tryd.prog.funcs[f]? = some fn := h
      exact Array.mem_toList_iff.2 (Array.mem_of_getElem? h)
    have := List.all_eq_true.1 h0 fn h1
    simpa using this
  ext := by
    intro f fn args args' ι μ w v hf hb he hv
    simp only [E0] at he
    split at he
    · rename_i e; subst e
      unfold addX at he
      split at he
      · split at he
        · rename_i hc
          cases he
          obtain ⟨c1, c2, c3, c4⟩ := hc
          rw [vs3 hv]
          refine ⟨_, ?_, vr2⟩
          show (callFunc 79 #[_, _, _]).run Tryd.prog w = _
          rw [run_callFunc_extern Tryd.func79 (by kernel_rfl) (by kernel_rfl) (by kernel_rfl) (e := add64Entry) (by kernel_rfl), run_add64 _ _ _ c1 c2 c3 c4]
          rfl
        · cases he
      · cases he
    · split at he
      · rename_i e; subst e
        unfold subX at he
        split at he
        · split at he
          · rename_i x y c hc
            cases he
            obtain ⟨c1, c2, c5, c3, c4⟩ := hc
            rw [vs3 hv]
            obtain ⟨x, rfl⟩ := Int.eq_ofNat_of_zero_le c1
            obtain ⟨y, rfl⟩ := Int.eq_ofNat_of_zero_le c2
            obtain ⟨b, rfl⟩ := Int.eq_ofNat_of_zero_le c3
            have e1 : (((x + 18446744073709551616 - y - b) % 18446744073709551616 : Nat) : Int) = ((x : Int) - y - b) % 18446744073709551616 := by omega
            have e2 : ((if x < y + b then 1 else 0 : Nat) : Int) = if (x : Int) < y + b then 1 else 0 := by split <;> split <;> omega
            rw [← e1, ← e2]
            refine ⟨_, ?_, vr2⟩
            show (callFunc 82 #[_, _, _]).run Tryd.prog w = _
            rw [run_callFunc_extern Tryd.func82 (by kernel_rfl) (by kernel_rfl) (by kernel_rfl) (e := sub64Entry_) (by kernel_rfl), run_sub64_ x y b (by omega)]
            rfl
          · cases he
        · cases he
      · cases he
end Go.Proofs.YtejkoahgmnejkaaDoor.F
