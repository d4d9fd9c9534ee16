/- Texts of this claim, one behind the other: the functions, and that the machine does what they say. -/
import Derived.Test.YtikebaljjclbnaaDoorRx0
import Derived.Test.YtikebaljjclbnaaDoorRx1
import Derived.Test.YtikebaljjclbnaaDoorRx2
import Derived.Test.YtikebaljjclbnaaDoorRun2
import Derived.Laws.BitsLemmas
import Derived.ArgAppend
import Derived.Lib.AppendStr
set_option linter.constructorNameAsVariable false
set_option linter.unusedSimpArgs false
set_option linter.unusedVariables false
set_option linter.unusedSectionVars false
namespace Go.Proofs.YtikebaljjclbnaaDoor.F
open Go Go.RowKit Go.Proofs.YtikebaljjclbnaaDoorW.PrintWords
open Go.Rk hiding Rd
open Go.Proofs.Tryd
set_option linter.unusedVariables false
set_option linter.unusedSimpArgs false
set_option maxRecDepth 100000
set_option maxHeartbeats 8000000
theorem gimballaw12_SolvePivots.does_l {a0 : Int} {l1 : List Int} {a2 : Int} (k : Nat) : (∀ (n_0 least_2 : Int) (h1 h3 : List Int) (told_12 : Bool) (e_13 : Int) (t_78 : Bool) (h0_0 h0_1 h0_2 h2 : Int) (h4 : List Int) (r : Bool), gimballaw12_SolvePivots.j0 k n_0 least_2 h1 h3 told_12 e_13 t_78 h0_0 h0_1 h0_2 h2 h4 = some r → kont E0 (gimballaw12_SolvePivots.Q a0 l1 a2 r) (frs (bodyOf Tryd.f3) [1, 1, 1, 1, 1, 1, 1, 1, 1, 1, 1, 0, 0] []) .normal ⟨.i .i64 n_0 :: .u :: .i .u64 least_2 :: u_ 4 (.p (some (0, 0)) :: .s (some (1, 0)) h1.length :: .p (some (2, 0)) :: .u :: .s (some (3, 0)) h3.length :: .b told_12 :: .i .i64 e_13 :: u_ 64 (.b t_78 :: u_ 108 ([]))), ofL [.row [.i .i64 h0_0, .i .i64 h0_1, .i .i64 h0_2, .s (some (4, 0)) h4.length] 0 0 true true none, .row (h1.map (V.i .u64)) 2 1 true true none, .row [.i .u8 h2] 0 0 true true none, .row (h3.map (V.i .u64)) 2 1 true true none, .row (h4.map (V.i .u64)) 2 1 true true none], 5, 0⟩) ∧
    (∀ (n_0 least_2 : Int) (h1 h3 : List Int) (told_12 t_93 : Bool) (h0_0 h0_1 h0_2 h2 : Int) (h4 : List Int) (r : Bool), gimballaw12_SolvePivots.j1 k n_0 least_2 h1 h3 told_12 t_93 h0_0 h0_1 h0_2 h2 h4 = some r → kont E0 (gimballaw12_SolvePivots.Q a0 l1 a2 r) (frs (bodyOf Tryd.f3) [1, 1, 1, 1, 1, 1, 1, 1, 1, 1, 1, 1, 0, 0] []) .normal ⟨.i .i64 n_0 :: .u :: .i .u64 least_2 :: u_ 4 (.p (some (0, 0)) :: .s (some (1, 0)) h1.length :: .p (some (2, 0)) :: .u :: .s (some (3, 0)) h3.length :: .b told_12 :: u_ 80 (.b t_93 :: u_ 93 ([]))), ofL [.row [.i .i64 h0_0, .i .i64 h0_1, .i .i64 h0_2, .s (some (4, 0)) h4.length] 0 0 true true none, .row (h1.map (V.i .u64)) 2 1 true true none, .row [.i .u8 h2] 0 0 true true none, .row (h3.map (V.i .u64)) 2 1 true true none, .row (h4.map (V.i .u64)) 2 1 true true none], 5, 0⟩) ∧
    (∀ (n_0 least_2 : Int) (h1 h2 : List Int) (told_12 : Bool) (h4 : List Int) (t_103 t_104 h0_0 h0_1 h0_2 : Int) (h3_0 : Bool) (h3_1 : List Int) (h3_2 : Int) (r : Bool), gimballaw12_SolvePivots.l0 k n_0 least_2 h1 h2 told_12 h4 t_103 t_104 h0_0 h0_1 h0_2 h3_0 h3_1 h3_2 = some r → wk_ E0 (gimballaw12_SolvePivots.Q a0 l1 a2 r) (frs (bodyOf Tryd.f3) [1, 1, 1, 1, 1, 1, 1, 1, 1, 1, 1, 1, 1, 1, 1, 0, 1, 0] []) (sub (bodyOf Tryd.f3) [1, 1, 1, 1, 1, 1, 1, 1, 1, 1, 1, 1, 1, 1, 1, 0, 1, 0]) ⟨.i .i64 n_0 :: .u :: .i .u64 least_2 :: u_ 4 (.p (some (0, 0)) :: .s (some (1, 0)) h1.length :: .u :: .u :: .s (some (2, 0)) h2.length :: .b told_12 :: .u :: .p (some (3, 0)) :: u_ 87 (.s (some (4, 0)) h4.length :: .i .i64 t_103 :: .i .i64 t_104 :: u_ 82 ([]))), ofL [.row [.i .i64 h0_0, .i .i64 h0_1, .i .i64 h0_2, .s (some (4, 0)) h4.length] 0 0 true true none, .row (h1.map (V.i .u64)) 2 1 true true none, .row (h2.map (V.i .u64)) 2 1 true true none, .row [.b h3_0, .r (h3_1.map (V.i .u32)) h3_1.length true, .i .i64 h3_2] 0 0 true true none, .row (h4.map (V.i .u64)) 2 1 true true none], 5, 0⟩) ∧
    (∀ (n_0 least_2 : Int) (h1 h2 : List Int) (told_12 : Bool) (i_18 h0_0 h0_1 h0_2 : Int) (h3_0 : Bool) (h3_1 : List Int) (h3_2 : Int) (h4_0 : Bool) (h4_1 : List Int) (h4_2 : Int) (h5 : List Int) (r : Bool), gimballaw12_SolvePivots.l1 k n_0 least_2 h1 h2 told_12 i_18 h0_0 h0_1 h0_2 h3_0 h3_1 h3_2 h4_0 h4_1 h4_2 h5 = some r → wk_ E0 (gimballaw12_SolvePivots.Q a0 l1 a2 r) (frs (bodyOf Tryd.f3) [1, 1, 1, 1, 1, 1, 1, 1, 1, 1, 1, 1, 1, 1, 1, 1, 1, 0, 1, 0] []) (sub (bodyOf Tryd.f3) [1, 1, 1, 1, 1, 1, 1, 1, 1, 1, 1, 1, 1, 1, 1, 1, 1, 0, 1, 0]) ⟨.i .i64 n_0 :: .u :: .i .u64 least_2 :: u_ 4 (.p (some (0, 0)) :: .s (some (1, 0)) h1.length :: .u :: .u :: .s (some (2, 0)) h2.length :: .b told_12 :: .u :: .p (some (3, 0)) :: .u :: .u :: .p (some (4, 0)) :: .i .i64 i_18 :: u_ 168 ([])), ofL [.row [.i .i64 h0_0, .i .i64 h0_1, .i .i64 h0_2, .s (some (5, 0)) h5.length] 0 0 true true none, .row (h1.map (V.i .u64)) 2 1 true true none, .row (h2.map (V.i .u64)) 2 1 true true none, .row [.b h3_0, .r (h3_1.map (V.i .u32)) h3_1.length true, .i .i64 h3_2] 0 0 true true none, .row [.b h4_0, .r (h4_1.map (V.i .u32)) h4_1.length true, .i .i64 h4_2] 0 0 true true none, .row (h5.map (V.i .u64)) 2 1 true true none], 6, 0⟩) ∧
    (∀ (n_0 : Int) (h1 h2 : List Int) (h0_0 h0_1 h0_2 : Int) (h3_0 : Bool) (h3_1 : List Int) (h3_2 : Int) (h4_0 : Bool) (h4_1 : List Int) (h4_2 : Int) (h5 : List Int) (r : Bool), gimballaw12_SolvePivots.j4 k n_0 h1 h2 h0_0 h0_1 h0_2 h3_0 h3_1 h3_2 h4_0 h4_1 h4_2 h5 = some r → kont E0 (gimballaw12_SolvePivots.Q a0 l1 a2 r) (frs (bodyOf Tryd.f3) [1, 1, 1, 1, 1, 1, 1, 1, 1, 1, 1, 1, 1, 1, 1, 1, 1, 1, 1, 0, 1] []) .normal ⟨.i .i64 n_0 :: u_ 6 (.p (some (0, 0)) :: .s (some (1, 0)) h1.length :: .u :: .u :: .s (some (2, 0)) h2.length :: u_ 5 (.p (some (3, 0)) :: .u :: .p (some (4, 0)) :: u_ 167 ([]))), ofL [.row [.i .i64 h0_0, .i .i64 h0_1, .i .i64 h0_2, .s (some (5, 0)) h5.length] 0 0 true true none, .row (h1.map (V.i .u64)) 2 1 true true none, .row (h2.map (V.i .u64)) 2 1 true true none, .row [.b h3_0, .r (h3_1.map (V.i .u32)) h3_1.length true, .i .i64 h3_2] 0 0 true true none, .row [.b h4_0, .r (h4_1.map (V.i .u32)) h4_1.length true, .i .i64 h4_2] 0 0 true true none, .row (h5.map (V.i .u64)) 2 1 true true none], 6, 0⟩) ∧
    (∀ (n_0 : Int) (h1 h2 : List Int) (i_20 h0_0 h0_1 h0_2 : Int) (h3_0 : Bool) (h3_1 : List Int) (h3_2 : Int) (h4_0 : Bool) (h4_1 : List Int) (h4_2 : Int) (h5 : List Int) (r : Bool), gimballaw12_SolvePivots.l2 k n_0 h1 h2 i_20 h0_0 h0_1 h0_2 h3_0 h3_1 h3_2 h4_0 h4_1 h4_2 h5 = some r → wk_ E0 (gimballaw12_SolvePivots.Q a0 l1 a2 r) (frs (bodyOf Tryd.f3) [1, 1, 1, 1, 1, 1, 1, 1, 1, 1, 1, 1, 1, 1, 1, 1, 1, 1, 1, 1, 0, 1, 0] []) (sub (bodyOf Tryd.f3) [1, 1, 1, 1, 1, 1, 1, 1, 1, 1, 1, 1, 1, 1, 1, 1, 1, 1, 1, 1, 0, 1, 0]) ⟨.i .i64 n_0 :: u_ 6 (.p (some (0, 0)) :: .s (some (1, 0)) h1.length :: .u :: .u :: .s (some (2, 0)) h2.length :: u_ 5 (.p (some (3, 0)) :: .u :: .p (some (4, 0)) :: .i .i64 i_20 :: u_ 166 ([]))), ofL [.row [.i .i64 h0_0, .i .i64 h0_1, .i .i64 h0_2, .s (some (5, 0)) h5.length] 0 0 true true none, .row (h1.map (V.i .u64)) 2 1 true true none, .row (h2.map (V.i .u64)) 2 1 true true none, .row [.b h3_0, .r (h3_1.map (V.i .u32)) h3_1.length true, .i .i64 h3_2] 0 0 true true none, .row [.b h4_0, .r (h4_1.map (V.i .u32)) h4_1.length true, .i .i64 h4_2] 0 0 true true none, .row (h5.map (V.i .u64)) 2 1 true true none], 6, 0⟩) ∧
    (∀ (n_0 : Int) (h1 h2 : List Int) (i_20 j_22 h0_0 h0_1 h0_2 : Int) (h3_0 : Bool) (h3_1 : List Int) (h3_2 : Int) (h4_0 : Bool) (h4_1 : List Int) (h4_2 : Int) (h5_0 : Bool) (h5_1 : List Int) (h5_2 : Int) (h6 : List Int) (r : Bool), gimballaw12_SolvePivots.l3 k n_0 h1 h2 i_20 j_22 h0_0 h0_1 h0_2 h3_0 h3_1 h3_2 h4_0 h4_1 h4_2 h5_0 h5_1 h5_2 h6 = some r → wk_ E0 (gimballaw12_SolvePivots.Q a0 l1 a2 r) (frs (bodyOf Tryd.f3) [1, 1, 1, 1, 1, 1, 1, 1, 1, 1, 1, 1, 1, 1, 1, 1, 1, 1, 1, 1, 0, 1, 0, 0, 1, 0, 0, 1, 0, 1, 0] []) (sub (bodyOf Tryd.f3) [1, 1, 1, 1, 1, 1, 1, 1, 1, 1, 1, 1, 1, 1, 1, 1, 1, 1, 1, 1, 0, 1, 0, 0, 1, 0, 0, 1, 0, 1, 0]) ⟨.i .i64 n_0 :: u_ 6 (.p (some (0, 0)) :: .s (some (1, 0)) h1.length :: .u :: .u :: .s (some (2, 0)) h2.length :: u_ 5 (.p (some (3, 0)) :: .u :: .p (some (4, 0)) :: .i .i64 i_20 :: .p (some (5, 0)) :: .i .i64 j_22 :: u_ 164 ([]))), ofL [.row [.i .i64 h0_0, .i .i64 h0_1, .i .i64 h0_2, .s (some (6, 0)) h6.length] 0 0 true true none, .row (h1.map (V.i .u64)) 2 1 true true none, .row (h2.map (V.i .u64)) 2 1 true true none, .row [.b h3_0, .r (h3_1.map (V.i .u32)) h3_1.length true, .i .i64 h3_2] 0 0 true true none, .row [.b h4_0, .r (h4_1.map (V.i .u32)) h4_1.length true, .i .i64 h4_2] 0 0 true true none, .row [.b h5_0, .r (h5_1.map (V.i .u32)) h5_1.length true, .i .i64 h5_2] 0 0 true true none, .row (h6.map (V.i .u64)) 2 1 true true none], 7, 0⟩) ∧
    (∀ (t_6 r : Bool), gimballaw12_SolvePivots.j7 k t_6 = some r → kont E0 (gimballaw12_SolvePivots.Q a0 l1 a2 r) (frs (bodyOf Tryd.f3) [1, 1, 1, 1, 1, 1, 1, 1, 1, 1, 1, 0, 1, 0, 0] []) .normal ⟨u_ 6 (.b t_6 :: u_ 180 ([])), ofL [], 0, 0⟩) ∧
    (∀ (t_6 r : Bool), gimballaw12_SolvePivots.j8 k t_6 = some r → kont E0 (gimballaw12_SolvePivots.Q a0 l1 a2 r) (frs (bodyOf Tryd.f3) [1, 1, 1, 1, 1, 1, 1, 1, 1, 1, 0, 1, 0, 0] []) .normal ⟨u_ 6 (.b t_6 :: u_ 180 ([])), ofL [], 0, 0⟩) := by
 induction k with
 | zero => exact ⟨by intros; simp [gimballaw12_SolvePivots.j0] at *, by intros; simp [gimballaw12_SolvePivots.j1] at *, by intros; simp [gimballaw12_SolvePivots.l0] at *, by intros; simp [gimballaw12_SolvePivots.l1] at *, by intros; simp [gimballaw12_SolvePivots.j4] at *, by intros; simp [gimballaw12_SolvePivots.l2] at *, by intros; simp [gimballaw12_SolvePivots.l3] at *, by intros; simp [gimballaw12_SolvePivots.j7] at *, by intros; simp [gimballaw12_SolvePivots.j8] at *⟩
 | succ k ih =>
  obtain ⟨ih0, ih1, ih2, ih3, ih4, ih5, ih6, ih7, ih8⟩ := ih
  refine ⟨?_, ?_, ?_, ?_, ?_, ?_, ?_, ?_, ?_⟩
  ·intro n_0 least_2 h1 h3 told_12 e_13 t_78 h0_0 h0_1 h0_2 h2 h4 r H; unfold gimballaw12_SolvePivots.j0 at H; refine fb ?_; refine k_seq ?_; rcases its H with ⟨c18, H⟩ | ⟨c18, H⟩
   ·refine dV c18 ?_; refine wT ?_; refine sr fun K hK => ?_; refine o_ ?_; rcases its H with ⟨c19, H⟩ | ⟨c19, H⟩
    ·refine dE c19 ?_; refine o_ ?_; refine g_len_s rfl rfl Tryd.underlying22 rfl (gT ?_); refine o_ ?_; refine nl hK ?_; refine kw [] [6] ?_; exact gi (ih7 ((h3.length : Int) == 0) r H)
    ·refine dN c19 ?_; refine o_ ?_; refine nl hK ?_; refine kw [] [6] ?_; exact gi (ih7 false r H)
   ·refine dW c18 ?_; refine wF ?_; refine sk ?_; refine w_seq ?_; refine sr fun K hK => ?_; refine o_ ?_; rcases its H with ⟨c20, H⟩ | ⟨c20, H⟩
    ·refine dE c20 ?_; refine o_ ?_; refine g_len_s rfl rfl Tryd.underlying22 rfl (gT ?_); refine o_ ?_; refine nl hK ?_; refine kw [0, 1, 2, 3, 4] [0, 1, 4, 0, 0, 1, 0, 80] ?_; exact gi (ih1 n_0 least_2 h1 h3 told_12 ((h3.length : Int) != n_0) h0_0 h0_1 h0_2 h2 h4 r H)
    ·refine dN c20 ?_; refine o_ ?_; refine nl hK ?_; refine kw [0, 1, 2, 3, 4] [0, 1, 4, 0, 0, 1, 0, 80] ?_; exact gi (ih1 n_0 least_2 h1 h3 told_12 true h0_0 h0_1 h0_2 h2 h4 r H)
  ·intro n_0 least_2 h1 h3 told_12 t_93 h0_0 h0_1 h0_2 h2 h4 r H; unfold gimballaw12_SolvePivots.j1 at H; refine fb ?_; refine k_seq ?_; rcases its H with ⟨c21, H⟩ | ⟨c21, H⟩
   ·refine dV c21 ?_; refine wT ?_; refine sr fun K hK => ?_; refine o_ ?_; refine nkt hK ?_; rw [← Option.some.inj H]; exact fw []
   ·refine dW c21 ?_; refine wF ?_; refine sk ?_; refine w_seq ?_; refine sr fun K hK => ?_; refine o_ ?_; refine nk hK ?_; rcases its H with ⟨c22, H⟩ | ⟨c22, H⟩
    ·refine dE c22 ?_; refine wF ?_; refine sk ?_; refine sr fun K hK => ?_; refine g_bd rfl rfl zr42 Tryd.underlying42 (pl := [(0, 1), (1, 1), (2, 1)]) (by kernel_rfl) ?_; refine gB ?_; refine o_ ?_; refine nk hK ?_; refine w_seq ?_; refine sr fun K hK => ?_; refine o_ ?_; refine g_len_s rfl rfl Tryd.underlying22 rfl (gT ?_); refine o_ ?_; refine nk hK ?_; refine w_block ?_
     refine w_less (.roc 33 1 rfl rfl) ?_; simp only [nrmx, nrm, List.set_cons_zero, List.set_cons_succ, Nat.reduceAdd]; refine ww [0, 1, 3, 33, 4] [0, 1, 4, 0, 2, 0, 1, 87, 0, 0] ?_; exact gi (ih2 n_0 least_2 h1 h3 told_12 h4 (h4.length : Int) 0 h0_0 h0_1 h0_2 false [] 0 r H)
    ·refine dN c22 ?_; refine wT ?_; refine sr fun K hK => ?_; refine o_ ?_; refine nkt hK ?_; rw [← Option.some.inj H]; exact fw []
  ·intro n_0 least_2 h1 h2 told_12 h4 t_103 t_104 h0_0 h0_1 h0_2 h3_0 h3_1 h3_2 r H; unfold gimballaw12_SolvePivots.l0 at H; refine fb ?_; refine w_loop ?_; refine sr fun K hK => ?_; refine o_ ?_; refine nk hK ?_; refine w_seq ?_; rcases its H with ⟨c23, H⟩ | ⟨c23, H⟩
   ·refine dT c23 ?_; refine wT ?_; refine sk ?_; refine w_seq ?_; refine w_block ?_; refine sr fun K hK => ?_; obtain ⟨c24, H⟩ := it1 H; obtain ⟨c25, H⟩ := it1 H; refine g_ixo rfl rfl Tryd.underlying22 sz23 rfl rfl ao_ al_ (gT ?_); refine g_ldo rfl rfl ag23 sz23 rfl rfl al_ (gT ?_); refine o_ ?_; refine nk hK ?_; refine w_seq ?_; refine wD fun K hK => ?_; refine o_ ?_; obtain ⟨q26, hq26, H⟩ := bnd H
    refine cs [] func14 (gimballaw12_exact.does hq26) ?_; obtain ⟨q27, hq27, H⟩ := bnd H; refine cs [] func15 (dyad_Num_Abs.does hq27) ?_; refine o_ ?_; obtain ⟨q28, hq28, H⟩ := bnd H; refine cs [] func16 (dyad_Num_Cmp.does hq28) ?_; refine o_ ?_; refine g_nil (hK _ _ _ (by kernel_rfl) ?_); refine k_seq ?_; rcases its H with ⟨c29, H⟩ | ⟨c29, H⟩
    ·refine dT c29 ?_; refine wT ?_; refine wR fun K hK => ?_; refine o_ ?_; obtain ⟨q30, hq30, H⟩ := bnd H; refine cs [] func14 (gimballaw12_exact.does hq30) ?_; obtain ⟨q31, hq31, H⟩ := bnd H; refine cs [] func15 (dyad_Num_Abs.does hq31) ?_; refine o_ ?_; refine nl hK ?_; refine k_block ?_; refine k_seq ?_; refine wR fun K hK => ?_; refine o_ ?_; refine nl hK ?_; refine k_loop ?_
     refine ww [0, 1, 2, 3, 4] [0, 1, 4, 0, 2, 0, 1, 87, 0, 0] ?_; exact gi (ih2 n_0 least_2 h1 h2 told_12 h4 t_103 (wrap64 (t_104 + 1)) h0_0 h0_1 h0_2 q31.1 q31.2.1 q31.2.2 r H)
    ·refine dF c29 ?_; refine wF ?_; refine w_skip ?_; refine k_block ?_; refine k_seq ?_; refine wR fun K hK => ?_; refine o_ ?_; refine nl hK ?_; refine k_loop ?_; refine ww [0, 1, 2, 3, 4] [0, 1, 4, 0, 2, 0, 1, 87, 0, 0] ?_; exact gi (ih2 n_0 least_2 h1 h2 told_12 h4 t_103 (wrap64 (t_104 + 1)) h0_0 h0_1 h0_2 h3_0 h3_1 h3_2 r H)
   ·refine dF c23 ?_; refine wF ?_; refine w_exit rfl ?_; refine ksr fun K hK => ?_; refine g_bd rfl rfl zr42 Tryd.underlying42 (pl := [(0, 1), (1, 1), (2, 1)]) (by kernel_rfl) ?_; refine gB ?_; refine o_ ?_; refine nk hK ?_; refine w_seq ?_; refine sr fun K hK => ?_; refine o_ ?_; refine nk hK ?_; refine w_block ?_
    refine w_less (.roc 13 1 rfl rfl) ?_; simp only [nrmx, nrm, List.set_cons_zero, List.set_cons_succ, Nat.reduceAdd]; refine ww [0, 1, 2, 3, 13, 4] [0, 1, 4, 0, 2, 0, 1, 2, 0] ?_; exact gi (ih3 n_0 least_2 h1 h2 told_12 0 h0_0 h0_1 h0_2 h3_0 h3_1 h3_2 false [] 0 h4 r H)
  ·intro n_0 least_2 h1 h2 told_12 i_18 h0_0 h0_1 h0_2 h3_0 h3_1 h3_2 h4_0 h4_1 h4_2 h5 r H; unfold gimballaw12_SolvePivots.l1 at H; refine fb ?_; refine w_loop ?_; refine w_seq ?_; refine sr fun K hK => ?_; refine o_ ?_; refine nk hK ?_; rcases its H with ⟨c32, H⟩ | ⟨c32, H⟩
   ·refine dT c32 ?_; refine wT ?_; refine sk ?_; refine w_seq ?_; refine w_block ?_; refine w_seq ?_; refine sr fun K hK => ?_; refine o_ ?_; obtain ⟨c33, H⟩ := it1 H; obtain ⟨c34, H⟩ := it1 H; refine g_ixo rfl rfl Tryd.underlying22 sz23 rfl rfl ao_ al_ (gT ?_); refine g_ldo rfl rfl ag23 sz23 rfl rfl al_ (gT ?_); obtain ⟨q35, hq35, H⟩ := bnd H; refine cs [] func11 (word_Finite.does hq35) ?_
    refine o_ ?_; refine nk hK ?_; rcases its H with ⟨c36, H⟩ | ⟨c36, H⟩
    ·refine dV c36 ?_; refine wF ?_; refine sk ?_; refine wD fun K hK => ?_; refine o_ ?_; obtain ⟨c37, H⟩ := it1 H; refine g_ixo rfl rfl Tryd.underlying22 sz23 rfl rfl ao_ al_ (gT ?_); refine g_ldo rfl rfl ag23 sz23 rfl rfl al_ (gT ?_); obtain ⟨q38, hq38, H⟩ := bnd H; refine cs [] func14 (gimballaw12_exact.does hq38) ?_; obtain ⟨q39, hq39, H⟩ := bnd H; refine cs [] func15 (dyad_Num_Abs.does hq39) ?_
     obtain ⟨q40, hq40, H⟩ := bnd H; refine cs [] func17 (dyad_Num_Add.does hq40) ?_; refine o_ ?_; refine g_nil (hK _ _ _ (by kernel_rfl) ?_); refine k_block ?_; refine k_seq ?_; refine wR fun K hK => ?_; refine o_ ?_; refine nl hK ?_; refine k_loop ?_; refine ww [0, 1, 2, 3, 4, 5] [0, 1, 4, 0, 2, 0, 1, 2, 0] ?_
     exact gi (ih3 n_0 least_2 h1 h2 told_12 (wrap64 (i_18 + 1)) h0_0 h0_1 h0_2 h3_0 h3_1 h3_2 q40.1 q40.2.1 q40.2.2 h5 r H)
    ·refine dW c36 ?_; refine wT ?_; refine sr fun K hK => ?_; refine o_ ?_; refine nkt hK ?_; rw [← Option.some.inj H]; exact fw []
   ·refine dF c32 ?_; refine wF ?_; refine w_exit rfl ?_; refine k_seq ?_; refine w_seq ?_; refine wD fun K hK => ?_; refine o_ ?_; obtain ⟨q41, hq41, H⟩ := bnd H; refine cs [] func19 (dyad_Int.does hq41) ?_; obtain ⟨q42, hq42, H⟩ := bnd H; refine cs [] func18 (dyad_Num_Mul.does hq42) ?_; obtain ⟨q43, hq43, H⟩ := bnd H; refine cs [] func20 (dyad_Two.does hq43) ?_; obtain ⟨q44, hq44, H⟩ := bnd H
    refine cs [] func18 (dyad_Num_Mul.does hq44) ?_; refine o_ ?_; refine g_nil (hK _ _ _ (by kernel_rfl) ?_); refine k_seq ?_; refine w_seq ?_; refine sr fun K hK => ?_; refine o_ ?_; refine nk hK ?_; rcases its H with ⟨c45, H⟩ | ⟨c45, H⟩
    ·refine dV c45 ?_; refine wT ?_; refine wD fun K hK => ?_; refine o_ ?_; obtain ⟨q46, hq46, H⟩ := bnd H; refine cs [] func14 (gimballaw12_exact.does hq46) ?_; obtain ⟨q47, hq47, H⟩ := bnd H; refine cs [] func19 (dyad_Int.does hq47) ?_; obtain ⟨q48, hq48, H⟩ := bnd H; refine cs [] func18 (dyad_Num_Mul.does hq48) ?_; obtain ⟨q49, hq49, H⟩ := bnd H; refine cs [] func17 (dyad_Num_Add.does hq49) ?_
     refine o_ ?_; refine g_nil (hK _ _ _ (by kernel_rfl) ?_); refine kw [0, 1, 2, 4, 38, 5] [0, 6, 0, 2, 5, 1] ?_; exact gi (ih4 n_0 h1 h2 h0_0 h0_1 h0_2 h4_0 h4_1 h4_2 q49.1 q49.2.1 q49.2.2 h5 r H)
    ·refine dW c45 ?_; refine wF ?_; refine w_skip ?_; refine kw [0, 1, 2, 4, 38, 5] [0, 6, 0, 2, 5, 1] ?_; exact gi (ih4 n_0 h1 h2 h0_0 h0_1 h0_2 h4_0 h4_1 h4_2 q44.1 q44.2.1 q44.2.2 h5 r H)
  ·intro n_0 h1 h2 h0_0 h0_1 h0_2 h3_0 h3_1 h3_2 h4_0 h4_1 h4_2 h5 r H; unfold gimballaw12_SolvePivots.j4 at H; refine fb ?_; refine k_seq ?_; refine w_seq ?_; refine sr fun K hK => ?_; refine o_ ?_; refine nk hK ?_; refine w_block ?_; refine ww [0, 1, 2, 3, 4, 5] [0, 6, 0, 2, 5, 1, 0] ?_; exact gi (ih5 n_0 h1 h2 0 h0_0 h0_1 h0_2 h3_0 h3_1 h3_2 h4_0 h4_1 h4_2 h5 r H)
  ·intro n_0 h1 h2 i_20 h0_0 h0_1 h0_2 h3_0 h3_1 h3_2 h4_0 h4_1 h4_2 h5 r H; unfold gimballaw12_SolvePivots.l2 at H; refine fb ?_; refine w_loop ?_; refine w_seq ?_; refine sr fun K hK => ?_; refine o_ ?_; refine nk hK ?_; rcases its H with ⟨c50, H⟩ | ⟨c50, H⟩
   ·refine dT c50 ?_; refine wT ?_; refine sk ?_; refine w_seq ?_; refine w_block ?_; refine sr fun K hK => ?_; refine g_bd rfl rfl zr42 Tryd.underlying42 (pl := [(0, 1), (1, 1), (2, 1)]) (by kernel_rfl) ?_; refine gB ?_; refine o_ ?_; refine nk hK ?_; refine w_seq ?_; refine sr fun K hK => ?_; refine o_ ?_; refine nk hK ?_; refine w_block ?_
    refine w_less (.roc 22 1 rfl rfl) ?_; simp only [nrmx, nrm, List.set_cons_zero, List.set_cons_succ, Nat.reduceAdd]; refine ww [0, 1, 2, 3, 4, 22, 5] [0, 6, 0, 2, 5, 1, 0, 0, 0] ?_; exact gi (ih6 n_0 h1 h2 i_20 0 h0_0 h0_1 h0_2 h3_0 h3_1 h3_2 h4_0 h4_1 h4_2 false [] 0 h5 r H)
   ·refine dF c50 ?_; refine wF ?_; refine w_exit rfl ?_; refine ksr fun K hK => ?_; refine o_ ?_; refine nkt hK ?_; rw [← Option.some.inj H]; exact fw []
  ·intro n_0 h1 h2 i_20 j_22 h0_0 h0_1 h0_2 h3_0 h3_1 h3_2 h4_0 h4_1 h4_2 h5_0 h5_1 h5_2 h6 r H; unfold gimballaw12_SolvePivots.l3 at H; refine fb ?_; refine w_loop ?_; refine w_seq ?_; refine sr fun K hK => ?_; refine o_ ?_; refine nk hK ?_; rcases its H with ⟨c51, H⟩ | ⟨c51, H⟩
   ·refine dT c51 ?_; refine wT ?_; refine sk ?_; refine w_seq ?_; refine w_block ?_; refine wD fun K hK => ?_; refine o_ ?_; obtain ⟨q52, hq52, H⟩ := bnd H; refine cs [] func21 (mat_Matrix_At.does hq52) ?_; obtain ⟨q53, hq53, H⟩ := bnd H; refine cs [] func14 (gimballaw12_exact.does hq53) ?_; refine o_ ?_; obtain ⟨c54, H⟩ := it1 H; obtain ⟨c55, H⟩ := it1 H
    refine g_ixo rfl rfl Tryd.underlying22 sz23 rfl rfl ao_ al_ (gT ?_); refine g_ldo rfl rfl ag23 sz23 rfl rfl al_ (gT ?_); obtain ⟨q56, hq56, H⟩ := bnd H; refine cs [] func14 (gimballaw12_exact.does hq56) ?_; obtain ⟨q57, hq57, H⟩ := bnd H; refine cs [] func18 (dyad_Num_Mul.does hq57) ?_; obtain ⟨q58, hq58, H⟩ := bnd H; refine cs [] func17 (dyad_Num_Add.does hq58) ?_; refine o_ ?_
    refine g_nil (hK _ _ _ (by kernel_rfl) ?_); refine k_block ?_; refine k_seq ?_; refine wR fun K hK => ?_; refine o_ ?_; refine nl hK ?_; refine k_loop ?_; refine ww [0, 1, 2, 3, 4, 5, 6] [0, 6, 0, 2, 5, 1, 0, 0, 0] ?_; exact gi (ih6 n_0 h1 h2 i_20 (wrap64 (j_22 + 1)) h0_0 h0_1 h0_2 h3_0 h3_1 h3_2 h4_0 h4_1 h4_2 q58.1 q58.2.1 q58.2.2 h6 r H)
   ·refine dF c51 ?_; refine wF ?_; refine w_exit rfl ?_; refine k_seq ?_; refine w_seq ?_; refine wD fun K hK => ?_; refine o_ ?_; obtain ⟨c59, H⟩ := it1 H; obtain ⟨c60, H⟩ := it1 H; refine g_ixo rfl rfl Tryd.underlying22 sz23 rfl rfl ao_ al_ (gT ?_); refine g_ldo rfl rfl ag23 sz23 rfl rfl al_ (gT ?_); obtain ⟨q61, hq61, H⟩ := bnd H; refine cs [] func14 (gimballaw12_exact.does hq61) ?_
    obtain ⟨q62, hq62, H⟩ := bnd H; refine cs [] func22 (dyad_Num_Sub.does hq62) ?_; obtain ⟨q63, hq63, H⟩ := bnd H; refine cs [] func15 (dyad_Num_Abs.does hq63) ?_; refine o_ ?_; obtain ⟨q64, hq64, H⟩ := bnd H; refine cs [] func18 (dyad_Num_Mul.does hq64) ?_; obtain ⟨q65, hq65, H⟩ := bnd H; refine cs [] func16 (dyad_Num_Cmp.does hq65) ?_; refine o_ ?_; refine g_nil (hK _ _ _ (by kernel_rfl) ?_)
    refine k_seq ?_; rcases its H with ⟨c66, H⟩ | ⟨c66, H⟩
    ·refine dT c66 ?_; refine wT ?_; refine sr fun K hK => ?_; refine o_ ?_; refine nkt hK ?_; rw [← Option.some.inj H]; exact fw []
    ·refine dF c66 ?_; refine wF ?_; refine w_skip ?_; refine k_block ?_; refine k_seq ?_; refine wR fun K hK => ?_; refine o_ ?_; refine nl hK ?_; refine k_loop ?_; refine ww [0, 1, 2, 3, 4, 6] [0, 6, 0, 2, 5, 1, 0] ?_; exact gi (ih5 n_0 h1 h2 (wrap64 (i_20 + 1)) h0_0 h0_1 h0_2 h3_0 h3_1 h3_2 h4_0 h4_1 h4_2 h6 r H)
  ·intro t_6 r H; unfold gimballaw12_SolvePivots.j7 at H; refine fb ?_; refine kt ?_; rw [← Option.some.inj H]; exact fw []
  ·intro t_6 r H; unfold gimballaw12_SolvePivots.j8 at H; refine fb ?_; refine kt ?_; rw [← Option.some.inj H]; exact fw []
theorem gimballaw12_SolvePivots.does {k : Nat} {a0 : Int} {l1 : List Int} {a2 : Int} {r : Bool} (H : gimballaw12_SolvePivots.f k a0 l1 a2 = some r) : Do E0 (.fn 3 [.i .i64 a0, .r (l1.map (V.i .u64)) l1.length true, .i .u64 a2] [] (.b r) []) := by
 obtain ⟨ih0, ih1, ih2, ih3, ih4, ih5, ih6, ih7, ih8⟩ := @gimballaw12_SolvePivots.does_l a0 l1 a2 k; refine fnw ((gimballaw12_SolvePivots.Q a0 l1 a2 r)) func3 ntmps3 ?_; unfold gimballaw12_SolvePivots.f at H; refine sr fun K hK => ?_; refine o_ ?_; refine nk hK ?_; refine w_seq ?_; refine sr fun K hK => ?_; obtain ⟨q1, hq1, H⟩ := bnd H; refine cs [] func4 (gimballaw12_head_ok.does hq1) ?_
 refine o_ ?_; refine nk hK ?_; refine wF ?_; refine sk ?_; refine w_seq ?_; refine sr fun K hK => ?_; refine o_ ?_; refine g_len_r rfl rfl Tryd.underlying22 rfl (gT ?_); refine o_ ?_; refine nk hK ?_; rcases its H with ⟨c2, H⟩ | ⟨c2, H⟩
 ·refine dT c2 ?_; refine wT ?_; refine sr fun K hK => ?_; refine o_ ?_; refine nkt hK ?_; rw [← Option.some.inj H]; exact fw []
 ·refine dF c2 ?_; refine wF ?_; refine sk ?_; refine sr fun K hK => ?_; refine o_ ?_; refine nksr hK fun K hK => ?_; refine o_ ?_; obtain ⟨q3, hq3, H⟩ := bnd H; refine cs [] func5 (gimballaw12_made.does hq3) ?_; refine o_ ?_; refine nksr hK fun K hK => ?_; refine o_ ?_; obtain ⟨q4, hq4, H⟩ := bnd H; refine cs [] func6 (gimballaw12_list.does hq4) ?_; refine o_ ?_; refine nksr hK fun K hK => ?_
  refine g_bd rfl rfl zr32 Tryd.underlying32 (pl := [(0, 1)]) (by kernel_rfl) ?_; refine gB ?_; refine o_ ?_; refine nksr hK fun K hK => ?_; refine o_ ?_; obtain ⟨q5, hq5, H⟩ := bnd H; refine cs [] func7 (mat_Matrix_Clone.does hq5) ?_; refine o_ ?_; refine nksr hK fun K hK => ?_; refine o_ ?_; obtain ⟨q6, hq6, H⟩ := bnd H; refine cs [76] func8 (solve_Pivot.does hq6) ?_; refine o_ ?_; refine nk hK ?_
  refine w_seq ?_; refine sr fun K hK => ?_; refine o_ ?_; obtain ⟨q7, hq7, H⟩ := bnd H; refine cs [] func9 (mat_Matrix_Same.does hq7) ?_; refine o_ ?_; refine nk hK ?_; rcases its H with ⟨c8, H⟩ | ⟨c8, H⟩
  ·refine dV c8 ?_; refine wF ?_; refine sk ?_; refine w_seq ?_; refine sr fun K hK => ?_; refine o_ ?_; refine nk hK ?_; rcases its H with ⟨c9, H⟩ | ⟨c9, H⟩
   ·refine dT c9 ?_; refine wT ?_; refine sr fun K hK => ?_; refine o_ ?_; rcases its H with ⟨c10, H⟩ | ⟨c10, H⟩
    ·refine dE c10 ?_; refine o_ ?_; refine g_len_s rfl rfl Tryd.underlying22 rfl (gT ?_); refine o_ ?_; refine nl hK ?_; refine kw [] [6] ?_; exact gi (ih8 ((q6.1.length : Int) == 0) r H)
    ·refine dN c10 ?_; refine o_ ?_; refine nl hK ?_; refine kw [] [6] ?_; exact gi (ih8 false r H)
   ·refine dF c9 ?_; refine wF ?_; refine sk ?_; refine w_seq ?_; refine sr fun K hK => ?_; refine o_ ?_; obtain ⟨q11, hq11, H⟩ := bnd H; refine cs [] func10 (mat_Matrix_Finite.does hq11) ?_; refine o_ ?_; rcases its H with ⟨c12, H⟩ | ⟨c12, H⟩
    ·refine dV c12 ?_; refine o_ ?_; obtain ⟨q13, hq13, H⟩ := bnd H; refine cs [] func11 (word_Finite.does hq13) ?_; refine o_ ?_; rcases its H with ⟨c14, H⟩ | ⟨c14, H⟩
     ·refine dV c14 ?_; refine o_ ?_; obtain ⟨q15, hq15, H⟩ := bnd H; refine cs [] func12 (word_Neg.does hq15) ?_; refine o_ ?_; rcases its H with ⟨c16, H⟩ | ⟨c16, H⟩
      ·refine dV c16 ?_; refine o_ ?_; refine nl hK ?_; refine kw [48, 64, 76, 116, 44] [0, 1, 4, 0, 0, 1, 0, 0, 64] ?_; exact gi (ih0 (Go.bits .and .i64 a0 7) a2 q4 q6.1 q6.2.1 q6.2.2.1 true q3.1 q3.2.1 q3.2.2.1 q6.2.2.2 q3.2.2.2 r H)
      ·refine dW c16 ?_; refine o_ ?_; obtain ⟨q17, hq17, H⟩ := bnd H; refine cs [] func13 (word_Abs.does hq17) ?_; refine o_ ?_; refine nl hK ?_; refine kw [48, 64, 76, 116, 44] [0, 1, 4, 0, 0, 1, 0, 0, 64] ?_; exact gi (ih0 (Go.bits .and .i64 a0 7) a2 q4 q6.1 q6.2.1 q6.2.2.1 (q17 == 0) q3.1 q3.2.1 q3.2.2.1 q6.2.2.2 q3.2.2.2 r H)
     ·refine dW c14 ?_; refine o_ ?_; refine nl hK ?_; refine kw [48, 64, 76, 116, 44] [0, 1, 4, 0, 0, 1, 0, 0, 64] ?_; exact gi (ih0 (Go.bits .and .i64 a0 7) a2 q4 q6.1 q6.2.1 q6.2.2.1 true q3.1 q3.2.1 q3.2.2.1 q6.2.2.2 q3.2.2.2 r H)
    ·refine dW c12 ?_; refine o_ ?_; refine nl hK ?_; refine kw [48, 64, 76, 116, 44] [0, 1, 4, 0, 0, 1, 0, 0, 64] ?_; exact gi (ih0 (Go.bits .and .i64 a0 7) a2 q4 q6.1 q6.2.1 q6.2.2.1 true q3.1 q3.2.1 q3.2.2.1 q6.2.2.2 q3.2.2.2 r H)
  ·refine dW c8 ?_; refine wT ?_; refine sr fun K hK => ?_; refine o_ ?_; refine nkt hK ?_; rw [← Option.some.inj H]; exact fw []
end Go.Proofs.YtikebaljjclbnaaDoor.F
namespace Go.Proofs.YtikebaljjclbnaaDoor.F
open Go Go.RowKit Go.Proofs.YtikebaljjclbnaaDoorW.PrintWords
open Go.Rk hiding Rd
set_option linter.unusedVariables false
set_option maxRecDepth 100000
def sub64Entry_ : Array Value → Sem Value := fun args => do
  let (x, y, b) ← Extern.MathBitsCarry.three "Sub64" args
  pure (Extern.MathBitsCarry.pair ((x + Extern.MathBitsCarry.m64 - y - b) % Extern.MathBitsCarry.m64) (if x < y + b then 1 else 0))
theorem run_sub64_ {P : Program} (x y b : Nat) (hb : b ≤ 1) (w : World) :
    (sub64Entry_ #[.int .u64 x, .int .u64 y, .int .u64 b]).run P w =
      .ok (.tuple #[.int .u64 (((x + 18446744073709551616 - y - b) % 18446744073709551616 : Nat) : Int), .int .u64 ((if x < y + b then 1 else 0 : Nat) : Int)]) w := by
  have : b = 0 ∨ b = 1 := by omega
  rcases this with rfl | rfl <;> rfl
theorem vs3 {ι : Io} {μ : Mu} {k k' k'' : IntKind} {x y c : Int} {args' : List Value} (h : Vs ι μ [.i k x, .i k' y, .i k'' c] args') : args' = [.int k x, .int k' y, .int k'' c] := by
  obtain ⟨a, l, rfl, ha, h⟩ := h.head
  obtain ⟨b, l, rfl, hb, h⟩ := h.head
  obtain ⟨d, l, rfl, hd, h⟩ := h.head
  rw [h.nil', ha.i_inv, hb.i_inv, hd.i_inv]
theorem vr2 {ι : Io} {μ : Mu} {x y : Int} : VR ι μ (.t [.i .u64 x, .i .u64 y]) (.tuple #[.int .u64 x, .int .u64 y]) :=
  .t (cs := [.int .u64 x, .int .u64 y]) rfl fun j hj => by
    match j, hj with
    | 0, _ => exact .c .i
    | 1, _ => exact .c .i
theorem envOk : EnvOk E0 where
  mixed := by kernel_rfl
  noNG := by
    intro f fn h
    have h0 : (Tryd.prog.funcs.toList.all fun fn => !(fn.name == "runtime.NumGoroutine")) = true := by kernel_rfl
    have h1 : fn ∈ Tryd.prog.funcs.toList := by
      have h : Tryd.prog.funcs[f]? = some fn := h
      exact Array.mem_toList_iff.2 (Array.mem_of_getElem? h)
    have := List.all_eq_true.1 h0 fn h1
    simpa using this
  ext := by
    intro f fn args args' ι μ w v hf hb he hv
    simp only [E0] at he
    split at he
    · rename_i e; subst e
      unfold addX at he
      split at he
      · split at he
        · rename_i hc
          cases he
          obtain ⟨c1, c2, c3, c4⟩ := hc
          rw [vs3 hv]
          refine ⟨_, ?_, vr2⟩
          show (callFunc 71 #[_, _, _]).run Tryd.prog w = _
          rw [run_callFunc_extern Tryd.func71 (by kernel_rfl) (by kernel_rfl) (by kernel_rfl) (e := add64Entry) (by kernel_rfl), run_add64 _ _ _ c1 c2 c3 c4]
          rfl
        · cases he
      · cases he
    · split at he
      · rename_i e; subst e
        unfold subX at he
        split at he
        · split at he
          · rename_i x y c hc
            cases he
            obtain ⟨c1, c2, c5, c3, c4⟩ := hc
            rw [vs3 hv]
            obtain ⟨x, rfl⟩ := Int.eq_ofNat_of_zero_le c1
            obtain ⟨y, rfl⟩ := Int.eq_ofNat_of_zero_le c2
            obtain ⟨b, rfl⟩ := Int.eq_ofNat_of_zero_le c3
            have e1 : (((x + 18446744073709551616 - y - b) % 18446744073709551616 : Nat) : Int) = ((x : Int) - y - b) % 18446744073709551616 := by omega
            have e2 : ((if x < y + b then 1 else 0 : Nat) : Int) = if (x : Int) < y + b then 1 else 0 := by split <;> split <;> omega
            rw [← e1, ← e2]
            refine ⟨_, ?_, vr2⟩
            show (callFunc 72 #[_, _, _]).run Tryd.prog w = _
            rw [run_callFunc_extern Tryd.func72 (by kernel_rfl) (by kernel_rfl) (by kernel_rfl) (e := sub64Entry_) (by kernel_rfl), run_sub64_ x y b (by omega)]
            rfl
          · cases he
        · cases he
      · cases he
end Go.Proofs.YtikebaljjclbnaaDoor.F
