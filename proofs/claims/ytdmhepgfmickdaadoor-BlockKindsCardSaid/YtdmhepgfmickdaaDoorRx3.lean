/- Texts of this claim, one behind the other: the functions, and that the machine does what they say. -/
import Derived.Test.YtdmhepgfmickdaaDoorRx0
import Derived.Test.YtdmhepgfmickdaaDoorRx1
import Derived.Test.YtdmhepgfmickdaaDoorRx2
import Derived.Test.YtdmhepgfmickdaaDoorRun2
import Derived.Laws.BitsLemmas
import Derived.ArgAppend
import Derived.Lib.AppendStr
set_option linter.constructorNameAsVariable false
set_option linter.unusedSimpArgs false
set_option linter.unusedVariables false
set_option linter.unusedSectionVars false
namespace Go.Proofs.YtdmhepgfmickdaaDoor.F
open Go Go.RowKit Go.Proofs.YtdmhepgfmickdaaDoorW.PrintWords
open Go.Rk hiding Rd
open Go.Proofs.Tryd
set_option linter.unusedVariables false
set_option linter.unusedSimpArgs false
set_option maxRecDepth 100000
set_option maxHeartbeats 8000000
theorem gimballaw15_plain.does {a0_0 a0_1 a0_2 a0_3 : Int} {r : Bool} (H : gimballaw15_plain.f a0_0 a0_1 a0_2 a0_3 = some r) : Do E0 (.fn 11 [.a [.i .u64 a0_0, .i .u64 a0_1, .i .u64 a0_2, .i .u64 a0_3]] [] (.b r) []) := by
 refine fnw ((gimballaw15_plain.Q a0_0 a0_1 a0_2 a0_3 r)) func11 ntmps11 ?_; unfold gimballaw15_plain.f at H; refine sr fun K hK => ?_; refine o_ ?_; refine nk hK ?_; refine w_seq ?_; refine wD fun K hK => ?_; refine o_ ?_; obtain ⟨q1, hq1, H⟩ := bnd H; refine cs [] func12 (word_Abs.does hq1) ?_; refine o_ ?_; rcases its H with ⟨c2, H⟩ | ⟨c2, H⟩
 ·refine dE c2 ?_; refine o_ ?_; refine g_nil (hK _ _ _ (by kernel_rfl) ?_); refine kt ?_; rw [← Option.some.inj H]; exact fw []
 ·refine dN c2 ?_; refine o_ ?_; rcases its H with ⟨c3, H⟩ | ⟨c3, H⟩
  ·refine dE c3 ?_; refine o_ ?_; obtain ⟨q4, hq4, H⟩ := bnd H; refine cs [] func12 (word_Abs.does hq4) ?_; refine o_ ?_; rcases its H with ⟨c5, H⟩ | ⟨c5, H⟩
   ·refine dE c5 ?_; refine o_ ?_; refine g_nil (hK _ _ _ (by kernel_rfl) ?_); refine kt ?_; rw [← Option.some.inj H]; exact fw []
   ·refine dN c5 ?_; refine o_ ?_; obtain ⟨q6, hq6, H⟩ := bnd H; refine cs [] func37 (word_Neg.does hq6) ?_; refine o_ ?_; obtain ⟨q7, hq7, H⟩ := bnd H; refine cs [] func37 (word_Neg.does hq7) ?_; refine g_neb rfl rfl Tryd.underlying4 rfl rfl (gT ?_); refine o_ ?_; refine g_nil (hK _ _ _ (by kernel_rfl) ?_); refine kt ?_; rw [← Option.some.inj H]; exact fw []
  ·refine dN c3 ?_; refine o_ ?_; refine g_nil (hK _ _ _ (by kernel_rfl) ?_); refine kt ?_; rw [← Option.some.inj H]; exact fw []
theorem dyad_Num_Near.does_l {a0_0 : Bool} {l0_1 : List Int} {a0_2 : Int} (k : Nat) : (∀ (n_4 e_6 : Int) (more_7 : Bool) (t_16 : List Int) (t_17 t_18 : Int) (h0_0 : Bool) (h0_1 : List Int) (h0_2 h1_0 h1_1 : Int) (r : Int × Int), dyad_Num_Near.l0 k n_4 e_6 more_7 t_16 t_17 t_18 h0_0 h0_1 h0_2 h1_0 h1_1 = some r → wk_ E0 (dyad_Num_Near.Q a0_0 l0_1 a0_2 r) (frs (bodyOf Tryd.f9) [1, 1, 1, 1, 0, 1, 0] []) (sub (bodyOf Tryd.f9) [1, 1, 1, 1, 0, 1, 0]) ⟨.u :: .p (some (0, 0)) :: .u :: .u :: .i .i64 n_4 :: .p (some (1, 0)) :: .i .i64 e_6 :: .b more_7 :: u_ 8 (.r (t_16.map (V.i .u32)) t_16.length true :: .i .i64 t_17 :: .i .i64 t_18 :: u_ 34 ([])), ofL [.row [.b h0_0, .r (h0_1.map (V.i .u32)) h0_1.length true, .i .i64 h0_2] 0 0 true true none, .row [.i .u64 h1_0, .i .u64 h1_1] 0 0 true true none], 2, 0⟩) := by
 induction k with
 | zero => exact by intros; simp [dyad_Num_Near.l0] at *
 | succ k ih =>
  have ih0 := ih
  refine ?_
  ·intro n_4 e_6 more_7 t_16 t_17 t_18 h0_0 h0_1 h0_2 h1_0 h1_1 r H; unfold dyad_Num_Near.l0 at H; refine fb ?_; refine w_loop ?_; refine sr fun K hK => ?_; refine o_ ?_; refine nk hK ?_; refine w_seq ?_; rcases its H with ⟨c1, H⟩ | ⟨c1, H⟩
   ·refine dT c1 ?_; refine wT ?_; refine sk ?_; refine w_seq ?_; refine w_block ?_; refine sr fun K hK => ?_; refine o_ ?_; obtain ⟨c2, H⟩ := it1 H; obtain ⟨c3, H⟩ := it1 H; refine g_ixr rfl rfl Tryd.underlying26 sz56 rfl rfl ao_ al_ (gT ?_); refine g_ldq rfl rfl ag56 sz56 rfl ao_ (gT ?_); refine o_ ?_; refine nk hK ?_; refine w_seq ?_; refine sr fun K hK => ?_; refine o_ ?_; refine nk hK ?_
    rcases its H with ⟨c4, H⟩ | ⟨c4, H⟩
    ·refine dT c4 ?_; refine wT ?_; refine sr fun K hK => ?_; refine o_ ?_; refine nksr hK fun K hK => ?_; refine o_ ?_; refine nk hK ?_; refine w_exit rfl ?_; refine k_seq ?_; refine wR fun K hK => ?_; refine o_ ?_; refine nl hK ?_; refine k_loop ?_; refine ww [0, 1] [1, 2, 0, 0, 0, 8, 0, 0] ?_; exact gi (ih0 n_4 (wrap64 (e_6 + 32)) true t_16 t_17 (wrap64 (t_18 + 1)) h0_0 h0_1 h0_2 h1_0 h1_1 r H)
    ·refine dF c4 ?_; refine wF ?_; refine sk ?_; refine wD fun K hK => ?_; refine o_ ?_; refine g_conv rfl rfl Tryd.underlying56 Tryd.underlying23 rfl (gT ?_); refine g_bd rfl rfl zr59 Tryd.underlying59 (pl := [(0, 1), (1, 1)]) (by kernel_rfl) ?_; refine gB ?_; refine o_ ?_; refine g_max rfl rfl rfl rfl (m := mx _ _) rfl (gT ?_); refine o_ ?_; obtain ⟨q5, hq5, H⟩ := bnd H
     refine cs [] func28 (wide_Wide_Left.does hq5) ?_; obtain ⟨q6, hq6, H⟩ := bnd H; refine cs [] func27 (wide_Wide_Add.does hq6) ?_; refine o_ ?_; refine g_nil (hK _ _ _ (by kernel_rfl) ?_); refine k_block ?_; refine k_seq ?_; refine wR fun K hK => ?_; refine o_ ?_; refine nl hK ?_; refine k_loop ?_; refine ww [0, 1] [1, 2, 0, 0, 0, 8, 0, 0] ?_
     exact gi (ih0 n_4 e_6 more_7 t_16 t_17 (wrap64 (t_18 + 1)) h0_0 h0_1 h0_2 q6.1 q6.2.1 r H)
   ·refine dF c1 ?_; refine wF ?_; refine w_exit rfl ?_; refine ksr fun K hK => ?_; refine o_ ?_; obtain ⟨q7, hq7, H⟩ := bnd H; refine cs [] func29 (round_Round.does hq7) ?_; refine o_ ?_; refine nkt hK ?_; rw [← Option.some.inj H]; exact fw []
theorem dyad_Num_Near.does {k : Nat} {a0_0 : Bool} {l0_1 : List Int} {a0_2 : Int} {r : Int × Int} (H : dyad_Num_Near.f k a0_0 l0_1 a0_2 = some r) : Do E0 (.fn 9 [.a [.b a0_0, .r (l0_1.map (V.i .u32)) l0_1.length true, .i .i64 a0_2]] [] (.t [.i .u64 r.1, .i .u8 r.2]) []) := by
 obtain ih0 := @dyad_Num_Near.does_l a0_0 l0_1 a0_2 k; refine fnw ((dyad_Num_Near.Q a0_0 l0_1 a0_2 r)) func9 ntmps9 ?_; unfold dyad_Num_Near.f at H; refine sr fun K hK => ?_; refine o_ ?_; refine nksr hK fun K hK => ?_; refine o_ ?_; refine g_len_r rfl rfl Tryd.underlying26 rfl (gT ?_); refine o_ ?_; refine nksr hK fun K hK => ?_; refine o_ ?_; refine nksr hK fun K hK => ?_; refine o_ ?_
 refine nk hK ?_; refine w_seq ?_; refine sr fun K hK => ?_; refine o_ ?_; refine g_len_r rfl rfl Tryd.underlying26 rfl (gT ?_); refine o_ ?_; refine nk hK ?_; refine w_block ?_; refine ww [0, 28] [1, 2, 0, 0, 0, 8, 0, 0] ?_; exact gi (ih0 (l0_1.length : Int) a0_2 false l0_1 (l0_1.length : Int) 0 a0_0 l0_1 a0_2 0 0 r H)
theorem gimballaw15_BlockKinds_1.does {k : Nat} {a0 r : Int} (H : gimballaw15_BlockKinds_1.f k a0 = some r) : Do E0 (.fn 7 [.i .i64 a0] [] (.i .u64 r) []) := by
 refine fnw ((gimballaw15_BlockKinds_1.Q a0 r)) func7 ntmps7 ?_; unfold gimballaw15_BlockKinds_1.f at H; refine sr fun K hK => ?_; refine o_ ?_; refine nksr hK fun K hK => ?_; refine o_ ?_; obtain ⟨q1, hq1, H⟩ := bnd H; refine cs [] func8 (dyad_Int.does hq1) ?_; obtain ⟨q2, hq2, H⟩ := bnd H; refine cs [] func9 (dyad_Num_Near.does hq2) ?_; refine o_ ?_; refine nksr hK fun K hK => ?_; refine o_ ?_
 refine nkt hK ?_; rw [← Option.some.inj H]; exact fw []
theorem gimballaw15_BlockKinds.does_l {a0 a1 a2 a3 : Int} (k : Nat) : (∀ (a_0 b_1 c_2 d_3 : Int) (t_54 : Bool) (h0_0 h0_1 h0_2 h0_3 : Int) (r : Bool), gimballaw15_BlockKinds.j0 k a_0 b_1 c_2 d_3 t_54 h0_0 h0_1 h0_2 h0_3 = some r → kont E0 (gimballaw15_BlockKinds.Q a0 a1 a2 a3 r) (frs (bodyOf Tryd.f3) [1, 1, 1, 1, 1, 1, 1, 1, 0, 0] []) .normal ⟨.i .i64 a_0 :: .i .i64 b_1 :: .i .i64 c_2 :: .i .i64 d_3 :: u_ 7 (.p (some (0, 0)) :: u_ 42 (.b t_54 :: u_ 26 ([]))), ofL [.row [.i .u64 h0_0, .i .u64 h0_1, .i .u64 h0_2, .i .u64 h0_3] 0 0 true true none], 1, 0⟩) := by
 induction k with
 | zero => exact by intros; simp [gimballaw15_BlockKinds.j0] at *
 | succ k ih =>
  have ih0 := ih
  refine ?_
  ·intro a_0 b_1 c_2 d_3 t_54 h0_0 h0_1 h0_2 h0_3 r H; unfold gimballaw15_BlockKinds.j0 at H; refine fb ?_; refine k_seq ?_; rcases its H with ⟨c9, H⟩ | ⟨c9, H⟩
   ·refine dV c9 ?_; refine wT ?_; refine sr fun K hK => ?_; refine o_ ?_; refine nkt hK ?_; rw [← Option.some.inj H]; exact fw []
   ·refine dW c9 ?_; refine wF ?_; refine sk ?_; refine sr fun K hK => ?_; refine o_ ?_; refine nk hK ?_; refine w_seq ?_; refine sr fun K hK => ?_; refine o_ ?_; refine nk hK ?_; rcases its H with ⟨c10, H⟩ | ⟨c10, H⟩
    ·refine dT c10 ?_; refine wT ?_; refine sr fun K hK => ?_; refine o_ ?_; obtain ⟨q11, hq11, H⟩ := bnd H; refine cs [] func12 (word_Abs.does hq11) ?_; refine o_ ?_; refine nkt hK ?_; rw [← Option.some.inj H]; exact fw []
    ·refine dF c10 ?_; refine wF ?_; refine sk ?_; refine sr fun K hK => ?_; refine o_ ?_; rcases its H with ⟨c12, H⟩ | ⟨c12, H⟩
     ·refine dE c12 ?_; refine o_ ?_; refine nkt hK ?_; rw [← Option.some.inj H]; exact fw []
     ·refine dN c12 ?_; refine o_ ?_; obtain ⟨q13, hq13, H⟩ := bnd H; refine cs [] func12 (word_Abs.does hq13) ?_; refine o_ ?_; refine nkt hK ?_; rw [← Option.some.inj H]; exact fw []
theorem gimballaw15_BlockKinds.does {k : Nat} {a0 a1 a2 a3 : Int} {r : Bool} (H : gimballaw15_BlockKinds.f k a0 a1 a2 a3 = some r) : Do E0 (.fn 3 [.i .i64 a0, .i .i64 a1, .i .i64 a2, .i .i64 a3] [] (.b r) []) := by
 obtain ih0 := @gimballaw15_BlockKinds.does_l a0 a1 a2 a3 k; refine fnw ((gimballaw15_BlockKinds.Q a0 a1 a2 a3 r)) func3 ntmps3 ?_; unfold gimballaw15_BlockKinds.f at H; refine sr fun K hK => ?_; refine o_ ?_; refine nk hK ?_; refine w_seq ?_; refine sr fun K hK => ?_; obtain ⟨q1, hq1, H⟩ := bnd H; refine cs [] func6 (gimballaw15_head_ok.does hq1) ?_; refine o_ ?_; refine nk hK ?_; refine wF ?_
 refine sk ?_; refine sr fun K hK => ?_; refine o_ ?_; refine nksr hK fun K hK => ?_; refine o_ ?_; refine nksr hK fun K hK => ?_; refine o_ ?_; refine nksr hK fun K hK => ?_; refine o_ ?_; refine nksr hK fun K hK => ?_; refine o_ ?_; refine nksr hK fun K hK => ?_; refine o_ ?_; obtain ⟨q2, hq2, H⟩ := bnd H; refine cs [] func7 (gimballaw15_BlockKinds_1.does hq2) ?_; refine o_ ?_
 obtain ⟨q3, hq3, H⟩ := bnd H; refine cs [] func7 (gimballaw15_BlockKinds_1.does hq3) ?_; refine o_ ?_; obtain ⟨q4, hq4, H⟩ := bnd H; refine cs [] func7 (gimballaw15_BlockKinds_1.does hq4) ?_; refine o_ ?_; obtain ⟨q5, hq5, H⟩ := bnd H; refine cs [] func7 (gimballaw15_BlockKinds_1.does hq5) ?_
 refine g_bd rfl rfl zr35 Tryd.underlying35 (pl := [(0, 1), (1, 1), (2, 1), (3, 1)]) (by kernel_rfl) ?_; refine gB ?_; obtain ⟨q6, hq6, H⟩ := bnd H; refine cs [] func10 (block_Standard.does hq6) ?_; refine o_ ?_; refine nk hK ?_; refine w_seq ?_; refine sr fun K hK => ?_; refine o_ ?_; rcases its H with ⟨c7, H⟩ | ⟨c7, H⟩
 ·refine dE c7 ?_; refine o_ ?_; obtain ⟨q8, hq8, H⟩ := bnd H; refine cs [] func11 (gimballaw15_plain.does hq8) ?_; refine o_ ?_; refine nl hK ?_; refine kw [160] [0, 0, 0, 0, 7, 42] ?_
  exact gi (ih0 (wrap64 ((Go.bits .and .i64 a0 127) - 64)) (wrap64 ((Go.bits .and .i64 a1 127) - 64)) (wrap64 ((Go.bits .and .i64 a2 127) - 64)) (wrap64 ((Go.bits .and .i64 a3 127) - 64)) (!q8) q6.2.2.1 q6.2.2.2.1 q6.2.2.2.2.1 q6.2.2.2.2.2.1 r H)
 ·refine dN c7 ?_; refine o_ ?_; refine nl hK ?_; refine kw [160] [0, 0, 0, 0, 7, 42] ?_; exact gi (ih0 (wrap64 ((Go.bits .and .i64 a0 127) - 64)) (wrap64 ((Go.bits .and .i64 a1 127) - 64)) (wrap64 ((Go.bits .and .i64 a2 127) - 64)) (wrap64 ((Go.bits .and .i64 a3 127) - 64)) true q6.2.2.1 q6.2.2.2.1 q6.2.2.2.2.1 q6.2.2.2.2.2.1 r H)
end Go.Proofs.YtdmhepgfmickdaaDoor.F
