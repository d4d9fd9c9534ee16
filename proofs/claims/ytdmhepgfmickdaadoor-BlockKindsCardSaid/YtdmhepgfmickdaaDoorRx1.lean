/- Texts of this claim, one behind the other: the functions, and that the machine does what they say. -/
import Derived.Test.YtdmhepgfmickdaaDoorRx0
set_option linter.constructorNameAsVariable false
set_option linter.unusedSimpArgs false
set_option linter.unusedVariables false
set_option linter.unusedSectionVars false
namespace Go.Proofs.YtdmhepgfmickdaaDoor.F
open Go Go.RowKit Go.Proofs.YtdmhepgfmickdaaDoorW.PrintWords
open Go.Rk hiding Rd
open Go.Proofs.Tryd
set_option linter.unusedVariables false
set_option linter.unusedSimpArgs false
set_option maxRecDepth 100000
set_option maxHeartbeats 8000000
theorem word_Kind.does_l {a0 : Int} (k : Nat) : (∀ (e_3 f_4 : Int) (t_9 : Bool) (r : Int), word_Kind.j0 k e_3 f_4 t_9 = some r → kont E0 (word_Kind.Q a0 r) (frs (bodyOf Tryd.f39) [1, 0, 1, 0, 0] []) .normal ⟨u_ 3 (.i .i64 e_3 :: .i .u64 f_4 :: u_ 4 (.b t_9 :: u_ 15 ([]))), ofL [], 0, 0⟩) := by
 induction k with
 | zero => exact by intros; simp [word_Kind.j0] at *
 | succ k ih =>
  have ih0 := ih
  refine ?_
  ·intro e_3 f_4 t_9 r H; unfold word_Kind.j0 at H; refine fb ?_; refine k_seq ?_; rcases its H with ⟨c4, H⟩ | ⟨c4, H⟩
   ·refine dV c4 ?_; refine wT ?_; refine sr fun K hK => ?_; refine o_ ?_; refine nkt hK ?_; rw [← Option.some.inj H]; exact fw []
   ·refine dW c4 ?_; refine wF ?_; refine sr fun K hK => ?_; refine o_ ?_; refine nk hK ?_; rcases its H with ⟨c5, H⟩ | ⟨c5, H⟩
    ·refine dE c5 ?_; refine wT ?_; refine sr fun K hK => ?_; refine o_ ?_; refine nkt hK ?_; rw [← Option.some.inj H]; exact fw []
    ·refine dN c5 ?_; refine wF ?_; refine sr fun K hK => ?_; refine o_ ?_; refine nk hK ?_; rcases its H with ⟨c6, H⟩ | ⟨c6, H⟩
     ·refine dT c6 ?_; refine wT ?_; refine sr fun K hK => ?_; refine o_ ?_; refine nkt hK ?_; rw [← Option.some.inj H]; exact fw []
     ·refine dF c6 ?_; refine wF ?_; refine sr fun K hK => ?_; refine o_ ?_; refine nk hK ?_; rcases its H with ⟨c7, H⟩ | ⟨c7, H⟩
      ·refine dE c7 ?_; refine wT ?_; refine sr fun K hK => ?_; refine o_ ?_; refine nkt hK ?_; rw [← Option.some.inj H]; exact fw []
      ·refine dN c7 ?_; refine wF ?_; refine w_skip ?_; refine k_block ?_; refine ksr fun K hK => ?_; refine o_ ?_; refine nkt hK ?_; rw [← Option.some.inj H]; exact fw []
theorem word_Kind.does {k : Nat} {a0 r : Int} (H : word_Kind.f k a0 = some r) : Do E0 (.fn 39 [.i .u64 a0] [] (.i .i64 r) []) := by
 obtain ih0 := @word_Kind.does_l a0 k; refine fnw ((word_Kind.Q a0 r)) func39 ntmps39 ?_; unfold word_Kind.f at H; refine sr fun K hK => ?_; refine o_ ?_; refine nk hK ?_; refine w_seq ?_; refine sr fun K hK => ?_; refine o_ ?_; obtain ⟨q1, hq1, H⟩ := bnd H; refine cs [] func38 (word_Exp.does hq1) ?_; refine o_ ?_; obtain ⟨q2, hq2, H⟩ := bnd H; refine cs [] func66 (word_Frac.does hq2) ?_
 refine o_ ?_; refine nk hK ?_; refine w_block ?_; refine sr fun K hK => ?_; refine o_ ?_; rcases its H with ⟨c3, H⟩ | ⟨c3, H⟩
 ·refine dE c3 ?_; refine o_ ?_; refine nl hK ?_; refine kw [] [3, 0, 4] ?_; exact gi (ih0 q1 q2 (q2 == 0) r H)
 ·refine dN c3 ?_; refine o_ ?_; refine nl hK ?_; refine kw [] [3, 0, 4] ?_; exact gi (ih0 q1 q2 false r H)
theorem word_Abs.does {a0 r : Int} (H : word_Abs.f a0 = some r) : Do E0 (.fn 12 [.i .u64 a0] [] (.i .u64 r) []) := by
 refine fnw ((word_Abs.Q a0 r)) func12 ntmps12 ?_; unfold word_Abs.f at H; refine sr fun K hK => ?_; refine o_ ?_; refine nksr hK fun K hK => ?_; refine o_ ?_; refine nkt hK ?_; rw [← Option.some.inj H]; exact fw []
theorem word_Signals.does {k : Nat} {a0 : Int} {r : Bool} (H : word_Signals.f k a0 = some r) : Do E0 (.fn 65 [.i .u64 a0] [] (.b r) []) := by
 refine fnw ((word_Signals.Q a0 r)) func65 ntmps65 ?_; unfold word_Signals.f at H; refine sr fun K hK => ?_; refine o_ ?_; refine nksr hK fun K hK => ?_; refine o_ ?_; obtain ⟨q1, hq1, H⟩ := bnd H; refine cs [] func39 (word_Kind.does hq1) ?_; refine o_ ?_; rcases its H with ⟨c2, H⟩ | ⟨c2, H⟩
 ·refine dE c2 ?_; refine o_ ?_; refine g_shrc (p := 2251799813685248) rfl rfl rfl rfl de_ (by rfl) (gT ?_); refine o_ ?_; refine nkt hK ?_; rw [← Option.some.inj H]; exact fw []
 ·refine dN c2 ?_; refine o_ ?_; refine nkt hK ?_; rw [← Option.some.inj H]; exact fw []
theorem word_Neg.does {a0 : Int} {r : Bool} (H : word_Neg.f a0 = some r) : Do E0 (.fn 37 [.i .u64 a0] [] (.b r) []) := by
 refine fnw ((word_Neg.Q a0 r)) func37 ntmps37 ?_; unfold word_Neg.f at H; refine sr fun K hK => ?_; refine o_ ?_; refine nksr hK fun K hK => ?_; refine o_ ?_; refine g_shrc (p := 9223372036854775808) rfl rfl rfl rfl de_ (by rfl) (gT ?_); refine o_ ?_; refine nkt hK ?_; rw [← Option.some.inj H]; exact fw []
theorem word_Parts.does {k : Nat} {a0 : Int} {r : Int × Int} (H : word_Parts.f k a0 = some r) : Do E0 (.fn 56 [.i .u64 a0] [] (.t [.i .u64 r.1, .i .i64 r.2]) []) := by
 refine fnw ((word_Parts.Q a0 r)) func56 ntmps56 ?_; unfold word_Parts.f at H; refine sr fun K hK => ?_; refine o_ ?_; refine nk hK ?_; refine w_seq ?_; refine sr fun K hK => ?_; refine o_ ?_; obtain ⟨q1, hq1, H⟩ := bnd H; refine cs [] func39 (word_Kind.does hq1) ?_; refine nk hK ?_; refine w_block ?_; refine sr fun K hK => ?_; refine o_ ?_; refine nk hK ?_; rcases its H with ⟨c2, H⟩ | ⟨c2, H⟩
 ·refine dE c2 ?_; refine wT ?_; refine sr fun K hK => ?_; refine o_ ?_; obtain ⟨q3, hq3, H⟩ := bnd H; refine cs [] func66 (word_Frac.does hq3) ?_; refine o_ ?_; refine nkt hK ?_; rw [← Option.some.inj H]; exact fw []
 ·refine dN c2 ?_; refine wF ?_; refine sr fun K hK => ?_; refine o_ ?_; refine nk hK ?_; rcases its H with ⟨c4, H⟩ | ⟨c4, H⟩
  ·refine dE c4 ?_; refine wT ?_; refine sr fun K hK => ?_; refine o_ ?_; obtain ⟨q5, hq5, H⟩ := bnd H; refine cs [] func66 (word_Frac.does hq5) ?_; refine o_ ?_; obtain ⟨q6, hq6, H⟩ := bnd H; refine cs [] func38 (word_Exp.does hq6) ?_; refine o_ ?_; refine nkt hK ?_; rw [← Option.some.inj H]; exact fw []
  ·refine dN c4 ?_; refine wF ?_; refine w_skip ?_; refine k_block ?_; refine ksr fun K hK => ?_; refine o_ ?_; refine nkt hK ?_; rw [← Option.some.inj H]; exact fw []
theorem bits_Len64.does_l {a0 : Int} (k : Nat) : (∀ (x_0 n_2 r : Int), bits_Len64.j0 k x_0 n_2 = some r → kont E0 (bits_Len64.Q a0 r) (frs (bodyOf Tryd.f69) [1, 0, 1] []) .normal ⟨.i .u64 x_0 :: .u :: .i .i64 n_2 :: u_ 22 ([]), ofL [], 0, 0⟩) := by
 induction k with
 | zero => exact by intros; simp [bits_Len64.j0] at *
 | succ k ih =>
  have ih0 := ih
  refine ?_
  ·intro x_0 n_2 r H; unfold bits_Len64.j0 at H; refine fb ?_; refine k_seq ?_; refine w_seq ?_; refine sr fun K hK => ?_; refine o_ ?_; refine nk hK ?_; rcases its H with ⟨c2, H⟩ | ⟨c2, H⟩
   ·refine dT c2 ?_; refine wT ?_; refine sr fun K hK => ?_; refine o_ ?_; refine g_shrc (p := 65536) rfl rfl rfl rfl de_ (by rfl) (gT ?_); refine o_ ?_; refine nk hK ?_; refine wR fun K hK => ?_; refine o_ ?_; refine nk hK ?_; refine w_seq ?_; refine sr fun K hK => ?_; refine o_ ?_; refine nk hK ?_; rcases its H with ⟨c3, H⟩ | ⟨c3, H⟩
    ·refine dT c3 ?_; refine wT ?_; refine sr fun K hK => ?_; refine o_ ?_; refine g_shrc (p := 256) rfl rfl rfl rfl de_ (by rfl) (gT ?_); refine o_ ?_; refine nk hK ?_; refine wR fun K hK => ?_; refine o_ ?_; refine nksr hK fun K hK => ?_; refine o_ ?_; refine g_conv rfl rfl Tryd.underlying23 Tryd.underlying5 rfl (gT ?_); obtain ⟨c4, H⟩ := it1 H; obtain ⟨c5, H⟩ := it1 H
     refine g_ixt rfl rfl Tryd.underlying9 rfl rfl ao_ (by show _ < 256; omega) (v := bt _ _) (bt_at _ _ _) (gT ?_); refine g_conv rfl rfl Tryd.underlying5 Tryd.underlying3 rfl (gT ?_); refine o_ ?_; refine nkt hK ?_; rw [← Option.some.inj H]; exact fw []
    ·refine dF c3 ?_; refine wF ?_; refine sk ?_; refine sr fun K hK => ?_; refine o_ ?_; refine g_conv rfl rfl Tryd.underlying23 Tryd.underlying5 rfl (gT ?_); obtain ⟨c6, H⟩ := it1 H; obtain ⟨c7, H⟩ := it1 H; refine g_ixt rfl rfl Tryd.underlying9 rfl rfl ao_ (by show _ < 256; omega) (v := bt _ _) (bt_at _ _ _) (gT ?_); refine g_conv rfl rfl Tryd.underlying5 Tryd.underlying3 rfl (gT ?_); refine o_ ?_
     refine nkt hK ?_; rw [← Option.some.inj H]; exact fw []
   ·refine dF c2 ?_; refine wF ?_; refine sk ?_; refine w_seq ?_; refine sr fun K hK => ?_; refine o_ ?_; refine nk hK ?_; rcases its H with ⟨c8, H⟩ | ⟨c8, H⟩
    ·refine dT c8 ?_; refine wT ?_; refine sr fun K hK => ?_; refine o_ ?_; refine g_shrc (p := 256) rfl rfl rfl rfl de_ (by rfl) (gT ?_); refine o_ ?_; refine nk hK ?_; refine wR fun K hK => ?_; refine o_ ?_; refine nksr hK fun K hK => ?_; refine o_ ?_; refine g_conv rfl rfl Tryd.underlying23 Tryd.underlying5 rfl (gT ?_); obtain ⟨c9, H⟩ := it1 H; obtain ⟨c10, H⟩ := it1 H
     refine g_ixt rfl rfl Tryd.underlying9 rfl rfl ao_ (by show _ < 256; omega) (v := bt _ _) (bt_at _ _ _) (gT ?_); refine g_conv rfl rfl Tryd.underlying5 Tryd.underlying3 rfl (gT ?_); refine o_ ?_; refine nkt hK ?_; rw [← Option.some.inj H]; exact fw []
    ·refine dF c8 ?_; refine wF ?_; refine sk ?_; refine sr fun K hK => ?_; refine o_ ?_; refine g_conv rfl rfl Tryd.underlying23 Tryd.underlying5 rfl (gT ?_); obtain ⟨c11, H⟩ := it1 H; obtain ⟨c12, H⟩ := it1 H; refine g_ixt rfl rfl Tryd.underlying9 rfl rfl ao_ (by show _ < 256; omega) (v := bt _ _) (bt_at _ _ _) (gT ?_); refine g_conv rfl rfl Tryd.underlying5 Tryd.underlying3 rfl (gT ?_); refine o_ ?_
     refine nkt hK ?_; rw [← Option.some.inj H]; exact fw []
theorem bits_Len64.does {k : Nat} {a0 r : Int} (H : bits_Len64.f k a0 = some r) : Do E0 (.fn 69 [.i .u64 a0] [] (.i .i64 r) []) := by
 obtain ih0 := @bits_Len64.does_l a0 k; refine fnw ((bits_Len64.Q a0 r)) func69 ntmps69 ?_; unfold bits_Len64.f at H; refine sr fun K hK => ?_; refine o_ ?_; refine nk hK ?_; refine w_seq ?_; refine sr fun K hK => ?_; refine o_ ?_; refine nk hK ?_; rcases its H with ⟨c1, H⟩ | ⟨c1, H⟩
 ·refine dT c1 ?_; refine wT ?_; refine sr fun K hK => ?_; refine o_ ?_; refine g_shrc (p := 4294967296) rfl rfl rfl rfl de_ (by rfl) (gT ?_); refine o_ ?_; refine nk hK ?_; refine wR fun K hK => ?_; refine o_ ?_; refine nl hK ?_; refine kw [] [0, 1] ?_; exact gi (ih0 (a0 / 4294967296) 32 r H)
 ·refine dF c1 ?_; refine wF ?_; refine w_skip ?_; refine kw [] [0, 1] ?_; exact gi (ih0 a0 0 r H)
theorem wide_Wide_Left.does {a0_0 a0_1 a1 : Int} {r : Int × Int} (H : wide_Wide_Left.f a0_0 a0_1 a1 = some r) : Do E0 (.fn 28 [.a [.i .u64 a0_0, .i .u64 a0_1], .i .i64 a1] [] (.a [.i .u64 r.1, .i .u64 r.2]) []) := by
 refine fnw ((wide_Wide_Left.Q a0_0 a0_1 a1 r)) func28 ntmps28 ?_; unfold wide_Wide_Left.f at H; refine sr fun K hK => ?_; refine o_ ?_; refine nk hK ?_; refine w_seq ?_; refine w_block ?_; refine sr fun K hK => ?_; refine o_ ?_; refine nk hK ?_; rcases its H with ⟨c1, H⟩ | ⟨c1, H⟩
 ·refine dT c1 ?_; refine wT ?_; refine sr fun K hK => ?_; refine o_ ?_; refine nkt hK ?_; rw [← Option.some.inj H]; exact fw []
 ·refine dF c1 ?_; refine wF ?_; refine sr fun K hK => ?_; refine o_ ?_; refine nk hK ?_; rcases its H with ⟨c2, H⟩ | ⟨c2, H⟩
  ·refine dT c2 ?_; refine wT ?_; refine sr fun K hK => ?_; refine g_bd rfl rfl zr59 Tryd.underlying59 (pl := [(0, 1), (1, 1)]) (by kernel_rfl) ?_; refine gB ?_; refine o_ ?_; refine nkt hK ?_; rw [← Option.some.inj H]; exact fw []
  ·refine dF c2 ?_; refine wF ?_; refine sr fun K hK => ?_; refine o_ ?_; refine nk hK ?_; rcases its H with ⟨c3, H⟩ | ⟨c3, H⟩
   ·refine dT c3 ?_; refine wT ?_; refine sr fun K hK => ?_; refine o_ ?_; obtain ⟨c4, H⟩ := it1 H; refine g_shl rfl rfl rfl rfl (by omega) (gT ?_); refine g_bd rfl rfl zr59 Tryd.underlying59 (pl := [(0, 1), (1, 1)]) (by kernel_rfl) ?_; refine gB ?_; refine o_ ?_; refine nkt hK ?_; rw [← Option.some.inj H]; exact fw []
   ·refine dF c3 ?_; refine wF ?_; refine w_skip ?_; refine k_block ?_; refine k_seq ?_; refine w_seq ?_; refine wD fun K hK => ?_; refine o_ ?_; obtain ⟨c5, H⟩ := it1 H; refine g_shl rfl rfl rfl rfl (by omega) (gT ?_); refine o_ ?_; obtain ⟨c6, H⟩ := it1 H; refine g_shr rfl rfl rfl rfl (by omega) (gT ?_); refine o_ ?_; refine g_shl rfl rfl rfl rfl (by omega) (gT ?_)
    refine g_bd rfl rfl zr59 Tryd.underlying59 (pl := [(0, 1), (1, 1)]) (by kernel_rfl) ?_; refine gB ?_; refine o_ ?_; refine g_nil (hK _ _ _ (by kernel_rfl) ?_); refine kt ?_; rw [← Option.some.inj H]; exact fw []
theorem bits_Mul64.does {a0 a1 : Int} {r : Int × Int} (H : bits_Mul64.f a0 a1 = some r) : Do E0 (.fn 84 [.i .u64 a0, .i .u64 a1] [] (.t [.i .u64 r.1, .i .u64 r.2]) []) := by
 refine fnw ((bits_Mul64.Q a0 a1 r)) func84 ntmps84 ?_; unfold bits_Mul64.f at H; refine sr fun K hK => ?_; refine o_ ?_; refine nksr hK fun K hK => ?_; refine o_ ?_; refine nksr hK fun K hK => ?_; refine o_ ?_; refine g_shrc (p := 4294967296) rfl rfl rfl rfl de_ (by rfl) (gT ?_); refine o_ ?_; refine nksr hK fun K hK => ?_; refine o_ ?_; refine nksr hK fun K hK => ?_; refine o_ ?_
 refine g_shrc (p := 4294967296) rfl rfl rfl rfl de_ (by rfl) (gT ?_); refine o_ ?_; refine nksr hK fun K hK => ?_; refine o_ ?_; refine nksr hK fun K hK => ?_; refine o_ ?_; refine g_shrc (p := 4294967296) rfl rfl rfl rfl de_ (by rfl) (gT ?_); refine o_ ?_; refine nksr hK fun K hK => ?_; refine o_ ?_; refine nksr hK fun K hK => ?_; refine o_ ?_
 refine g_shrc (p := 4294967296) rfl rfl rfl rfl de_ (by rfl) (gT ?_); refine o_ ?_; refine nksr hK fun K hK => ?_; refine o_ ?_; refine nksr hK fun K hK => ?_; refine o_ ?_; refine g_shrc (p := 4294967296) rfl rfl rfl rfl de_ (by rfl) (gT ?_); refine o_ ?_; refine nksr hK fun K hK => ?_; refine o_ ?_; refine nkt hK ?_; rw [← Option.some.inj H]; exact fw []
theorem wide_Mul.does {a0 a1 : Int} {r : Int × Int} (H : wide_Mul.f a0 a1 = some r) : Do E0 (.fn 78 [.i .u64 a0, .i .u64 a1] [] (.a [.i .u64 r.1, .i .u64 r.2]) []) := by
 refine fnw ((wide_Mul.Q a0 a1 r)) func78 ntmps78 ?_; unfold wide_Mul.f at H; refine sr fun K hK => ?_; refine o_ ?_; refine nksr hK fun K hK => ?_; refine o_ ?_; obtain ⟨q1, hq1, H⟩ := bnd H; refine cs [] func84 (bits_Mul64.does hq1) ?_; refine o_ ?_; refine nksr hK fun K hK => ?_; refine o_ ?_; refine g_bd rfl rfl zr59 Tryd.underlying59 (pl := [(0, 1), (1, 1)]) (by kernel_rfl) ?_; refine gB ?_
 refine o_ ?_; refine nkt hK ?_; rw [← Option.some.inj H]; exact fw []
theorem wide_Wide_Cmp.does_l {a0_0 a0_1 a1_0 a1_1 : Int} (k : Nat) : (∀ (t_5 : Bool) (h0_0 h0_1 h1_0 h1_1 r : Int), wide_Wide_Cmp.j0 k t_5 h0_0 h0_1 h1_0 h1_1 = some r → kont E0 (wide_Wide_Cmp.Q a0_0 a0_1 a1_0 a1_1 r) (frs (bodyOf Tryd.f79) [1, 0, 0, 0] []) .normal ⟨.u :: .u :: .p (some (0, 0)) :: .p (some (1, 0)) :: .u :: .b t_5 :: u_ 23 ([]), ofL [.row [.i .u64 h0_0, .i .u64 h0_1] 0 0 true true none, .row [.i .u64 h1_0, .i .u64 h1_1] 0 0 true true none], 2, 0⟩) := by
 induction k with
 | zero => exact by intros; simp [wide_Wide_Cmp.j0] at *
 | succ k ih =>
  have ih0 := ih
  refine ?_
  ·intro t_5 h0_0 h0_1 h1_0 h1_1 r H; unfold wide_Wide_Cmp.j0 at H; refine fb ?_; refine k_seq ?_; rcases its H with ⟨c3, H⟩ | ⟨c3, H⟩
   ·refine dV c3 ?_; refine wT ?_; refine sr fun K hK => ?_; refine o_ ?_; refine nkt hK ?_; rw [← Option.some.inj H]; exact fw []
   ·refine dW c3 ?_; refine wF ?_; refine sr fun K hK => ?_; refine o_ ?_
    refine g_same rfl rfl (c := .b ((h0_0 == h1_0) && ((h0_1 == h1_1)))) (by simp only [nrm]; (try simp only [Int.toNat_zero, Int.toNat_one, Nat.zero_mul, Nat.one_mul, Nat.reduceMul, List.drop_succ_cons, List.drop_zero, List.take_succ_cons, List.take_zero]); simp only [binV, eqs59, Go.Rk.Rd.of, Go.Rk.Rd.bind, Bool.and_true, Bool.not_and]) (gT ?_); refine o_ ?_; refine nk hK ?_
    rcases its H with ⟨c4, H⟩ | ⟨c4, H⟩
    ·refine dV c4 ?_; refine wT ?_; refine sr fun K hK => ?_; refine o_ ?_; refine nkt hK ?_; rw [← Option.some.inj H]; exact fw []
    ·refine dW c4 ?_; refine wF ?_; refine w_skip ?_; refine k_block ?_; refine ksr fun K hK => ?_; refine o_ ?_; refine nkt hK ?_; rw [← Option.some.inj H]; exact fw []
theorem wide_Wide_Cmp.does {k : Nat} {a0_0 a0_1 a1_0 a1_1 r : Int} (H : wide_Wide_Cmp.f k a0_0 a0_1 a1_0 a1_1 = some r) : Do E0 (.fn 79 [.a [.i .u64 a0_0, .i .u64 a0_1], .a [.i .u64 a1_0, .i .u64 a1_1]] [] (.i .i64 r) []) := by
 obtain ih0 := @wide_Wide_Cmp.does_l a0_0 a0_1 a1_0 a1_1 k; refine fnw ((wide_Wide_Cmp.Q a0_0 a0_1 a1_0 a1_1 r)) func79 ntmps79 ?_; unfold wide_Wide_Cmp.f at H; refine sr fun K hK => ?_; refine o_ ?_; refine nk hK ?_; refine w_seq ?_; refine w_block ?_; refine sr fun K hK => ?_; refine o_ ?_; rcases its H with ⟨c1, H⟩ | ⟨c1, H⟩
 ·refine dT c1 ?_; refine o_ ?_; refine nl hK ?_; refine kw [0, 4] [2, 0, 1] ?_; exact gi (ih0 true a0_0 a0_1 a1_0 a1_1 r H)
 ·refine dF c1 ?_; refine o_ ?_; rcases its H with ⟨c2, H⟩ | ⟨c2, H⟩
  ·refine dE c2 ?_; refine o_ ?_; refine nl hK ?_; refine kw [0, 4] [2, 0, 1] ?_; exact gi (ih0 (decide (a0_1 < a1_1)) a0_0 a0_1 a1_0 a1_1 r H)
  ·refine dN c2 ?_; refine o_ ?_; refine nl hK ?_; refine kw [0, 4] [2, 0, 1] ?_; exact gi (ih0 false a0_0 a0_1 a1_0 a1_1 r H)
theorem wide_Wide_Sqrt.does_l {a0_0 a0_1 : Int} (k : Nat) : (∀ (root_4 i_5 h0_0 h0_1 : Int) (r : Int × Bool), wide_Wide_Sqrt.l0 k root_4 i_5 h0_0 h0_1 = some r → wk_ E0 (wide_Wide_Sqrt.Q a0_0 a0_1 r) (frs (bodyOf Tryd.f70) [1, 1, 0, 1, 0] []) (sub (bodyOf Tryd.f70) [1, 1, 0, 1, 0]) ⟨.u :: .p (some (0, 0)) :: .u :: .u :: .i .u64 root_4 :: .i .i64 i_5 :: u_ 22 ([]), ofL [.row [.i .u64 h0_0, .i .u64 h0_1] 0 0 true true none], 1, 0⟩) := by
 induction k with
 | zero => exact by intros; simp [wide_Wide_Sqrt.l0] at *
 | succ k ih =>
  have ih0 := ih
  refine ?_
  ·intro root_4 i_5 h0_0 h0_1 r H; unfold wide_Wide_Sqrt.l0 at H; refine fb ?_; refine w_loop ?_; refine w_seq ?_; refine sr fun K hK => ?_; refine o_ ?_; refine nk hK ?_; rcases its H with ⟨c1, H⟩ | ⟨c1, H⟩
   ·refine dT c1 ?_; refine wT ?_; refine sk ?_; refine w_seq ?_; refine w_block ?_; refine sr fun K hK => ?_; refine o_ ?_; obtain ⟨c2, H⟩ := it1 H; refine g_shl rfl rfl rfl rfl (by omega) (gT ?_); refine o_ ?_; refine nk hK ?_; refine w_seq ?_; refine wD fun K hK => ?_; refine o_ ?_; obtain ⟨q3, hq3, H⟩ := bnd H; refine cs [] func78 (wide_Mul.does hq3) ?_; refine o_ ?_; obtain ⟨q4, hq4, H⟩ := bnd H
    refine cs [] func79 (wide_Wide_Cmp.does hq4) ?_; refine o_ ?_; refine g_nil (hK _ _ _ (by kernel_rfl) ?_); refine k_seq ?_; rcases its H with ⟨c5, H⟩ | ⟨c5, H⟩
    ·refine dT c5 ?_; refine wT ?_; refine wR fun K hK => ?_; refine o_ ?_; refine nl hK ?_; refine k_block ?_; refine k_seq ?_; refine wR fun K hK => ?_; refine o_ ?_; refine nl hK ?_; refine k_loop ?_; refine ww [0] [1, 2, 0] ?_; exact gi (ih0 (Go.bits .or .u64 root_4 (shl .u64 1 i_5)) (wrap64 (i_5 - 1)) h0_0 h0_1 r H)
    ·refine dF c5 ?_; refine wF ?_; refine w_skip ?_; refine k_block ?_; refine k_seq ?_; refine wR fun K hK => ?_; refine o_ ?_; refine nl hK ?_; refine k_loop ?_; refine ww [0] [1, 2, 0] ?_; exact gi (ih0 root_4 (wrap64 (i_5 - 1)) h0_0 h0_1 r H)
   ·refine dF c1 ?_; refine wF ?_; refine w_exit rfl ?_; refine k_seq ?_; refine w_seq ?_; refine wD fun K hK => ?_; refine o_ ?_; obtain ⟨q6, hq6, H⟩ := bnd H; refine cs [] func78 (wide_Mul.does hq6) ?_; refine o_ ?_
    refine g_same rfl rfl (c := .b ((q6.1 == h0_0) && ((q6.2 == h0_1)))) (by simp only [nrm]; (try simp only [Int.toNat_zero, Int.toNat_one, Nat.zero_mul, Nat.one_mul, Nat.reduceMul, List.drop_succ_cons, List.drop_zero, List.take_succ_cons, List.take_zero]); simp only [binV, eqs59, Go.Rk.Rd.of, Go.Rk.Rd.bind, Bool.and_true, Bool.not_and]) (gT ?_); refine o_ ?_; refine g_nil (hK _ _ _ (by kernel_rfl) ?_)
    refine kt ?_; rw [← Option.some.inj H]; exact fw []
theorem wide_Wide_Sqrt.does {k : Nat} {a0_0 a0_1 : Int} {r : Int × Bool} (H : wide_Wide_Sqrt.f k a0_0 a0_1 = some r) : Do E0 (.fn 70 [.a [.i .u64 a0_0, .i .u64 a0_1]] [] (.t [.i .u64 r.1, .b r.2]) []) := by
 obtain ih0 := @wide_Wide_Sqrt.does_l a0_0 a0_1 k; refine fnw ((wide_Wide_Sqrt.Q a0_0 a0_1 r)) func70 ntmps70 ?_; unfold wide_Wide_Sqrt.f at H; refine sr fun K hK => ?_; refine o_ ?_; refine nksr hK fun K hK => ?_; refine o_ ?_; refine nk hK ?_; refine w_seq ?_; refine sr fun K hK => ?_; refine o_ ?_; refine nk hK ?_; refine w_block ?_; refine ww [0] [1, 2, 0] ?_; exact gi (ih0 0 63 a0_0 a0_1 r H)
theorem wide_Wide_Zero.does {a0_0 a0_1 : Int} {r : Bool} (H : wide_Wide_Zero.f a0_0 a0_1 = some r) : Do E0 (.fn 50 [.a [.i .u64 a0_0, .i .u64 a0_1]] [] (.b r) []) := by
 refine fnw ((wide_Wide_Zero.Q a0_0 a0_1 r)) func50 ntmps50 ?_; unfold wide_Wide_Zero.f at H; refine sr fun K hK => ?_; refine o_ ?_; refine nksr hK fun K hK => ?_; refine o_ ?_; refine nkt hK ?_; rw [← Option.some.inj H]; exact fw []
theorem word_Make.does {a0 : Bool} {a1 a2 r : Int} (H : word_Make.f a0 a1 a2 = some r) : Do E0 (.fn 51 [.b a0, .i .i64 a1, .i .u64 a2] [] (.i .u64 r) []) := by
 refine fnw ((word_Make.Q a0 a1 a2 r)) func51 ntmps51 ?_; unfold word_Make.f at H; refine sr fun K hK => ?_; refine o_ ?_; refine nksr hK fun K hK => ?_; refine o_ ?_; refine g_conv rfl rfl Tryd.underlying3 Tryd.underlying23 rfl (gT ?_); refine o_ ?_; refine g_shlc (p := 4503599627370496) rfl rfl rfl rfl de_ (by rfl) (gT ?_); refine o_ ?_; refine nk hK ?_; refine w_seq ?_; refine sr fun K hK => ?_
 refine o_ ?_; refine nk hK ?_; rcases its H with ⟨c1, H⟩ | ⟨c1, H⟩
 ·refine dV c1 ?_; refine wT ?_; refine wR fun K hK => ?_; refine o_ ?_; refine nksr hK fun K hK => ?_; refine o_ ?_; refine nkt hK ?_; rw [← Option.some.inj H]; exact fw []
 ·refine dW c1 ?_; refine wF ?_; refine sk ?_; refine sr fun K hK => ?_; refine o_ ?_; refine nkt hK ?_; rw [← Option.some.inj H]; exact fw []
theorem wide_Wide_Len.does {k : Nat} {a0_0 a0_1 r : Int} (H : wide_Wide_Len.f k a0_0 a0_1 = some r) : Do E0 (.fn 52 [.a [.i .u64 a0_0, .i .u64 a0_1]] [] (.i .i64 r) []) := by
 refine fnw ((wide_Wide_Len.Q a0_0 a0_1 r)) func52 ntmps52 ?_; unfold wide_Wide_Len.f at H; refine sr fun K hK => ?_; refine o_ ?_; refine nk hK ?_; refine w_seq ?_; refine sr fun K hK => ?_; refine o_ ?_; refine nk hK ?_; rcases its H with ⟨c1, H⟩ | ⟨c1, H⟩
 ·refine dE c1 ?_; refine wF ?_; refine sk ?_; refine sr fun K hK => ?_; refine o_ ?_; obtain ⟨q2, hq2, H⟩ := bnd H; refine cs [] func69 (bits_Len64.does hq2) ?_; refine o_ ?_; refine nkt hK ?_; rw [← Option.some.inj H]; exact fw []
 ·refine dN c1 ?_; refine wT ?_; refine sr fun K hK => ?_; refine o_ ?_; obtain ⟨q3, hq3, H⟩ := bnd H; refine cs [] func69 (bits_Len64.does hq3) ?_; refine o_ ?_; refine nkt hK ?_; rw [← Option.some.inj H]; exact fw []
theorem wide_Wide_Right.does_l {a0_0 a0_1 a1 : Int} (k : Nat) : (∀ (n_1 h0_0 h0_1 h1_0 h1_1 h2_0 h2_1 : Int) (r : Int × Int × Bool), wide_Wide_Right.j0 k n_1 h0_0 h0_1 h2_0 h2_1 = some r → kont E0 (wide_Wide_Right.Q a0_0 a0_1 a1 r) (frs (bodyOf Tryd.f53) [1, 1, 0] []) .normal ⟨.u :: .i .i64 n_1 :: .p (some (0, 0)) :: .u :: .p (some (1, 0)) :: .u :: .p (some (2, 0)) :: u_ 46 ([]), ofL [.row [.i .u64 h0_0, .i .u64 h0_1] 0 0 true true none, .row [.i .u64 h1_0, .i .u64 h1_1] 0 0 true true none, .row [.i .u64 h2_0, .i .u64 h2_1] 0 0 true true none], 3, 0⟩) := by
 induction k with
 | zero => exact by intros; simp [wide_Wide_Right.j0] at *
 | succ k ih =>
  have ih0 := ih
  refine ?_
  ·intro n_1 h0_0 h0_1 h1_0 h1_1 h2_0 h2_1 r H; unfold wide_Wide_Right.j0 at H; refine fb ?_; refine k_seq ?_; refine w_seq ?_; refine wD fun K hK => ?_; refine o_ ?_; obtain ⟨q7, hq7, H⟩ := bnd H; refine cs [] func28 (wide_Wide_Left.does hq7) ?_; refine o_ ?_
   refine g_same rfl rfl (c := .b (!(q7.1 == h0_0) || (!(q7.2 == h0_1)))) (by simp only [nrm]; (try simp only [Int.toNat_zero, Int.toNat_one, Nat.zero_mul, Nat.one_mul, Nat.reduceMul, List.drop_succ_cons, List.drop_zero, List.take_succ_cons, List.take_zero]); simp only [binV, eqs59, Go.Rk.Rd.of, Go.Rk.Rd.bind, Bool.and_true, Bool.not_and]) (gT ?_); refine o_ ?_; rcases its H with ⟨c8, H⟩ | ⟨c8, H⟩
   ·refine dV c8 ?_; refine o_ ?_; refine g_nil (hK _ _ _ (by kernel_rfl) ?_); refine kt ?_; rw [← Option.some.inj H]; exact fw []
   ·refine dW c8 ?_; refine o_ ?_; rcases its H with ⟨c9, H⟩ | ⟨c9, H⟩
    ·refine dT c9 ?_; refine o_ ?_; obtain ⟨q10, hq10, H⟩ := bnd H; refine cs [] func50 (wide_Wide_Zero.does hq10) ?_; refine o_ ?_; refine g_nil (hK _ _ _ (by kernel_rfl) ?_); refine kt ?_; rw [← Option.some.inj H]; exact fw []
    ·refine dF c9 ?_; refine o_ ?_; refine g_nil (hK _ _ _ (by kernel_rfl) ?_); refine kt ?_; rw [← Option.some.inj H]; exact fw []
theorem wide_Wide_Right.does {k : Nat} {a0_0 a0_1 a1 : Int} {r : Int × Int × Bool} (H : wide_Wide_Right.f k a0_0 a0_1 a1 = some r) : Do E0 (.fn 53 [.a [.i .u64 a0_0, .i .u64 a0_1], .i .i64 a1] [] (.t [.a [.i .u64 r.1, .i .u64 r.2.1], .b r.2.2]) []) := by
 obtain ih0 := @wide_Wide_Right.does_l a0_0 a0_1 a1 k; refine fnw ((wide_Wide_Right.Q a0_0 a0_1 a1 r)) func53 ntmps53 ?_; unfold wide_Wide_Right.f at H; refine sr fun K hK => ?_; refine o_ ?_; refine nksr hK fun K hK => ?_; refine o_ ?_; refine nk hK ?_; refine w_seq ?_; refine w_block ?_; refine sr fun K hK => ?_; refine o_ ?_; refine nk hK ?_; rcases its H with ⟨c1, H⟩ | ⟨c1, H⟩
 ·refine dT c1 ?_; refine wT ?_; refine sr fun K hK => ?_; refine o_ ?_; refine nkt hK ?_; rw [← Option.some.inj H]; exact fw []
 ·refine dF c1 ?_; refine wF ?_; refine sr fun K hK => ?_; refine o_ ?_; refine nk hK ?_; rcases its H with ⟨c2, H⟩ | ⟨c2, H⟩
  ·refine dT c2 ?_; refine wT ?_; refine w_skip ?_; refine k_block ?_; refine kw [0, 4, 12] [1, 0, 1, 1] ?_; exact gi (ih0 a1 a0_0 a0_1 0 0 0 0 r H)
  ·refine dF c2 ?_; refine wF ?_; refine sr fun K hK => ?_; refine o_ ?_; refine nk hK ?_; rcases its H with ⟨c3, H⟩ | ⟨c3, H⟩
   ·refine dT c3 ?_; refine wT ?_; refine wR fun K hK => ?_; refine o_ ?_; obtain ⟨c4, H⟩ := it1 H; refine g_shr rfl rfl rfl rfl (by omega) (gT ?_); refine g_bd rfl rfl zr59 Tryd.underlying59 (pl := [(0, 1), (1, 1)]) (by kernel_rfl) ?_; refine gB ?_; refine o_ ?_; refine nl hK ?_; refine k_block ?_; refine kw [0, 4, 12] [1, 0, 1, 1] ?_
    exact gi (ih0 a1 a0_0 a0_1 0 0 0 (shr .u64 a0_0 (wrap64 (a1 - 64))) r H)
   ·refine dF c3 ?_; refine wF ?_; refine wD fun K hK => ?_; refine o_ ?_; obtain ⟨c5, H⟩ := it1 H; refine g_shr rfl rfl rfl rfl (by omega) (gT ?_); refine o_ ?_; obtain ⟨c6, H⟩ := it1 H; refine g_shl rfl rfl rfl rfl (by omega) (gT ?_); refine o_ ?_; refine g_shr rfl rfl rfl rfl (by omega) (gT ?_); refine o_ ?_
    refine g_bd rfl rfl zr59 Tryd.underlying59 (pl := [(0, 1), (1, 1)]) (by kernel_rfl) ?_; refine gB ?_; refine o_ ?_; refine g_nil (hK _ _ _ (by kernel_rfl) ?_); refine k_block ?_; refine kw [0, 4, 12] [1, 0, 1, 1] ?_; exact gi (ih0 a1 a0_0 a0_1 0 0 (shr .u64 a0_0 a1) (Go.bits .or .u64 (shl .u64 a0_0 (wrap64 (64 - a1))) (shr .u64 a0_1 a1)) r H)
theorem round_split.does {k : Nat} {a0_0 a0_1 a1 : Int} {a2 : Bool} {r : Bool × Bool} (H : round_split.f k a0_0 a0_1 a1 a2 = some r) : Do E0 (.fn 54 [.a [.i .u64 a0_0, .i .u64 a0_1], .i .i64 a1, .b a2] [] (.t [.b r.1, .b r.2]) []) := by
 refine fnw ((round_split.Q a0_0 a0_1 a1 a2 r)) func54 ntmps54 ?_; unfold round_split.f at H; refine sr fun K hK => ?_; refine o_ ?_; refine nk hK ?_; refine w_seq ?_; refine sr fun K hK => ?_; refine o_ ?_; refine nk hK ?_; rcases its H with ⟨c1, H⟩ | ⟨c1, H⟩
 ·refine dT c1 ?_; refine wT ?_; refine sr fun K hK => ?_; refine o_ ?_; refine nkt hK ?_; rw [← Option.some.inj H]; exact fw []
 ·refine dF c1 ?_; refine wF ?_; refine sk ?_; refine sr fun K hK => ?_; refine o_ ?_; obtain ⟨q2, hq2, H⟩ := bnd H; refine cs [] func53 (wide_Wide_Right.does hq2) ?_; refine o_ ?_; refine nksr hK fun K hK => ?_; refine o_ ?_; refine nksr hK fun K hK => ?_; refine o_ ?_; refine nkt hK ?_; rw [← Option.some.inj H]; exact fw []
theorem wide_Wide_Add.does {a0_0 a0_1 a1_0 a1_1 : Int} {r : Int × Int × Bool} (H : wide_Wide_Add.f a0_0 a0_1 a1_0 a1_1 = some r) : Do E0 (.fn 27 [.a [.i .u64 a0_0, .i .u64 a0_1], .a [.i .u64 a1_0, .i .u64 a1_1]] [] (.t [.a [.i .u64 r.1, .i .u64 r.2.1], .b r.2.2]) []) := by
 refine fnw ((wide_Wide_Add.Q a0_0 a0_1 a1_0 a1_1 r)) func27 ntmps27 ?_; unfold wide_Wide_Add.f at H; refine sr fun K hK => ?_; refine o_ ?_; refine nksr hK fun K hK => ?_; refine o_ ?_; obtain ⟨q1, hq1, H⟩ := bnd H; refine g_ex rfl rfl Tryd.func49 rfl (bits_Add64.ext hq1) (gT ?_); refine o_ ?_; refine nksr hK fun K hK => ?_; refine o_ ?_; obtain ⟨q2, hq2, H⟩ := bnd H
 refine g_ex rfl rfl Tryd.func49 rfl (bits_Add64.ext hq2) (gT ?_); refine o_ ?_; refine nksr hK fun K hK => ?_; refine o_ ?_; refine g_bd rfl rfl zr59 Tryd.underlying59 (pl := [(0, 1), (1, 1)]) (by kernel_rfl) ?_; refine gB ?_; refine o_ ?_; refine nkt hK ?_; rw [← Option.some.inj H]; exact fw []
theorem round_Round.does_l {a0 : Bool} {a1_0 a1_1 a2 : Int} {a3 : Bool} (k : Nat) : (∀ (neg_0 : Bool) (exp_2 : Int) (more_3 : Bool) (drop_10 : Int) (tiny_11 : Bool) (h0_0 h0_1 : Int) (r : Int × Int), round_Round.j0 k neg_0 exp_2 more_3 drop_10 tiny_11 h0_0 h0_1 = some r → kont E0 (round_Round.Q a0 a1_0 a1_1 a2 a3 r) (frs (bodyOf Tryd.f29) [1, 1, 1, 1, 1, 0, 1] []) .normal ⟨.b neg_0 :: .u :: .i .i64 exp_2 :: .b more_3 :: .u :: .p (some (0, 0)) :: u_ 4 (.i .i64 drop_10 :: .b tiny_11 :: u_ 129 ([])), ofL [.row [.i .u64 h0_0, .i .u64 h0_1] 0 0 true true none], 1, 0⟩) ∧
    (∀ (neg_0 : Bool) (exp_2 : Int) (more_3 : Bool) (drop_10 : Int) (tiny_11 lost_12 half_13 fell_15 : Bool) (h0_0 h0_1 h1_0 h1_1 : Int) (r : Int × Int), round_Round.j1 k neg_0 exp_2 more_3 drop_10 tiny_11 lost_12 half_13 fell_15 h1_0 h1_1 = some r → kont E0 (round_Round.Q a0 a1_0 a1_1 a2 a3 r) (frs (bodyOf Tryd.f29) [1, 1, 1, 1, 1, 1, 1, 0, 1, 0, 1, 1, 1, 0] []) .normal ⟨.b neg_0 :: .u :: .i .i64 exp_2 :: .b more_3 :: .u :: .p (some (0, 0)) :: u_ 4 (.i .i64 drop_10 :: .b tiny_11 :: .b lost_12 :: .b half_13 :: .p (some (1, 0)) :: .b fell_15 :: u_ 125 ([])), ofL [.row [.i .u64 h0_0, .i .u64 h0_1] 0 0 true true none, .row [.i .u64 h1_0, .i .u64 h1_1] 0 0 true true none], 2, 0⟩) ∧
    (∀ (neg_0 : Bool) (exp_2 drop_10 : Int) (tiny_11 lost_12 t_91 : Bool) (h0_0 h0_1 : Int) (r : Int × Int), round_Round.j3 k neg_0 exp_2 drop_10 tiny_11 lost_12 t_91 h0_0 h0_1 = some r → kont E0 (round_Round.Q a0 a1_0 a1_1 a2 a3 r) (frs (bodyOf Tryd.f29) [1, 1, 1, 1, 1, 1, 1, 0, 1, 1, 0] []) .normal ⟨.b neg_0 :: .u :: .i .i64 exp_2 :: .u :: .u :: .p (some (0, 0)) :: u_ 4 (.i .i64 drop_10 :: .b tiny_11 :: .b lost_12 :: u_ 78 (.b t_91 :: u_ 49 ([]))), ofL [.row [.i .u64 h0_0, .i .u64 h0_1] 0 0 true true none], 1, 0⟩) ∧
    (∀ (neg_0 : Bool) (exp_2 drop_10 : Int) (tiny_11 lost_12 t_79 : Bool) (h0_0 h0_1 : Int) (r : Int × Int), round_Round.j2 k neg_0 exp_2 drop_10 tiny_11 lost_12 t_79 h0_0 h0_1 = some r → kont E0 (round_Round.Q a0 a1_0 a1_1 a2 a3 r) (frs (bodyOf Tryd.f29) [1, 1, 1, 1, 1, 1, 1, 0, 1, 0, 1, 1, 1, 1, 1, 0] []) .normal ⟨.b neg_0 :: .u :: .i .i64 exp_2 :: .u :: .u :: .p (some (0, 0)) :: u_ 4 (.i .i64 drop_10 :: .b tiny_11 :: .b lost_12 :: u_ 66 (.b t_79 :: u_ 61 ([]))), ofL [.row [.i .u64 h0_0, .i .u64 h0_1] 0 0 true true none], 1, 0⟩) ∧
    (∀ (neg_0 : Bool) (exp_2 drop_10 : Int) (tiny_11 lost_12 : Bool) (h0_0 h0_1 : Int) (r : Int × Int), round_Round.j4 k neg_0 exp_2 drop_10 tiny_11 lost_12 h0_0 h0_1 = some r → kont E0 (round_Round.Q a0 a1_0 a1_1 a2 a3 r) (frs (bodyOf Tryd.f29) [1, 1, 1, 1, 1, 1, 1, 0, 1] []) .normal ⟨.b neg_0 :: .u :: .i .i64 exp_2 :: .u :: .u :: .p (some (0, 0)) :: u_ 4 (.i .i64 drop_10 :: .b tiny_11 :: .b lost_12 :: u_ 128 ([])), ofL [.row [.i .u64 h0_0, .i .u64 h0_1] 0 0 true true none], 1, 0⟩) ∧
    (∀ (neg_0 : Bool) (exp_2 : Int) (tiny_11 lost_12 : Bool) (m_16 : Int) (r : Int × Int), round_Round.j5 k neg_0 exp_2 tiny_11 lost_12 m_16 = some r → kont E0 (round_Round.Q a0 a1_0 a1_1 a2 a3 r) (frs (bodyOf Tryd.f29) [1, 1, 1, 1, 1, 1, 1, 1, 1, 1, 0, 1] []) .normal ⟨.b neg_0 :: .u :: .i .i64 exp_2 :: u_ 8 (.b tiny_11 :: .b lost_12 :: u_ 3 (.i .u64 m_16 :: u_ 124 ([]))), ofL [], 0, 0⟩) ∧
    (∀ (neg_0 : Bool) (exp_2 m_16 f_17 : Int) (r : Int × Int), round_Round.j6 k neg_0 exp_2 m_16 f_17 = some r → kont E0 (round_Round.Q a0 a1_0 a1_1 a2 a3 r) (frs (bodyOf Tryd.f29) [1, 1, 1, 1, 1, 1, 1, 1, 1, 1, 1, 1, 0, 1] []) .normal ⟨.b neg_0 :: .u :: .i .i64 exp_2 :: u_ 13 (.i .u64 m_16 :: .i .u8 f_17 :: u_ 123 ([])), ofL [], 0, 0⟩) := by
 induction k with
 | zero => exact ⟨by intros; simp [round_Round.j0] at *, by intros; simp [round_Round.j1] at *, by intros; simp [round_Round.j3] at *, by intros; simp [round_Round.j2] at *, by intros; simp [round_Round.j4] at *, by intros; simp [round_Round.j5] at *, by intros; simp [round_Round.j6] at *⟩
 | succ k ih =>
  obtain ⟨ih0, ih1, ih2, ih3, ih4, ih5, ih6⟩ := ih
  refine ⟨?_, ?_, ?_, ?_, ?_, ?_, ?_⟩
  ·intro neg_0 exp_2 more_3 drop_10 tiny_11 h0_0 h0_1 r H; unfold round_Round.j0 at H; refine fb ?_; refine ksr fun K hK => ?_; refine o_ ?_; refine nk hK ?_; refine w_seq ?_; refine sr fun K hK => ?_; refine o_ ?_; refine nk hK ?_; rcases its H with ⟨c9, H⟩ | ⟨c9, H⟩
   ·refine dT c9 ?_; refine wT ?_; refine sr fun K hK => ?_; refine o_ ?_; refine nksr hK fun K hK => ?_; refine o_ ?_; obtain ⟨q10, hq10, H⟩ := bnd H; refine cs [] func53 (wide_Wide_Right.does hq10) ?_; refine o_ ?_; refine nksr hK fun K hK => ?_; refine o_ ?_; obtain ⟨q11, hq11, H⟩ := bnd H; refine cs [] func54 (round_split.does hq11) ?_; refine o_ ?_; refine nksr hK fun K hK => ?_; refine o_ ?_
    rcases its H with ⟨c12, H⟩ | ⟨c12, H⟩
    ·refine dV c12 ?_; refine o_ ?_; refine nl hK ?_; refine kw [0, 45] [0, 1, 0, 1, 4, 0, 0, 0, 0, 0] ?_; exact gi (ih1 neg_0 exp_2 more_3 drop_10 tiny_11 true true q11.2 h0_0 h0_1 q10.1 q10.2.1 r H)
    ·refine dW c12 ?_; refine o_ ?_; rcases its H with ⟨c13, H⟩ | ⟨c13, H⟩
     ·refine dV c13 ?_; refine o_ ?_; refine nl hK ?_; refine kw [0, 45] [0, 1, 0, 1, 4, 0, 0, 0, 0, 0] ?_; exact gi (ih1 neg_0 exp_2 more_3 drop_10 tiny_11 true false true h0_0 h0_1 q10.1 q10.2.1 r H)
     ·refine dW c13 ?_; refine o_ ?_; refine nl hK ?_; refine kw [0, 45] [0, 1, 0, 1, 4, 0, 0, 0, 0, 0] ?_; exact gi (ih1 neg_0 exp_2 more_3 drop_10 tiny_11 more_3 false false h0_0 h0_1 q10.1 q10.2.1 r H)
   ·refine dF c9 ?_; refine wF ?_; refine sr fun K hK => ?_; refine o_ ?_; rcases its H with ⟨c14, H⟩ | ⟨c14, H⟩
    ·refine dT c14 ?_; refine o_ ?_; refine nl hK ?_; refine kw [0] [0, 1, 2, 4, 0, 0, 78] ?_; exact gi (ih2 neg_0 exp_2 drop_10 tiny_11 more_3 (!more_3) h0_0 h0_1 r H)
    ·refine dF c14 ?_; refine o_ ?_; refine nl hK ?_; refine kw [0] [0, 1, 2, 4, 0, 0, 78] ?_; exact gi (ih2 neg_0 exp_2 drop_10 tiny_11 more_3 false h0_0 h0_1 r H)
  ·intro neg_0 exp_2 more_3 drop_10 tiny_11 lost_12 half_13 fell_15 h0_0 h0_1 h1_0 h1_1 r H; unfold round_Round.j1 at H; refine fb ?_; refine ksr fun K hK => ?_; refine o_ ?_; refine nksr hK fun K hK => ?_; refine o_ ?_; rcases its H with ⟨c15, H⟩ | ⟨c15, H⟩
   ·refine dV c15 ?_; refine o_ ?_; rcases its H with ⟨c16, H⟩ | ⟨c16, H⟩
    ·refine dV c16 ?_; refine o_ ?_; refine nl hK ?_; refine kw [0] [0, 1, 2, 4, 0, 0, 66] ?_; exact gi (ih3 neg_0 exp_2 drop_10 tiny_11 lost_12 true h1_0 h1_1 r H)
    ·refine dW c16 ?_; refine o_ ?_; rcases its H with ⟨c17, H⟩ | ⟨c17, H⟩
     ·refine dV c17 ?_; refine o_ ?_; refine nl hK ?_; refine kw [0] [0, 1, 2, 4, 0, 0, 66] ?_; exact gi (ih3 neg_0 exp_2 drop_10 tiny_11 lost_12 true h1_0 h1_1 r H)
     ·refine dW c17 ?_; refine o_ ?_; refine nl hK ?_; refine kw [0] [0, 1, 2, 4, 0, 0, 66] ?_; exact gi (ih3 neg_0 exp_2 drop_10 tiny_11 lost_12 ((Go.bits .and .u64 h1_1 1) == 1) h1_0 h1_1 r H)
   ·refine dW c15 ?_; refine o_ ?_; refine nl hK ?_; refine kw [0] [0, 1, 2, 4, 0, 0, 66] ?_; exact gi (ih3 neg_0 exp_2 drop_10 tiny_11 lost_12 false h1_0 h1_1 r H)
  ·intro neg_0 exp_2 drop_10 tiny_11 lost_12 t_91 h0_0 h0_1 r H; unfold round_Round.j3 at H; refine fb ?_; refine k_seq ?_; rcases its H with ⟨c18, H⟩ | ⟨c18, H⟩
   ·refine dV c18 ?_; refine wT ?_; refine wR fun K hK => ?_; refine o_ ?_; obtain ⟨q19, hq19, H⟩ := bnd H; refine cs [] func28 (wide_Wide_Left.does hq19) ?_; refine o_ ?_; refine nl hK ?_; refine kw [0] [0, 1, 2, 4, 0, 0] ?_; exact gi (ih4 neg_0 exp_2 drop_10 tiny_11 lost_12 q19.1 q19.2 r H)
   ·refine dW c18 ?_; refine wF ?_; refine sr fun K hK => ?_; refine o_ ?_; refine nk hK ?_; rcases its H with ⟨c20, H⟩ | ⟨c20, H⟩
    ·refine dT c20 ?_; refine wT ?_; refine wR fun K hK => ?_; refine o_ ?_; obtain ⟨q21, hq21, H⟩ := bnd H; refine cs [] func28 (wide_Wide_Left.does hq21) ?_; refine o_ ?_; refine nl hK ?_; refine kw [0] [0, 1, 2, 4, 0, 0] ?_; exact gi (ih4 neg_0 exp_2 drop_10 tiny_11 lost_12 q21.1 q21.2 r H)
    ·refine dF c20 ?_; refine wF ?_; refine w_skip ?_; refine kw [0] [0, 1, 2, 4, 0, 0] ?_; exact gi (ih4 neg_0 exp_2 drop_10 tiny_11 lost_12 h0_0 h0_1 r H)
  ·intro neg_0 exp_2 drop_10 tiny_11 lost_12 t_79 h0_0 h0_1 r H; unfold round_Round.j2 at H; refine fb ?_; refine k_seq ?_; rcases its H with ⟨c22, H⟩ | ⟨c22, H⟩
   ·refine dV c22 ?_; refine wT ?_; refine wR fun K hK => ?_; refine o_ ?_; refine g_bd rfl rfl zr59 Tryd.underlying59 (pl := [(0, 1), (1, 1)]) (by kernel_rfl) ?_; refine gB ?_; obtain ⟨q23, hq23, H⟩ := bnd H; refine cs [] func27 (wide_Wide_Add.does hq23) ?_; refine o_ ?_; refine nl hK ?_; refine kw [0] [0, 1, 2, 4, 0, 0] ?_; exact gi (ih4 neg_0 exp_2 drop_10 tiny_11 lost_12 q23.1 q23.2.1 r H)
   ·refine dW c22 ?_; refine wF ?_; refine w_skip ?_; refine kw [0] [0, 1, 2, 4, 0, 0] ?_; exact gi (ih4 neg_0 exp_2 drop_10 tiny_11 lost_12 h0_0 h0_1 r H)
  ·intro neg_0 exp_2 drop_10 tiny_11 lost_12 h0_0 h0_1 r H; unfold round_Round.j4 at H; refine fb ?_; refine ksr fun K hK => ?_; refine o_ ?_; refine nksr hK fun K hK => ?_; refine o_ ?_; refine nk hK ?_; refine w_seq ?_; refine sr fun K hK => ?_; refine o_ ?_; refine nk hK ?_; rcases its H with ⟨c24, H⟩ | ⟨c24, H⟩
   ·refine dE c24 ?_; refine wT ?_; refine wR fun K hK => ?_; refine o_ ?_; refine g_shrc (p := 2) rfl rfl rfl rfl de_ (by rfl) (gT ?_); refine o_ ?_; refine nl hK ?_; refine kw [] [0, 1, 8, 0, 3] ?_; exact gi (ih5 neg_0 (wrap64 ((wrap64 (exp_2 + drop_10)) + 1)) tiny_11 lost_12 (h0_1 / 2) r H)
   ·refine dN c24 ?_; refine wF ?_; refine w_skip ?_; refine kw [] [0, 1, 8, 0, 3] ?_; exact gi (ih5 neg_0 (wrap64 (exp_2 + drop_10)) tiny_11 lost_12 h0_1 r H)
  ·intro neg_0 exp_2 tiny_11 lost_12 m_16 r H; unfold round_Round.j5 at H; refine fb ?_; refine ksr fun K hK => ?_; refine o_ ?_; refine nk hK ?_; refine w_seq ?_; refine sr fun K hK => ?_; refine o_ ?_; refine nk hK ?_; rcases its H with ⟨c25, H⟩ | ⟨c25, H⟩
   ·refine dV c25 ?_; refine wT ?_; refine sr fun K hK => ?_; refine o_ ?_; refine nksr hK fun K hK => ?_; refine o_ ?_; refine nk hK ?_; rcases its H with ⟨c26, H⟩ | ⟨c26, H⟩
    ·refine dV c26 ?_; refine wT ?_; refine wR fun K hK => ?_; refine o_ ?_; refine nl hK ?_; refine kw [] [0, 1, 13, 0] ?_; exact gi (ih6 neg_0 exp_2 m_16 (Go.bits .or .u8 (Go.bits .or .u8 0 1) 2) r H)
    ·refine dW c26 ?_; refine wF ?_; refine w_skip ?_; refine kw [] [0, 1, 13, 0] ?_; exact gi (ih6 neg_0 exp_2 m_16 (Go.bits .or .u8 0 1) r H)
   ·refine dW c25 ?_; refine wF ?_; refine w_skip ?_; refine kw [] [0, 1, 13, 0] ?_; exact gi (ih6 neg_0 exp_2 m_16 0 r H)
  ·intro neg_0 exp_2 m_16 f_17 r H; unfold round_Round.j6 at H; refine fb ?_; refine k_seq ?_; refine w_seq ?_; refine w_block ?_; refine sr fun K hK => ?_; refine o_ ?_; refine nk hK ?_; rcases its H with ⟨c27, H⟩ | ⟨c27, H⟩
   ·refine dT c27 ?_; refine wT ?_; refine sr fun K hK => ?_; refine o_ ?_; obtain ⟨q28, hq28, H⟩ := bnd H; refine cs [] func51 (word_Make.does hq28) ?_; refine o_ ?_; refine nkt hK ?_; rw [← Option.some.inj H]; exact fw []
   ·refine dF c27 ?_; refine wF ?_; refine sr fun K hK => ?_; refine o_ ?_; refine nk hK ?_; rcases its H with ⟨c29, H⟩ | ⟨c29, H⟩
    ·refine dT c29 ?_; refine wT ?_; refine sr fun K hK => ?_; refine o_ ?_; obtain ⟨q30, hq30, H⟩ := bnd H; refine cs [] func51 (word_Make.does hq30) ?_; refine o_ ?_; refine nkt hK ?_; rw [← Option.some.inj H]; exact fw []
    ·refine dF c29 ?_; refine wF ?_; refine w_skip ?_; refine k_block ?_; refine ksr fun K hK => ?_; refine o_ ?_; obtain ⟨q31, hq31, H⟩ := bnd H; refine cs [] func51 (word_Make.does hq31) ?_; refine o_ ?_; refine nkt hK ?_; rw [← Option.some.inj H]; exact fw []
theorem round_Round.does {k : Nat} {a0 : Bool} {a1_0 a1_1 a2 : Int} {a3 : Bool} {r : Int × Int} (H : round_Round.f k a0 a1_0 a1_1 a2 a3 = some r) : Do E0 (.fn 29 [.b a0, .a [.i .u64 a1_0, .i .u64 a1_1], .i .i64 a2, .b a3] [] (.t [.i .u64 r.1, .i .u8 r.2]) []) := by
 obtain ⟨ih0, ih1, ih2, ih3, ih4, ih5, ih6⟩ := @round_Round.does_l a0 a1_0 a1_1 a2 a3 k; refine fnw ((round_Round.Q a0 a1_0 a1_1 a2 a3 r)) func29 ntmps29 ?_; unfold round_Round.f at H; refine sr fun K hK => ?_; refine o_ ?_; refine nksr hK fun K hK => ?_; refine o_ ?_; refine g_min rfl rfl rfl rfl (m := mn _ _) rfl (gT ?_); refine g_max rfl rfl rfl rfl (m := mx _ _) rfl (gT ?_); refine o_ ?_
 refine nk hK ?_; refine w_seq ?_; refine sr fun K hK => ?_; refine o_ ?_; obtain ⟨q1, hq1, H⟩ := bnd H; refine cs [] func50 (wide_Wide_Zero.does hq1) ?_; refine nk hK ?_; rcases its H with ⟨c2, H⟩ | ⟨c2, H⟩
 ·refine dV c2 ?_; refine wT ?_; refine w_seq ?_; refine sr fun K hK => ?_; refine o_ ?_; refine nk hK ?_; rcases its H with ⟨c3, H⟩ | ⟨c3, H⟩
  ·refine dV c3 ?_; refine wF ?_; refine sk ?_; refine sr fun K hK => ?_; refine o_ ?_; obtain ⟨q4, hq4, H⟩ := bnd H; refine cs [] func51 (word_Make.does hq4) ?_; refine o_ ?_; refine nkt hK ?_; rw [← Option.some.inj H]; exact fw []
  ·refine dW c3 ?_; refine wT ?_; refine sr fun K hK => ?_; refine o_ ?_; obtain ⟨q5, hq5, H⟩ := bnd H; refine cs [] func51 (word_Make.does hq5) ?_; refine o_ ?_; refine nkt hK ?_; rw [← Option.some.inj H]; exact fw []
 ·refine dW c2 ?_; refine wF ?_; refine sk ?_; refine sr fun K hK => ?_; refine o_ ?_; obtain ⟨q6, hq6, H⟩ := bnd H; refine cs [] func52 (wide_Wide_Len.does hq6) ?_; refine o_ ?_; refine nksr hK fun K hK => ?_; refine o_ ?_; obtain ⟨q7, hq7, H⟩ := bnd H; refine cs [] func52 (wide_Wide_Len.does hq7) ?_; refine o_ ?_; refine nk hK ?_; refine w_seq ?_; refine sr fun K hK => ?_; refine o_ ?_
  refine nk hK ?_; rcases its H with ⟨c8, H⟩ | ⟨c8, H⟩
  ·refine dT c8 ?_; refine wT ?_; refine wR fun K hK => ?_; refine o_ ?_; refine nl hK ?_; refine kw [0] [0, 1, 0, 1, 4, 0] ?_; exact gi (ih0 a0 (mx (-100000) (mn a2 100000)) a3 (wrap64 ((-1074) - (mx (-100000) (mn a2 100000)))) (decide ((wrap64 ((mx (-100000) (mn a2 100000)) + q7)) < (-1021))) a1_0 a1_1 r H)
  ·refine dF c8 ?_; refine wF ?_; refine w_skip ?_; refine kw [0] [0, 1, 0, 1, 4, 0] ?_; exact gi (ih0 a0 (mx (-100000) (mn a2 100000)) a3 (wrap64 (q6 - 53)) (decide ((wrap64 ((mx (-100000) (mn a2 100000)) + q7)) < (-1021))) a1_0 a1_1 r H)
theorem more_Sqrt.does_l {a0 : Int} (k : Nat) : (∀ (a_0 : Int) (t_15 : Bool) (r : Int × Int), more_Sqrt.j0 k a_0 t_15 = some r → kont E0 (more_Sqrt.Q a0 r) (frs (bodyOf Tryd.f45) [1, 0, 0, 1, 1, 0] []) .normal ⟨.i .u64 a_0 :: u_ 14 (.b t_15 :: u_ 45 ([])), ofL [], 0, 0⟩) := by
 induction k with
 | zero => exact by intros; simp [more_Sqrt.j0] at *
 | succ k ih =>
  have ih0 := ih
  refine ?_
  ·intro a_0 t_15 r H; unfold more_Sqrt.j0 at H; refine fb ?_; refine k_seq ?_; rcases its H with ⟨c7, H⟩ | ⟨c7, H⟩
   ·refine dV c7 ?_; refine wT ?_; refine sr fun K hK => ?_; refine o_ ?_; refine nkt hK ?_; rw [← Option.some.inj H]; exact fw []
   ·refine dW c7 ?_; refine wF ?_; refine sr fun K hK => ?_; refine o_ ?_; obtain ⟨q8, hq8, H⟩ := bnd H; refine cs [] func37 (word_Neg.does hq8) ?_; refine o_ ?_; refine nk hK ?_; rcases its H with ⟨c9, H⟩ | ⟨c9, H⟩
    ·refine dV c9 ?_; refine wT ?_; refine sr fun K hK => ?_; refine o_ ?_; refine nkt hK ?_; rw [← Option.some.inj H]; exact fw []
    ·refine dW c9 ?_; refine wF ?_; refine w_skip ?_; refine k_block ?_; refine ksr fun K hK => ?_; refine o_ ?_; obtain ⟨q10, hq10, H⟩ := bnd H; refine cs [] func56 (word_Parts.does hq10) ?_; refine o_ ?_; refine nksr hK fun K hK => ?_; refine o_ ?_; obtain ⟨q11, hq11, H⟩ := bnd H; refine cs [] func69 (bits_Len64.does hq11) ?_; refine o_ ?_; refine nk hK ?_; refine w_seq ?_; refine sr fun K hK => ?_
     refine o_ ?_; refine nk hK ?_; rcases its H with ⟨c12, H⟩ | ⟨c12, H⟩
     ·refine dE c12 ?_; refine wF ?_; refine sk ?_; refine sr fun K hK => ?_; refine o_ ?_; refine g_bd rfl rfl zr59 Tryd.underlying59 (pl := [(0, 1), (1, 1)]) (by kernel_rfl) ?_; refine gB ?_; refine o_ ?_; obtain ⟨q13, hq13, H⟩ := bnd H; refine cs [] func28 (wide_Wide_Left.does hq13) ?_; obtain ⟨q14, hq14, H⟩ := bnd H; refine cs [] func70 (wide_Wide_Sqrt.does hq14) ?_; refine o_ ?_
      refine nksr hK fun K hK => ?_; refine o_ ?_; refine g_bd rfl rfl zr59 Tryd.underlying59 (pl := [(0, 1), (1, 1)]) (by kernel_rfl) ?_; refine gB ?_; refine o_ ?_; refine g_quo rfl rfl rfl rfl ao_ (gT ?_); refine o_ ?_; obtain ⟨q15, hq15, H⟩ := bnd H; refine cs [] func29 (round_Round.does hq15) ?_; refine o_ ?_; refine nkt hK ?_; rw [← Option.some.inj H]; exact fw []
     ·refine dN c12 ?_; refine wT ?_; refine wR fun K hK => ?_; refine o_ ?_; refine nksr hK fun K hK => ?_; refine o_ ?_; refine g_bd rfl rfl zr59 Tryd.underlying59 (pl := [(0, 1), (1, 1)]) (by kernel_rfl) ?_; refine gB ?_; refine o_ ?_; obtain ⟨q16, hq16, H⟩ := bnd H; refine cs [] func28 (wide_Wide_Left.does hq16) ?_; obtain ⟨q17, hq17, H⟩ := bnd H; refine cs [] func70 (wide_Wide_Sqrt.does hq17) ?_
      refine o_ ?_; refine nksr hK fun K hK => ?_; refine o_ ?_; refine g_bd rfl rfl zr59 Tryd.underlying59 (pl := [(0, 1), (1, 1)]) (by kernel_rfl) ?_; refine gB ?_; refine o_ ?_; refine g_quo rfl rfl rfl rfl ao_ (gT ?_); refine o_ ?_; obtain ⟨q18, hq18, H⟩ := bnd H; refine cs [] func29 (round_Round.does hq18) ?_; refine o_ ?_; refine nkt hK ?_; rw [← Option.some.inj H]; exact fw []
theorem more_Sqrt.does {k : Nat} {a0 : Int} {r : Int × Int} (H : more_Sqrt.f k a0 = some r) : Do E0 (.fn 45 [.i .u64 a0] [] (.t [.i .u64 r.1, .i .u8 r.2]) []) := by
 obtain ih0 := @more_Sqrt.does_l a0 k; refine fnw ((more_Sqrt.Q a0 r)) func45 ntmps45 ?_; unfold more_Sqrt.f at H; refine sr fun K hK => ?_; refine o_ ?_; refine nk hK ?_; refine w_seq ?_; refine w_block ?_; refine sr fun K hK => ?_; refine o_ ?_; obtain ⟨q1, hq1, H⟩ := bnd H; refine cs [] func39 (word_Kind.does hq1) ?_; refine o_ ?_; refine nk hK ?_; rcases its H with ⟨c2, H⟩ | ⟨c2, H⟩
 ·refine dE c2 ?_; refine wT ?_; refine w_seq ?_; refine sr fun K hK => ?_; refine o_ ?_; obtain ⟨q3, hq3, H⟩ := bnd H; refine cs [] func65 (word_Signals.does hq3) ?_; refine nk hK ?_; rcases its H with ⟨c4, H⟩ | ⟨c4, H⟩
  ·refine dV c4 ?_; refine wT ?_; refine sr fun K hK => ?_; refine o_ ?_; refine nkt hK ?_; rw [← Option.some.inj H]; exact fw []
  ·refine dW c4 ?_; refine wF ?_; refine sk ?_; refine sr fun K hK => ?_; refine o_ ?_; refine nkt hK ?_; rw [← Option.some.inj H]; exact fw []
 ·refine dN c2 ?_; refine wF ?_; refine sr fun K hK => ?_; refine o_ ?_; obtain ⟨q5, hq5, H⟩ := bnd H; refine cs [] func39 (word_Kind.does hq5) ?_; refine o_ ?_; rcases its H with ⟨c6, H⟩ | ⟨c6, H⟩
  ·refine dE c6 ?_; refine o_ ?_; refine nl hK ?_; refine kw [] [0, 14] ?_; exact gi (ih0 a0 true r H)
  ·refine dN c6 ?_; refine o_ ?_; refine nl hK ?_; refine kw [] [0, 14] ?_; exact gi (ih0 a0 (a0 == 9218868437227405312) r H)
theorem soft_Calc_note.does {s0_0 a1 a2 : Int} {r : Int × Int} (H : soft_Calc_note.f s0_0 a1 a2 = some r) : Do E0 (.fn 64 [.p (some (0, 0)), .i .u64 a1, .i .u8 a2] [.row [.i .u8 s0_0] 0 0 true false none] (.i .u64 r.1) [.row [.i .u8 r.2] 0 0 true false none]) := by
 refine fnw ((soft_Calc_note.Q s0_0 a1 a2 r)) func64 ntmps64 ?_; unfold soft_Calc_note.f at H; refine sr fun K hK => ?_; refine o_ ?_; refine nk hK ?_; refine w_seq ?_; refine sr fun K hK => ?_; refine o_ ?_; refine g_same rfl rfl (c := .b true) (by simp only [nrm]; simp only [binV, sameV, V.same, Go.Rk.Rd.of, Go.Rk.Rd.bind, Tryd.underlying98]; rfl) (gT ?_); refine nk hK ?_; refine wT ?_
 refine wR fun K hK => ?_; refine o_ ?_; refine nksr hK fun K hK => ?_; refine o_ ?_; refine nkt hK ?_; rw [← Option.some.inj H]; exact fw [0]
theorem soft_Calc_Note.does {s0_0 a1 a2 : Int} {r : Int × Int} (H : soft_Calc_Note.f s0_0 a1 a2 = some r) : Do E0 (.fn 35 [.p (some (0, 0)), .i .u64 a1, .i .u8 a2] [.row [.i .u8 s0_0] 0 0 true false none] (.i .u64 r.1) [.row [.i .u8 r.2] 0 0 true false none]) := by
 refine fnw ((soft_Calc_Note.Q s0_0 a1 a2 r)) func35 ntmps35 ?_; unfold soft_Calc_Note.f at H; refine sr fun K hK => ?_; refine o_ ?_; refine nksr hK fun K hK => ?_; refine o_ ?_; obtain ⟨q1, hq1, H⟩ := bnd H; refine cs [0] func64 (soft_Calc_note.does hq1) ?_; refine o_ ?_; refine nkt hK ?_; rw [← Option.some.inj H]; exact fw [0]
theorem soft_nan.does_l {l0 : List Int} (k : Nat) : (∀ (f_5 : Int) (is_6 : Bool) (t_9 : List Int) (t_10 t_11 : Int) (r : Int × Int × Bool), soft_nan.l0 k f_5 is_6 t_9 t_10 t_11 = some r → wk_ E0 (soft_nan.Q l0 r) (frs (bodyOf Tryd.f80) [1, 1, 1, 0, 1, 0] []) (sub (bodyOf Tryd.f80) [1, 1, 1, 0, 1, 0]) ⟨u_ 5 (.i .u8 f_5 :: .b is_6 :: .u :: .u :: .r (t_9.map (V.i .u64)) t_9.length true :: .i .i64 t_10 :: .i .i64 t_11 :: u_ 11 ([])), ofL [], 0, 0⟩) := by
 induction k with
 | zero => exact by intros; simp [soft_nan.l0] at *
 | succ k ih =>
  have ih0 := ih
  refine ?_
  ·intro f_5 is_6 t_9 t_10 t_11 r H; unfold soft_nan.l0 at H; refine fb ?_; refine w_loop ?_; refine sr fun K hK => ?_; refine o_ ?_; refine nk hK ?_; refine w_seq ?_; rcases its H with ⟨c1, H⟩ | ⟨c1, H⟩
   ·refine dT c1 ?_; refine wT ?_; refine sk ?_; refine w_seq ?_; refine w_block ?_; refine sr fun K hK => ?_; obtain ⟨c2, H⟩ := it1 H; obtain ⟨c3, H⟩ := it1 H; refine g_ixr rfl rfl Tryd.underlying64 sz23 rfl rfl ao_ al_ (gT ?_); refine g_ldq rfl rfl ag23 sz23 rfl ao_ (gT ?_); refine o_ ?_; refine nksr hK fun K hK => ?_; refine o_ ?_; obtain ⟨q4, hq4, H⟩ := bnd H
    refine cs [] func39 (word_Kind.does hq4) ?_; refine o_ ?_; refine nk hK ?_; rcases its H with ⟨c5, H⟩ | ⟨c5, H⟩
    ·refine dE c5 ?_; refine wT ?_; refine sr fun K hK => ?_; refine o_ ?_; refine nksr hK fun K hK => ?_; refine o_ ?_; obtain ⟨q6, hq6, H⟩ := bnd H; refine cs [] func65 (word_Signals.does hq6) ?_; refine nk hK ?_; rcases its H with ⟨c7, H⟩ | ⟨c7, H⟩
     ·refine dV c7 ?_; refine wT ?_; refine wR fun K hK => ?_; refine o_ ?_; refine nl hK ?_; refine k_block ?_; refine k_seq ?_; refine wR fun K hK => ?_; refine o_ ?_; refine nl hK ?_; refine k_loop ?_; refine ww [] [5, 0, 2, 0, 0] ?_; exact gi (ih0 16 true t_9 t_10 (wrap64 (t_11 + 1)) r H)
     ·refine dW c7 ?_; refine wF ?_; refine w_skip ?_; refine k_block ?_; refine k_seq ?_; refine wR fun K hK => ?_; refine o_ ?_; refine nl hK ?_; refine k_loop ?_; refine ww [] [5, 0, 2, 0, 0] ?_; exact gi (ih0 f_5 true t_9 t_10 (wrap64 (t_11 + 1)) r H)
    ·refine dN c5 ?_; refine wF ?_; refine w_skip ?_; refine k_block ?_; refine k_seq ?_; refine wR fun K hK => ?_; refine o_ ?_; refine nl hK ?_; refine k_loop ?_; refine ww [] [5, 0, 2, 0, 0] ?_; exact gi (ih0 f_5 is_6 t_9 t_10 (wrap64 (t_11 + 1)) r H)
   ·refine dF c1 ?_; refine wF ?_; refine w_exit rfl ?_; refine ksr fun K hK => ?_; refine o_ ?_; refine nkt hK ?_; rw [← Option.some.inj H]; exact fw []
theorem soft_nan.does {k : Nat} {l0 : List Int} {r : Int × Int × Bool} (H : soft_nan.f k l0 = some r) : Do E0 (.fn 80 [.r (l0.map (V.i .u64)) l0.length true] [] (.t [.i .u64 r.1, .i .u8 r.2.1, .b r.2.2]) []) := by
 obtain ih0 := @soft_nan.does_l l0 k; refine fnw ((soft_nan.Q l0 r)) func80 ntmps80 ?_; unfold soft_nan.f at H; refine sr fun K hK => ?_; refine o_ ?_; refine nksr hK fun K hK => ?_; refine o_ ?_; refine nksr hK fun K hK => ?_; refine o_ ?_; refine nk hK ?_; refine w_seq ?_; refine sr fun K hK => ?_; refine o_ ?_; refine g_len_r rfl rfl Tryd.underlying64 rfl (gT ?_); refine o_ ?_; refine nk hK ?_
 refine w_block ?_; refine ww [] [5, 0, 2, 0, 0] ?_; exact gi (ih0 0 false l0 (l0.length : Int) 0 r H)
theorem soft_Mul.does_l {a0 a1 : Int} (k : Nat) : (∀ (a_0 b_1 : Int) (neg_9 : Bool) (x_10 y_11 : Int) (t_36 : Bool) (r : Int × Int), soft_Mul.j0 k a_0 b_1 neg_9 x_10 y_11 t_36 = some r → kont E0 (soft_Mul.Q a0 a1 r) (frs (bodyOf Tryd.f71) [1, 1, 1, 1, 0, 0, 0] []) .normal ⟨.i .u64 a_0 :: .i .u64 b_1 :: u_ 7 (.b neg_9 :: .i .i64 x_10 :: .i .i64 y_11 :: u_ 24 (.b t_36 :: u_ 43 ([]))), ofL [], 0, 0⟩) ∧
    (∀ (a_0 b_1 : Int) (neg_9 t_51 : Bool) (r : Int × Int), soft_Mul.j1 k a_0 b_1 neg_9 t_51 = some r → kont E0 (soft_Mul.Q a0 a1 r) (frs (bodyOf Tryd.f71) [1, 1, 1, 1, 0, 0, 1, 1, 0] []) .normal ⟨.i .u64 a_0 :: .i .u64 b_1 :: u_ 7 (.b neg_9 :: u_ 41 (.b t_51 :: u_ 28 ([]))), ofL [], 0, 0⟩) := by
 induction k with
 | zero => exact ⟨by intros; simp [soft_Mul.j0] at *, by intros; simp [soft_Mul.j1] at *⟩
 | succ k ih =>
  obtain ⟨ih0, ih1⟩ := ih
  refine ⟨?_, ?_⟩
  ·intro a_0 b_1 neg_9 x_10 y_11 t_36 r H; unfold soft_Mul.j0 at H; refine fb ?_; refine k_seq ?_; rcases its H with ⟨c11, H⟩ | ⟨c11, H⟩
   ·refine dV c11 ?_; refine wT ?_; refine sr fun K hK => ?_; refine o_ ?_; refine nkt hK ?_; rw [← Option.some.inj H]; exact fw []
   ·refine dW c11 ?_; refine wF ?_; refine sr fun K hK => ?_; refine o_ ?_; rcases its H with ⟨c12, H⟩ | ⟨c12, H⟩
    ·refine dE c12 ?_; refine o_ ?_; refine nl hK ?_; refine kw [] [0, 0, 7, 41] ?_; exact gi (ih1 a_0 b_1 neg_9 true r H)
    ·refine dN c12 ?_; refine o_ ?_; refine nl hK ?_; refine kw [] [0, 0, 7, 41] ?_; exact gi (ih1 a_0 b_1 neg_9 (y_11 == 4) r H)
  ·intro a_0 b_1 neg_9 t_51 r H; unfold soft_Mul.j1 at H; refine fb ?_; refine k_seq ?_; rcases its H with ⟨c13, H⟩ | ⟨c13, H⟩
   ·refine dV c13 ?_; refine wT ?_; refine sr fun K hK => ?_; refine o_ ?_; obtain ⟨q14, hq14, H⟩ := bnd H; refine cs [] func51 (word_Make.does hq14) ?_; refine o_ ?_; refine nkt hK ?_; rw [← Option.some.inj H]; exact fw []
   ·refine dW c13 ?_; refine wF ?_; refine w_skip ?_; refine k_block ?_; refine ksr fun K hK => ?_; refine o_ ?_; obtain ⟨q15, hq15, H⟩ := bnd H; refine cs [] func56 (word_Parts.does hq15) ?_; refine o_ ?_; refine nksr hK fun K hK => ?_; refine o_ ?_; obtain ⟨q16, hq16, H⟩ := bnd H; refine cs [] func56 (word_Parts.does hq16) ?_; refine o_ ?_; refine nksr hK fun K hK => ?_; refine o_ ?_
    obtain ⟨q17, hq17, H⟩ := bnd H; refine cs [] func78 (wide_Mul.does hq17) ?_; refine o_ ?_; obtain ⟨q18, hq18, H⟩ := bnd H; refine cs [] func29 (round_Round.does hq18) ?_; refine o_ ?_; refine nkt hK ?_; rw [← Option.some.inj H]; exact fw []
theorem soft_Mul.does {k : Nat} {a0 a1 : Int} {r : Int × Int} (H : soft_Mul.f k a0 a1 = some r) : Do E0 (.fn 71 [.i .u64 a0, .i .u64 a1] [] (.t [.i .u64 r.1, .i .u8 r.2]) []) := by
 obtain ⟨ih0, ih1⟩ := @soft_Mul.does_l a0 a1 k; refine fnw ((soft_Mul.Q a0 a1 r)) func71 ntmps71 ?_; unfold soft_Mul.f at H; refine sr fun K hK => ?_; refine o_ ?_; refine nk hK ?_; refine w_seq ?_; refine sr fun K hK => ?_; refine o_ ?_; refine g_bsl (k := .u64) (xs := [a0, a1]) rfl rfl Tryd.underlying64 sz23 zr23 de_ rfl rfl rfl (gU ?_); obtain ⟨q1, hq1, H⟩ := bnd H
 refine cs [] func80 (soft_nan.does hq1) ?_; refine o_ ?_; refine nksr hK fun K hK => ?_; refine o_ ?_; refine nk hK ?_; rcases its H with ⟨c2, H⟩ | ⟨c2, H⟩
 ·refine dV c2 ?_; refine wT ?_; refine sr fun K hK => ?_; refine o_ ?_; refine nkt hK ?_; rw [← Option.some.inj H]; exact fw []
 ·refine dW c2 ?_; refine wF ?_; refine sk ?_; refine sr fun K hK => ?_; refine o_ ?_; obtain ⟨q3, hq3, H⟩ := bnd H; refine cs [] func37 (word_Neg.does hq3) ?_; refine o_ ?_; obtain ⟨q4, hq4, H⟩ := bnd H; refine cs [] func37 (word_Neg.does hq4) ?_; refine g_neb rfl rfl Tryd.underlying4 rfl rfl (gT ?_); refine o_ ?_; refine nksr hK fun K hK => ?_; refine o_ ?_; obtain ⟨q5, hq5, H⟩ := bnd H
  refine cs [] func39 (word_Kind.does hq5) ?_; refine o_ ?_; obtain ⟨q6, hq6, H⟩ := bnd H; refine cs [] func39 (word_Kind.does hq6) ?_; refine o_ ?_; refine nk hK ?_; refine w_seq ?_; refine w_block ?_; refine sr fun K hK => ?_; refine o_ ?_; rcases its H with ⟨c7, H⟩ | ⟨c7, H⟩
  ·refine dE c7 ?_; refine o_ ?_; rcases its H with ⟨c8, H⟩ | ⟨c8, H⟩
   ·refine dE c8 ?_; refine o_ ?_; refine nl hK ?_; refine kw [] [0, 0, 7, 0, 0, 24] ?_; exact gi (ih0 a0 a1 (q3 != q4) q5 q6 true r H)
   ·refine dN c8 ?_; refine o_ ?_; rcases its H with ⟨c9, H⟩ | ⟨c9, H⟩
    ·refine dE c9 ?_; refine o_ ?_; refine nl hK ?_; refine kw [] [0, 0, 7, 0, 0, 24] ?_; exact gi (ih0 a0 a1 (q3 != q4) q5 q6 (q6 == 4) r H)
    ·refine dN c9 ?_; refine o_ ?_; refine nl hK ?_; refine kw [] [0, 0, 7, 0, 0, 24] ?_; exact gi (ih0 a0 a1 (q3 != q4) q5 q6 false r H)
  ·refine dN c7 ?_; refine o_ ?_; rcases its H with ⟨c10, H⟩ | ⟨c10, H⟩
   ·refine dE c10 ?_; refine o_ ?_; refine nl hK ?_; refine kw [] [0, 0, 7, 0, 0, 24] ?_; exact gi (ih0 a0 a1 (q3 != q4) q5 q6 (q6 == 4) r H)
   ·refine dN c10 ?_; refine o_ ?_; refine nl hK ?_; refine kw [] [0, 0, 7, 0, 0, 24] ?_; exact gi (ih0 a0 a1 (q3 != q4) q5 q6 false r H)
theorem soft_Calc_Mul.does {k : Nat} {s0_0 a1 a2 : Int} {r : Int × Int} (H : soft_Calc_Mul.f k s0_0 a1 a2 = some r) : Do E0 (.fn 46 [.p (some (0, 0)), .i .u64 a1, .i .u64 a2] [.row [.i .u8 s0_0] 0 0 true false none] (.i .u64 r.1) [.row [.i .u8 r.2] 0 0 true false none]) := by
 refine fnw ((soft_Calc_Mul.Q s0_0 a1 a2 r)) func46 ntmps46 ?_; unfold soft_Calc_Mul.f at H; refine sr fun K hK => ?_; refine o_ ?_; refine nksr hK fun K hK => ?_; refine o_ ?_; obtain ⟨q1, hq1, H⟩ := bnd H; refine cs [] func71 (soft_Mul.does hq1) ?_; refine o_ ?_; obtain ⟨q2, hq2, H⟩ := bnd H; refine cs [0] func64 (soft_Calc_note.does hq2) ?_; refine o_ ?_; refine nkt hK ?_
 rw [← Option.some.inj H]; exact fw [0]
theorem block_Values.does {k : Nat} {a0_0 a0_1 a0_2 a0_3 : Int} {r : Int × Int × Int × Int × Int} (H : block_Values.f k a0_0 a0_1 a0_2 a0_3 = some r) : Do E0 (.fn 25 [.a [.i .u64 a0_0, .i .u64 a0_1, .i .u64 a0_2, .i .u64 a0_3]] [] (.t [.a [.i .u64 r.1, .i .u64 r.2.1, .i .u64 r.2.2.1, .i .u64 r.2.2.2.1], .i .u8 r.2.2.2.2]) []) := by
 refine fnw ((block_Values.Q a0_0 a0_1 a0_2 a0_3 r)) func25 ntmps25 ?_; unfold block_Values.f at H; refine sr fun K hK => ?_; refine o_ ?_; refine nk hK ?_; refine w_seq ?_; refine sr fun K hK => ?_; refine o_ ?_; obtain ⟨q1, hq1, H⟩ := bnd H; refine cs [] func39 (word_Kind.does hq1) ?_; refine o_ ?_; refine nk hK ?_; rcases its H with ⟨c2, H⟩ | ⟨c2, H⟩
 ·refine dE c2 ?_; refine wT ?_; refine sr fun K hK => ?_; refine o_ ?_; refine g_bd rfl rfl zr51 Tryd.underlying51 (pl := [(0, 1), (1, 1)]) (by kernel_rfl) ?_; refine gB ?_; refine o_ ?_; refine g_bd rfl rfl zr51 Tryd.underlying51 (pl := [(0, 1), (1, 1)]) (by kernel_rfl) ?_; refine gB ?_; refine g_bda rfl rfl zr52 Tryd.underlying52 sz51 ?_; refine gB ?_; refine o_ ?_; refine nkt hK ?_
  rw [← Option.some.inj H]; exact fw []
 ·refine dN c2 ?_; refine wF ?_; refine sk ?_; refine sr fun K hK => ?_; refine o_ ?_; refine nksr hK fun K hK => ?_; refine o_ ?_; obtain ⟨q3, hq3, H⟩ := bnd H; refine cs [] func12 (word_Abs.does hq3) ?_; obtain ⟨q4, hq4, H⟩ := bnd H; refine cs [] func45 (more_Sqrt.does hq4) ?_; refine o_ ?_; obtain ⟨q5, hq5, H⟩ := bnd H; refine cs [28] func35 (soft_Calc_Note.does hq5) ?_; refine o_ ?_
  refine nksr hK fun K hK => ?_; refine o_ ?_; obtain ⟨q6, hq6, H⟩ := bnd H; refine cs [] func12 (word_Abs.does hq6) ?_; obtain ⟨q7, hq7, H⟩ := bnd H; refine cs [] func45 (more_Sqrt.does hq7) ?_; refine o_ ?_; obtain ⟨q8, hq8, H⟩ := bnd H; refine cs [28] func35 (soft_Calc_Note.does hq8) ?_; refine o_ ?_; refine nksr hK fun K hK => ?_; refine o_ ?_; obtain ⟨q9, hq9, H⟩ := bnd H
  refine cs [28] func46 (soft_Calc_Mul.does hq9) ?_; refine o_ ?_; refine nk hK ?_; refine w_seq ?_; refine wD fun K hK => ?_; refine o_ ?_; refine g_bd rfl rfl zr51 Tryd.underlying51 (pl := [(0, 1), (1, 1)]) (by kernel_rfl) ?_; refine gB ?_; refine o_ ?_; obtain ⟨q10, hq10, H⟩ := bnd H; refine cs [] func24 (word_Flip.does hq10) ?_
  refine g_bd rfl rfl zr51 Tryd.underlying51 (pl := [(0, 1), (1, 1)]) (by kernel_rfl) ?_; refine gB ?_; refine g_bda rfl rfl zr52 Tryd.underlying52 sz51 ?_; refine gB ?_; refine o_ ?_; refine g_nil (hK _ _ _ (by kernel_rfl) ?_); refine kt ?_; rw [← Option.some.inj H]; exact fw []
theorem block_Two_Plain.does {k : Nat} {a0_0 a0_1 a0_2 a0_3 : Int} {r : Bool} (H : block_Two_Plain.f k a0_0 a0_1 a0_2 a0_3 = some r) : Do E0 (.fn 14 [.a [.i .u64 a0_0, .i .u64 a0_1, .i .u64 a0_2, .i .u64 a0_3]] [] (.b r) []) := by
 refine fnw ((block_Two_Plain.Q a0_0 a0_1 a0_2 a0_3 r)) func14 ntmps14 ?_; unfold block_Two_Plain.f at H; refine sr fun K hK => ?_; refine o_ ?_; refine nk hK ?_; refine w_seq ?_; refine sr fun K hK => ?_; refine o_ ?_; obtain ⟨q1, hq1, H⟩ := bnd H; refine cs [] func39 (word_Kind.does hq1) ?_; refine o_ ?_; refine nk hK ?_; rcases its H with ⟨c2, H⟩ | ⟨c2, H⟩
 ·refine dE c2 ?_; refine wT ?_; refine sr fun K hK => ?_; refine o_ ?_; refine nkt hK ?_; rw [← Option.some.inj H]; exact fw []
 ·refine dN c2 ?_; refine wF ?_; refine sk ?_; refine w_seq ?_; refine wD fun K hK => ?_; refine o_ ?_; rcases its H with ⟨c3, H⟩ | ⟨c3, H⟩
  ·refine dE c3 ?_; refine o_ ?_; obtain ⟨q4, hq4, H⟩ := bnd H; refine cs [] func39 (word_Kind.does hq4) ?_; refine o_ ?_; rcases its H with ⟨c5, H⟩ | ⟨c5, H⟩
   ·refine dE c5 ?_; refine o_ ?_; refine g_nil (hK _ _ _ (by kernel_rfl) ?_); refine kt ?_; rw [← Option.some.inj H]; exact fw []
   ·refine dN c5 ?_; refine o_ ?_; obtain ⟨q6, hq6, H⟩ := bnd H; refine cs [] func37 (word_Neg.does hq6) ?_; refine o_ ?_; obtain ⟨q7, hq7, H⟩ := bnd H; refine cs [] func37 (word_Neg.does hq7) ?_; refine g_neb rfl rfl Tryd.underlying4 rfl rfl (gT ?_); refine o_ ?_; refine g_nil (hK _ _ _ (by kernel_rfl) ?_); refine kt ?_; rw [← Option.some.inj H]; exact fw []
  ·refine dN c3 ?_; refine o_ ?_; refine g_nil (hK _ _ _ (by kernel_rfl) ?_); refine kt ?_; rw [← Option.some.inj H]; exact fw []
theorem gimballaw15_head.does {k : Nat} {r : Bool} (H : gimballaw15_head.f k  = some r) : Do E0 (.fn 6 [] [] (.b r) []) := by
 refine fnw ((gimballaw15_head.Q  r)) func6 ntmps6 ?_; unfold gimballaw15_head.f at H; refine sr fun K hK => ?_; refine o_ ?_; refine nksr hK fun K hK => ?_; obtain ⟨q1, hq1, H⟩ := bnd H; refine cs [] func24 (word_Flip.does hq1) ?_; refine g_bd rfl rfl zr35 Tryd.underlying35 (pl := [(0, 1), (1, 1), (2, 1), (3, 1)]) (by kernel_rfl) ?_; refine gB ?_; refine o_ ?_; refine nksr hK fun K hK => ?_
 refine o_ ?_; obtain ⟨q2, hq2, H⟩ := bnd H; refine cs [] func25 (block_Values.does hq2) ?_; refine o_ ?_; refine nk hK ?_; refine w_seq ?_; refine wD fun K hK => ?_; refine o_ ?_; obtain ⟨q3, hq3, H⟩ := bnd H; refine cs [] func14 (block_Two_Plain.does hq3) ?_; refine o_ ?_; rcases its H with ⟨c4, H⟩ | ⟨c4, H⟩
 ·refine dV c4 ?_; refine o_ ?_; rcases its H with ⟨c5, H⟩ | ⟨c5, H⟩
  ·refine dE c5 ?_; refine g_ixa rfl rfl Tryd.underlying52 sz51 rfl rfl de_ de_ (gT ?_); refine o_ ?_; refine g_bd rfl rfl zr51 Tryd.underlying51 (pl := [(0, 1), (1, 1)]) (by kernel_rfl) ?_; refine gB ?_
   refine g_same rfl rfl (c := .b ((q2.1 == 0) && ((q2.2.1 == 4607182418800017408)))) (by simp only [nrm]; (try simp only [Int.toNat_zero, Int.toNat_one, Nat.zero_mul, Nat.one_mul, Nat.reduceMul, List.drop_succ_cons, List.drop_zero, List.take_succ_cons, List.take_zero]); simp only [binV, eqs51, Go.Rk.Rd.of, Go.Rk.Rd.bind, Bool.and_true, Bool.not_and]) (gT ?_); refine o_ ?_
   rcases its H with ⟨c6, H⟩ | ⟨c6, H⟩
   ·refine dV c6 ?_; refine g_ixa rfl rfl Tryd.underlying52 sz51 rfl rfl de_ de_ (gT ?_); refine o_ ?_; obtain ⟨q7, hq7, H⟩ := bnd H; refine cs [] func24 (word_Flip.does hq7) ?_; refine g_bd rfl rfl zr51 Tryd.underlying51 (pl := [(0, 1), (1, 1)]) (by kernel_rfl) ?_; refine gB ?_
    refine g_same rfl rfl (c := .b ((q2.2.2.1 == 0) && ((q2.2.2.2.1 == q7)))) (by simp only [nrm]; (try simp only [Int.toNat_zero, Int.toNat_one, Nat.zero_mul, Nat.one_mul, Nat.reduceMul, List.drop_succ_cons, List.drop_zero, List.take_succ_cons, List.take_zero]); simp only [binV, eqs51, Go.Rk.Rd.of, Go.Rk.Rd.bind, Bool.and_true, Bool.not_and]) (gT ?_); refine o_ ?_
    refine g_nil (hK _ _ _ (by kernel_rfl) ?_); refine kt ?_; rw [← Option.some.inj H]; exact fw []
   ·refine dW c6 ?_; refine o_ ?_; refine g_nil (hK _ _ _ (by kernel_rfl) ?_); refine kt ?_; rw [← Option.some.inj H]; exact fw []
  ·refine dN c5 ?_; refine o_ ?_; refine g_nil (hK _ _ _ (by kernel_rfl) ?_); refine kt ?_; rw [← Option.some.inj H]; exact fw []
 ·refine dW c4 ?_; refine o_ ?_; refine g_nil (hK _ _ _ (by kernel_rfl) ?_); refine kt ?_; rw [← Option.some.inj H]; exact fw []
theorem gimballaw15_head_ok.does {r : Unit} (H : gimballaw15_head_ok.f = some r) : Do E0 (.fn 6 [] [] (.b true) []) := (gimballaw15_head.does (k := 200) (r := true) (by kernel_rfl))
theorem block_Two_list.does {a0_0 a0_1 a0_2 a0_3 : Int} {r : (List Int)} (H : block_Two_list.f a0_0 a0_1 a0_2 a0_3 = some r) : Do E0 (.fn 30 [.a [.i .u64 a0_0, .i .u64 a0_1, .i .u64 a0_2, .i .u64 a0_3]] [] (.s (some (0, 0)) r.length) [.row (r.map (V.i .u64)) 2 1 true true none]) := by
 refine fnw ((block_Two_list.Q a0_0 a0_1 a0_2 a0_3 r)) func30 ntmps30 ?_; unfold block_Two_list.f at H; refine sr fun K hK => ?_; refine o_ ?_; refine nksr hK fun K hK => ?_; refine o_ ?_; refine g_bsl (k := .u64) (xs := [a0_0, a0_1, a0_2, a0_3]) rfl rfl Tryd.underlying64 sz23 zr23 de_ rfl rfl rfl (gU ?_); refine o_ ?_; refine nkt hK ?_; rw [← Option.some.inj H]; exact fw [40]
theorem word_Finite.does {a0 : Int} {r : Bool} (H : word_Finite.f a0 = some r) : Do E0 (.fn 13 [.i .u64 a0] [] (.b r) []) := by
 refine fnw ((word_Finite.Q a0 r)) func13 ntmps13 ?_; unfold word_Finite.f at H; refine sr fun K hK => ?_; refine o_ ?_; refine nksr hK fun K hK => ?_; refine o_ ?_; obtain ⟨q1, hq1, H⟩ := bnd H; refine cs [] func38 (word_Exp.does hq1) ?_; refine o_ ?_; refine nkt hK ?_; rw [← Option.some.inj H]; exact fw []
theorem order_Greatest.does_l {l0 : List Int} (k : Nat) : (∀ (best_4 at_5 : Int) (t_8 : List Int) (t_9 t_10 : Int) (r : Int × Int), order_Greatest.l0 k best_4 at_5 t_8 t_9 t_10 = some r → wk_ E0 (order_Greatest.Q l0 r) (frs (bodyOf Tryd.f55) [1, 1, 0, 1, 0] []) (sub (bodyOf Tryd.f55) [1, 1, 0, 1, 0]) ⟨u_ 4 (.i .u64 best_4 :: .i .i64 at_5 :: .u :: .u :: .r (t_8.map (V.i .u64)) t_8.length true :: .i .i64 t_9 :: .i .i64 t_10 :: u_ 22 ([])), ofL [], 0, 0⟩) := by
 induction k with
 | zero => exact by intros; simp [order_Greatest.l0] at *
 | succ k ih =>
  have ih0 := ih
  refine ?_
  ·intro best_4 at_5 t_8 t_9 t_10 r H; unfold order_Greatest.l0 at H; refine fb ?_; refine w_loop ?_; refine sr fun K hK => ?_; refine o_ ?_; refine nk hK ?_; refine w_seq ?_; rcases its H with ⟨c1, H⟩ | ⟨c1, H⟩
   ·refine dT c1 ?_; refine wT ?_; refine sk ?_; refine w_seq ?_; refine w_block ?_; refine sr fun K hK => ?_; refine o_ ?_; obtain ⟨c2, H⟩ := it1 H; obtain ⟨c3, H⟩ := it1 H; refine g_ixr rfl rfl Tryd.underlying64 sz23 rfl rfl ao_ al_ (gT ?_); refine g_ldq rfl rfl ag23 sz23 rfl ao_ (gT ?_); refine o_ ?_; refine nk hK ?_; refine w_seq ?_; refine sr fun K hK => ?_; refine o_ ?_
    obtain ⟨q4, hq4, H⟩ := bnd H; refine cs [] func39 (word_Kind.does hq4) ?_; refine o_ ?_; refine nk hK ?_; rcases its H with ⟨c5, H⟩ | ⟨c5, H⟩
    ·refine dE c5 ?_; refine wT ?_; refine sr fun K hK => ?_; refine o_ ?_; refine nkt hK ?_; rw [← Option.some.inj H]; exact fw []
    ·refine dN c5 ?_; refine wF ?_; refine sk ?_; refine sr fun K hK => ?_; refine o_ ?_; rcases its H with ⟨c6, H⟩ | ⟨c6, H⟩
     ·refine dT c6 ?_; refine o_ ?_; refine nk hK ?_; refine wT ?_; refine wR fun K hK => ?_; refine o_ ?_; obtain ⟨q7, hq7, H⟩ := bnd H; refine cs [] func12 (word_Abs.does hq7) ?_; refine o_ ?_; refine nl hK ?_; refine k_block ?_; refine k_seq ?_; refine wR fun K hK => ?_; refine o_ ?_; refine nl hK ?_; refine k_loop ?_; refine ww [] [4, 0, 2, 0, 0] ?_
      exact gi (ih0 q7 t_10 t_8 t_9 (wrap64 (t_10 + 1)) r H)
     ·refine dF c6 ?_; refine o_ ?_; obtain ⟨q8, hq8, H⟩ := bnd H; refine cs [] func12 (word_Abs.does hq8) ?_; refine o_ ?_; refine nk hK ?_; rcases its H with ⟨c9, H⟩ | ⟨c9, H⟩
      ·refine dT c9 ?_; refine wT ?_; refine wR fun K hK => ?_; refine o_ ?_; obtain ⟨q10, hq10, H⟩ := bnd H; refine cs [] func12 (word_Abs.does hq10) ?_; refine o_ ?_; refine nl hK ?_; refine k_block ?_; refine k_seq ?_; refine wR fun K hK => ?_; refine o_ ?_; refine nl hK ?_; refine k_loop ?_; refine ww [] [4, 0, 2, 0, 0] ?_; exact gi (ih0 q10 t_10 t_8 t_9 (wrap64 (t_10 + 1)) r H)
      ·refine dF c9 ?_; refine wF ?_; refine w_skip ?_; refine k_block ?_; refine k_seq ?_; refine wR fun K hK => ?_; refine o_ ?_; refine nl hK ?_; refine k_loop ?_; refine ww [] [4, 0, 2, 0, 0] ?_; exact gi (ih0 best_4 at_5 t_8 t_9 (wrap64 (t_10 + 1)) r H)
   ·refine dF c1 ?_; refine wF ?_; refine w_exit rfl ?_; refine ksr fun K hK => ?_; refine o_ ?_; refine nkt hK ?_; rw [← Option.some.inj H]; exact fw []
theorem order_Greatest.does {k : Nat} {l0 : List Int} {r : Int × Int} (H : order_Greatest.f k l0 = some r) : Do E0 (.fn 55 [.r (l0.map (V.i .u64)) l0.length true] [] (.t [.i .u64 r.1, .i .i64 r.2]) []) := by
 obtain ih0 := @order_Greatest.does_l l0 k; refine fnw ((order_Greatest.Q l0 r)) func55 ntmps55 ?_; unfold order_Greatest.f at H; refine sr fun K hK => ?_; refine o_ ?_; refine nksr hK fun K hK => ?_; refine o_ ?_; refine nk hK ?_; refine w_seq ?_; refine sr fun K hK => ?_; refine o_ ?_; refine g_len_r rfl rfl Tryd.underlying64 rfl (gT ?_); refine o_ ?_; refine nk hK ?_; refine w_block ?_
 refine ww [] [4, 0, 2, 0, 0] ?_; exact gi (ih0 0 (-1) l0 (l0.length : Int) 0 r H)
theorem vec_Power.does_l {l0 : List Int} (k : Nat) : (∀ (n_6 e_7 : Int) (r : Int × Bool), vec_Power.l0 k n_6 e_7 = some r → wk_ E0 (vec_Power.Q l0 r) (frs (bodyOf Tryd.f31) [1, 1, 1, 1, 0, 0] []) (sub (bodyOf Tryd.f31) [1, 1, 1, 1, 0, 0]) ⟨u_ 6 (.i .u64 n_6 :: .i .i64 e_7 :: u_ 19 ([])), ofL [], 0, 0⟩) := by
 induction k with
 | zero => exact by intros; simp [vec_Power.l0] at *
 | succ k ih =>
  have ih0 := ih
  refine ?_
  ·intro n_6 e_7 r H; unfold vec_Power.l0 at H; refine fb ?_; refine w_loop ?_; refine w_seq ?_; refine sr fun K hK => ?_; refine o_ ?_; refine nk hK ?_; rcases its H with ⟨c4, H⟩ | ⟨c4, H⟩
   ·refine dT c4 ?_; refine wT ?_; refine sk ?_; refine w_block ?_; refine wR fun K hK => ?_; refine o_ ?_; refine g_shrc (p := 2) rfl rfl rfl rfl de_ (by rfl) (gT ?_); refine o_ ?_; refine nl hK ?_; refine k_block ?_; refine k_loop ?_; refine ww [] [6, 0] ?_; exact gi (ih0 (n_6 / 2) (wrap64 (e_7 + 1)) r H)
   ·refine dF c4 ?_; refine wF ?_; refine w_exit rfl ?_; refine ksr fun K hK => ?_; refine o_ ?_; refine nkt hK ?_; rw [← Option.some.inj H]; exact fw []
theorem vec_Power.does {k : Nat} {l0 : List Int} {r : Int × Bool} (H : vec_Power.f k l0 = some r) : Do E0 (.fn 31 [.r (l0.map (V.i .u64)) l0.length true] [] (.t [.i .i64 r.1, .b r.2]) []) := by
 obtain ih0 := @vec_Power.does_l l0 k; refine fnw ((vec_Power.Q l0 r)) func31 ntmps31 ?_; unfold vec_Power.f at H; refine sr fun K hK => ?_; refine o_ ?_; refine nksr hK fun K hK => ?_; refine o_ ?_; obtain ⟨q1, hq1, H⟩ := bnd H; refine cs [] func55 (order_Greatest.does hq1) ?_; refine o_ ?_; refine nksr hK fun K hK => ?_; refine o_ ?_; obtain ⟨q2, hq2, H⟩ := bnd H
 refine cs [] func56 (word_Parts.does hq2) ?_; refine o_ ?_; refine nk hK ?_; refine w_seq ?_; refine sr fun K hK => ?_; refine o_ ?_; refine nk hK ?_; rcases its H with ⟨c3, H⟩ | ⟨c3, H⟩
 ·refine dE c3 ?_; refine wT ?_; refine sr fun K hK => ?_; refine o_ ?_; refine nkt hK ?_; rw [← Option.some.inj H]; exact fw []
 ·refine dN c3 ?_; refine wF ?_; refine sk ?_; refine w_seq ?_; refine w_block ?_; refine ww [] [6, 0] ?_; exact gi (ih0 q2.1 q2.2 r H)
theorem more_Scale.does_l {a0 a1 : Int} (k : Nat) : (∀ (a_0 n_1 : Int) (t_14 : Bool) (r : Int × Int), more_Scale.j0 k a_0 n_1 t_14 = some r → kont E0 (more_Scale.Q a0 a1 r) (frs (bodyOf Tryd.f36) [1, 0, 1, 0, 1, 1, 0, 1] []) .normal ⟨.i .u64 a_0 :: .i .i64 n_1 :: u_ 12 (.b t_14 :: u_ 20 ([])), ofL [], 0, 0⟩) := by
 induction k with
 | zero => exact by intros; simp [more_Scale.j0] at *
 | succ k ih =>
  have ih0 := ih
  refine ?_
  ·intro a_0 n_1 t_14 r H; unfold more_Scale.j0 at H; refine fb ?_; refine k_seq ?_; rcases its H with ⟨c6, H⟩ | ⟨c6, H⟩
   ·refine dV c6 ?_; refine wT ?_; refine sr fun K hK => ?_; refine o_ ?_; refine nkt hK ?_; rw [← Option.some.inj H]; exact fw []
   ·refine dW c6 ?_; refine wF ?_; refine w_skip ?_; refine k_block ?_; refine ksr fun K hK => ?_; refine o_ ?_; obtain ⟨q7, hq7, H⟩ := bnd H; refine cs [] func56 (word_Parts.does hq7) ?_; refine o_ ?_; refine nksr hK fun K hK => ?_; refine o_ ?_; obtain ⟨q8, hq8, H⟩ := bnd H; refine cs [] func37 (word_Neg.does hq8) ?_; refine o_ ?_
    refine g_bd rfl rfl zr59 Tryd.underlying59 (pl := [(0, 1), (1, 1)]) (by kernel_rfl) ?_; refine gB ?_; refine o_ ?_; refine g_min rfl rfl rfl rfl (m := mn _ _) rfl (gT ?_); refine g_max rfl rfl rfl rfl (m := mx _ _) rfl (gT ?_); refine o_ ?_; obtain ⟨q9, hq9, H⟩ := bnd H; refine cs [] func29 (round_Round.does hq9) ?_; refine o_ ?_; refine nkt hK ?_; rw [← Option.some.inj H]; exact fw []
theorem more_Scale.does {k : Nat} {a0 a1 : Int} {r : Int × Int} (H : more_Scale.f k a0 a1 = some r) : Do E0 (.fn 36 [.i .u64 a0, .i .i64 a1] [] (.t [.i .u64 r.1, .i .u8 r.2]) []) := by
 obtain ih0 := @more_Scale.does_l a0 a1 k; refine fnw ((more_Scale.Q a0 a1 r)) func36 ntmps36 ?_; unfold more_Scale.f at H; refine sr fun K hK => ?_; refine o_ ?_; refine nk hK ?_; refine w_seq ?_; refine sr fun K hK => ?_; refine o_ ?_; obtain ⟨q1, hq1, H⟩ := bnd H; refine cs [] func39 (word_Kind.does hq1) ?_; refine nk hK ?_; refine w_block ?_; refine sr fun K hK => ?_; refine o_ ?_
 refine nk hK ?_; rcases its H with ⟨c2, H⟩ | ⟨c2, H⟩
 ·refine dE c2 ?_; refine wT ?_; refine w_seq ?_; refine sr fun K hK => ?_; refine o_ ?_; obtain ⟨q3, hq3, H⟩ := bnd H; refine cs [] func65 (word_Signals.does hq3) ?_; refine nk hK ?_; rcases its H with ⟨c4, H⟩ | ⟨c4, H⟩
  ·refine dV c4 ?_; refine wT ?_; refine sr fun K hK => ?_; refine o_ ?_; refine nkt hK ?_; rw [← Option.some.inj H]; exact fw []
  ·refine dW c4 ?_; refine wF ?_; refine sk ?_; refine sr fun K hK => ?_; refine o_ ?_; refine nkt hK ?_; rw [← Option.some.inj H]; exact fw []
 ·refine dN c2 ?_; refine wF ?_; refine w_seq ?_; refine sr fun K hK => ?_; refine o_ ?_; refine nk hK ?_; rcases its H with ⟨c5, H⟩ | ⟨c5, H⟩
  ·refine dE c5 ?_; refine wT ?_; refine w_skip ?_; refine kw [] [0, 0, 12] ?_; exact gi (ih0 a0 a1 true r H)
  ·refine dN c5 ?_; refine wF ?_; refine wR fun K hK => ?_; refine o_ ?_; refine nl hK ?_; refine kw [] [0, 0, 12] ?_; exact gi (ih0 a0 a1 (q1 == 1) r H)
theorem vec_Unit.does_l {l0 : List Int} {a1 : Int} (k : Nat) : (∀ (e_1 : Int) (h0 t_13 : List Int) (t_14 t_15 : Int) (r : (List Int)), vec_Unit.l0 k e_1 h0 t_13 t_14 t_15 = some r → wk_ E0 (vec_Unit.Q l0 a1 r) (frs (bodyOf Tryd.f32) [1, 1, 1, 0, 1, 0] []) (sub (bodyOf Tryd.f32) [1, 1, 1, 0, 1, 0]) ⟨.u :: .i .i64 e_1 :: u_ 3 (.s (some (0, 0)) h0.length :: u_ 7 (.r (t_13.map (V.i .u64)) t_13.length true :: .i .i64 t_14 :: .i .i64 t_15 :: u_ 16 ([]))), ofL [.row (h0.map (V.i .u64)) 2 1 true true none], 1, 0⟩) := by
 induction k with
 | zero => exact by intros; simp [vec_Unit.l0] at *
 | succ k ih =>
  have ih0 := ih
  refine ?_
  ·intro e_1 h0 t_13 t_14 t_15 r H; unfold vec_Unit.l0 at H; refine fb ?_; refine w_loop ?_; refine sr fun K hK => ?_; refine o_ ?_; refine nk hK ?_; refine w_seq ?_; rcases its H with ⟨c1, H⟩ | ⟨c1, H⟩
   ·refine dT c1 ?_; refine wT ?_; refine sk ?_; refine w_seq ?_; refine w_block ?_; refine sr fun K hK => ?_; obtain ⟨c2, H⟩ := it1 H; obtain ⟨c3, H⟩ := it1 H; refine g_ixr rfl rfl Tryd.underlying64 sz23 rfl rfl ao_ al_ (gT ?_); refine g_ldq rfl rfl ag23 sz23 rfl ao_ (gT ?_); refine o_ ?_; refine nksr hK fun K hK => ?_; refine o_ ?_; obtain ⟨q4, hq4, H⟩ := bnd H
    refine cs [] func36 (more_Scale.does hq4) ?_; refine o_ ?_; refine nk hK ?_; refine wR fun K hK => ?_; refine o_ ?_; refine g_bsl (k := .u64) (xs := [q4.1]) rfl rfl Tryd.underlying64 sz23 zr23 de_ rfl rfl rfl (gU ?_); obtain ⟨c5, H⟩ := it1 H; refine g_aps rfl rfl Tryd.underlying64 Tryd.underlying64 sz23 by23 zr23 rfl rfl rfl rfl rfl rfl (by unfold limit; omega) (by omega) ?_; refine gN ?_
    refine o_ ?_; refine nl hK ?_; refine k_block ?_; refine k_seq ?_; refine wR fun K hK => ?_; refine o_ ?_; refine nl hK ?_; refine k_loop ?_; refine ww [65] [1, 3, 7, 0, 0] ?_; exact gi (ih0 e_1 (h0 ++ ([q4.1] : List Int)) t_13 t_14 (wrap64 (t_15 + 1)) r H)
   ·refine dF c1 ?_; refine wF ?_; refine w_exit rfl ?_; refine ksr fun K hK => ?_; refine o_ ?_; refine nkt hK ?_; rw [← Option.some.inj H]; exact fw [0]
theorem vec_Unit.does {k : Nat} {l0 : List Int} {a1 : Int} {r : (List Int)} (H : vec_Unit.f k l0 a1 = some r) : Do E0 (.fn 32 [.r (l0.map (V.i .u64)) l0.length true, .i .i64 a1] [] (.s (some (0, 0)) r.length) [.row (r.map (V.i .u64)) 2 1 true true none]) := by
 obtain ih0 := @vec_Unit.does_l l0 a1 k; refine fnw ((vec_Unit.Q l0 a1 r)) func32 ntmps32 ?_; unfold vec_Unit.f at H; refine sr fun K hK => ?_; refine o_ ?_; refine nksr hK fun K hK => ?_; refine o_ ?_; refine nksr hK fun K hK => ?_; refine o_ ?_; refine g_min rfl rfl rfl rfl (m := mn _ _) rfl (gT ?_); refine g_max rfl rfl rfl rfl (m := mx _ _) rfl (gT ?_); refine o_ ?_; refine nk hK ?_
 refine w_seq ?_; refine sr fun K hK => ?_; refine o_ ?_; refine g_len_r rfl rfl Tryd.underlying64 rfl (gT ?_); refine o_ ?_; refine nk hK ?_; refine w_block ?_; refine w_less (.at 5 [] 2 1 rfl rfl) ?_; simp only [nrmx, nrm, List.set_cons_zero, List.set_cons_succ, Nat.reduceAdd]; refine ww [36] [1, 3, 7, 0, 0] ?_; exact gi (ih0 (mx (-20000) (mn a1 20000)) ([] : List Int) l0 (l0.length : Int) 0 r H)
theorem wide_Wide_Sub.does {a0_0 a0_1 a1_0 a1_1 : Int} {r : Int × Int × Bool} (H : wide_Wide_Sub.f a0_0 a0_1 a1_0 a1_1 = some r) : Do E0 (.fn 81 [.a [.i .u64 a0_0, .i .u64 a0_1], .a [.i .u64 a1_0, .i .u64 a1_1]] [] (.t [.a [.i .u64 r.1, .i .u64 r.2.1], .b r.2.2]) []) := by
 refine fnw ((wide_Wide_Sub.Q a0_0 a0_1 a1_0 a1_1 r)) func81 ntmps81 ?_; unfold wide_Wide_Sub.f at H; refine sr fun K hK => ?_; refine o_ ?_; refine nksr hK fun K hK => ?_; refine o_ ?_; obtain ⟨q1, hq1, H⟩ := bnd H; refine g_ex rfl rfl Tryd.func85 rfl (bits_Sub64.ext hq1) (gT ?_); refine o_ ?_; refine nksr hK fun K hK => ?_; refine o_ ?_; obtain ⟨q2, hq2, H⟩ := bnd H
 refine g_ex rfl rfl Tryd.func85 rfl (bits_Sub64.ext hq2) (gT ?_); refine o_ ?_; refine nksr hK fun K hK => ?_; refine o_ ?_; refine g_bd rfl rfl zr59 Tryd.underlying59 (pl := [(0, 1), (1, 1)]) (by kernel_rfl) ?_; refine gB ?_; refine o_ ?_; refine nkt hK ?_; rw [← Option.some.inj H]; exact fw []
theorem soft_Add.does_l {a0 a1 : Int} (k : Nat) : (∀ (a_0 b_1 x_9 y_10 : Int) (t_37 : Bool) (r : Int × Int), soft_Add.j0 k a_0 b_1 x_9 y_10 t_37 = some r → kont E0 (soft_Add.Q a0 a1 r) (frs (bodyOf Tryd.f73) [1, 1, 1, 0, 0, 0] []) .normal ⟨.i .u64 a_0 :: .i .u64 b_1 :: u_ 7 (.i .i64 x_9 :: .i .i64 y_10 :: u_ 26 (.b t_37 :: u_ 115 ([]))), ofL [], 0, 0⟩) ∧
    (∀ (a_0 b_1 x_9 y_10 : Int) (t_57 : Bool) (r : Int × Int), soft_Add.j1 k a_0 b_1 x_9 y_10 t_57 = some r → kont E0 (soft_Add.Q a0 a1 r) (frs (bodyOf Tryd.f73) [1, 1, 1, 0, 0, 1, 1, 1, 1, 1, 1, 0] []) .normal ⟨.i .u64 a_0 :: .i .u64 b_1 :: u_ 7 (.i .i64 x_9 :: .i .i64 y_10 :: u_ 46 (.b t_57 :: u_ 95 ([]))), ofL [], 0, 0⟩) ∧
    (∀ (a_0 b_1 : Int) (r : Int × Int), soft_Add.j2 k a_0 b_1 = some r → kont E0 (soft_Add.Q a0 a1 r) (frs (bodyOf Tryd.f73) [1, 1, 1, 1, 0, 1] []) .normal ⟨.i .u64 a_0 :: .i .u64 b_1 :: u_ 151 ([]), ofL [], 0, 0⟩) ∧
    (∀ (a_0 e_12 : Int) (low_17 : Bool) (h0_0 h0_1 h1_0 h1_1 : Int) (r : Int × Int), soft_Add.j3 k a_0 e_12 low_17 h0_0 h0_1 h1_0 h1_1 = some r → kont E0 (soft_Add.Q a0 a1 r) (frs (bodyOf Tryd.f73) [1, 1, 1, 1, 1, 1, 1, 1, 1, 1, 0, 1] []) .normal ⟨.i .u64 a_0 :: u_ 11 (.i .i64 e_12 :: .u :: .u :: .p (some (0, 0)) :: .p (some (1, 0)) :: .b low_17 :: u_ 135 ([])), ofL [.row [.i .u64 h0_0, .i .u64 h0_1] 0 0 true true none, .row [.i .u64 h1_0, .i .u64 h1_1] 0 0 true true none], 2, 0⟩) ∧
    (∀ (a_0 e_12 : Int) (low_17 t_143 : Bool) (h0_0 h0_1 : Int) (r : Int × Int), soft_Add.j4 k a_0 e_12 low_17 t_143 h0_0 h0_1 = some r → kont E0 (soft_Add.Q a0 a1 r) (frs (bodyOf Tryd.f73) [1, 1, 1, 1, 1, 1, 1, 1, 1, 1, 1, 1, 0, 0] []) .normal ⟨.i .u64 a_0 :: u_ 11 (.i .i64 e_12 :: u_ 4 (.b low_17 :: .u :: .u :: .p (some (0, 0)) :: u_ 122 (.b t_143 :: u_ 9 ([])))), ofL [.row [.i .u64 h0_0, .i .u64 h0_1] 0 0 true true none], 1, 0⟩) := by
 induction k with
 | zero => exact ⟨by intros; simp [soft_Add.j0] at *, by intros; simp [soft_Add.j1] at *, by intros; simp [soft_Add.j2] at *, by intros; simp [soft_Add.j3] at *, by intros; simp [soft_Add.j4] at *⟩
 | succ k ih =>
  obtain ⟨ih0, ih1, ih2, ih3, ih4⟩ := ih
  refine ⟨?_, ?_, ?_, ?_, ?_⟩
  ·intro a_0 b_1 x_9 y_10 t_37 r H; unfold soft_Add.j0 at H; refine fb ?_; refine k_seq ?_; rcases its H with ⟨c7, H⟩ | ⟨c7, H⟩
   ·refine dV c7 ?_; refine wT ?_; refine sr fun K hK => ?_; refine o_ ?_; refine nkt hK ?_; rw [← Option.some.inj H]; exact fw []
   ·refine dW c7 ?_; refine wF ?_; refine sr fun K hK => ?_; refine o_ ?_; refine nk hK ?_; rcases its H with ⟨c8, H⟩ | ⟨c8, H⟩
    ·refine dE c8 ?_; refine wT ?_; refine sr fun K hK => ?_; refine o_ ?_; refine nkt hK ?_; rw [← Option.some.inj H]; exact fw []
    ·refine dN c8 ?_; refine wF ?_; refine sr fun K hK => ?_; refine o_ ?_; refine nk hK ?_; rcases its H with ⟨c9, H⟩ | ⟨c9, H⟩
     ·refine dE c9 ?_; refine wT ?_; refine sr fun K hK => ?_; refine o_ ?_; refine nkt hK ?_; rw [← Option.some.inj H]; exact fw []
     ·refine dN c9 ?_; refine wF ?_; refine sr fun K hK => ?_; refine o_ ?_; rcases its H with ⟨c10, H⟩ | ⟨c10, H⟩
      ·refine dE c10 ?_; refine o_ ?_; refine nl hK ?_; refine kw [] [0, 0, 7, 0, 46] ?_; exact gi (ih1 a_0 b_1 x_9 y_10 (y_10 == 1) r H)
      ·refine dN c10 ?_; refine o_ ?_; refine nl hK ?_; refine kw [] [0, 0, 7, 0, 46] ?_; exact gi (ih1 a_0 b_1 x_9 y_10 false r H)
  ·intro a_0 b_1 x_9 y_10 t_57 r H; unfold soft_Add.j1 at H; refine fb ?_; refine k_seq ?_; rcases its H with ⟨c11, H⟩ | ⟨c11, H⟩
   ·refine dV c11 ?_; refine wT ?_; refine sr fun K hK => ?_; refine o_ ?_; refine nkt hK ?_; rw [← Option.some.inj H]; exact fw []
   ·refine dW c11 ?_; refine wF ?_; refine sr fun K hK => ?_; refine o_ ?_; refine nk hK ?_; rcases its H with ⟨c12, H⟩ | ⟨c12, H⟩
    ·refine dE c12 ?_; refine wT ?_; refine sr fun K hK => ?_; refine o_ ?_; refine nkt hK ?_; rw [← Option.some.inj H]; exact fw []
    ·refine dN c12 ?_; refine wF ?_; refine sr fun K hK => ?_; refine o_ ?_; refine nk hK ?_; rcases its H with ⟨c13, H⟩ | ⟨c13, H⟩
     ·refine dE c13 ?_; refine wT ?_; refine sr fun K hK => ?_; refine o_ ?_; refine nkt hK ?_; rw [← Option.some.inj H]; exact fw []
     ·refine dN c13 ?_; refine wF ?_; refine w_skip ?_; refine k_block ?_; refine k_seq ?_; refine w_seq ?_; refine sr fun K hK => ?_; refine o_ ?_; obtain ⟨q14, hq14, H⟩ := bnd H; refine cs [] func12 (word_Abs.does hq14) ?_; refine o_ ?_; obtain ⟨q15, hq15, H⟩ := bnd H; refine cs [] func12 (word_Abs.does hq15) ?_; refine o_ ?_; refine nk hK ?_; rcases its H with ⟨c16, H⟩ | ⟨c16, H⟩
      ·refine dT c16 ?_; refine wT ?_; refine wR fun K hK => ?_; refine o_ ?_; refine nl hK ?_; refine kw [] [0, 0] ?_; exact gi (ih2 b_1 a_0 r H)
      ·refine dF c16 ?_; refine wF ?_; refine w_skip ?_; refine kw [] [0, 0] ?_; exact gi (ih2 a_0 b_1 r H)
  ·intro a_0 b_1 r H; unfold soft_Add.j2 at H; refine fb ?_; refine ksr fun K hK => ?_; refine o_ ?_; obtain ⟨q17, hq17, H⟩ := bnd H; refine cs [] func56 (word_Parts.does hq17) ?_; refine o_ ?_; refine nksr hK fun K hK => ?_; refine o_ ?_; obtain ⟨q18, hq18, H⟩ := bnd H; refine cs [] func56 (word_Parts.does hq18) ?_; refine o_ ?_; refine nksr hK fun K hK => ?_; refine o_ ?_
   refine g_bd rfl rfl zr59 Tryd.underlying59 (pl := [(0, 1), (1, 1)]) (by kernel_rfl) ?_; refine gB ?_; obtain ⟨q19, hq19, H⟩ := bnd H; refine cs [] func28 (wide_Wide_Left.does hq19) ?_; refine o_ ?_; refine nksr hK fun K hK => ?_; refine o_ ?_; refine g_bd rfl rfl zr59 Tryd.underlying59 (pl := [(0, 1), (1, 1)]) (by kernel_rfl) ?_; refine gB ?_; obtain ⟨q20, hq20, H⟩ := bnd H
   refine cs [] func28 (wide_Wide_Left.does hq20) ?_; refine o_ ?_; obtain ⟨q21, hq21, H⟩ := bnd H; refine cs [] func53 (wide_Wide_Right.does hq21) ?_; refine o_ ?_; refine nk hK ?_; refine w_seq ?_; refine sr fun K hK => ?_; refine o_ ?_; obtain ⟨q22, hq22, H⟩ := bnd H; refine cs [] func37 (word_Neg.does hq22) ?_; refine o_ ?_; obtain ⟨q23, hq23, H⟩ := bnd H
   refine cs [] func37 (word_Neg.does hq23) ?_; refine g_eqb rfl rfl Tryd.underlying4 rfl rfl (gT ?_); refine nk hK ?_; rcases its H with ⟨c24, H⟩ | ⟨c24, H⟩
   ·refine dV c24 ?_; refine wT ?_; refine sr fun K hK => ?_; refine o_ ?_; obtain ⟨q25, hq25, H⟩ := bnd H; refine cs [] func27 (wide_Wide_Add.does hq25) ?_; refine o_ ?_; refine nk hK ?_; refine w_seq ?_; refine wD fun K hK => ?_; refine o_ ?_; obtain ⟨q26, hq26, H⟩ := bnd H; refine cs [] func37 (word_Neg.does hq26) ?_; refine o_ ?_; obtain ⟨q27, hq27, H⟩ := bnd H
    refine cs [] func29 (round_Round.does hq27) ?_; refine o_ ?_; refine g_nil (hK _ _ _ (by kernel_rfl) ?_); refine kt ?_; rw [← Option.some.inj H]; exact fw []
   ·refine dW c24 ?_; refine wF ?_; refine sk ?_; refine w_seq ?_; refine sr fun K hK => ?_; refine o_ ?_; refine nk hK ?_; rcases its H with ⟨c28, H⟩ | ⟨c28, H⟩
    ·refine dV c28 ?_; refine wT ?_; refine wR fun K hK => ?_; refine o_ ?_; refine g_bd rfl rfl zr59 Tryd.underlying59 (pl := [(0, 1), (1, 1)]) (by kernel_rfl) ?_; refine gB ?_; obtain ⟨q29, hq29, H⟩ := bnd H; refine cs [] func27 (wide_Wide_Add.does hq29) ?_; refine o_ ?_; refine nl hK ?_; refine kw [68, 116] [0, 11, 2, 0, 0] ?_; exact gi (ih3 a_0 q17.2 true q19.1 q19.2 q29.1 q29.2.1 r H)
    ·refine dW c28 ?_; refine wF ?_; refine w_skip ?_; refine kw [68, 116] [0, 11, 2, 0, 0] ?_; exact gi (ih3 a_0 q17.2 false q19.1 q19.2 q21.1 q21.2.1 r H)
  ·intro a_0 e_12 low_17 h0_0 h0_1 h1_0 h1_1 r H; unfold soft_Add.j3 at H; refine fb ?_; refine ksr fun K hK => ?_; refine o_ ?_; obtain ⟨q30, hq30, H⟩ := bnd H; refine cs [] func81 (wide_Wide_Sub.does hq30) ?_; refine o_ ?_; refine nk hK ?_; refine w_seq ?_; refine sr fun K hK => ?_; refine o_ ?_; obtain ⟨q31, hq31, H⟩ := bnd H; refine cs [] func50 (wide_Wide_Zero.does hq31) ?_; refine o_ ?_
   rcases its H with ⟨c32, H⟩ | ⟨c32, H⟩
   ·refine dV c32 ?_; refine o_ ?_; refine nl hK ?_; refine kw [26] [0, 11, 4, 2, 122] ?_; exact gi (ih4 a_0 e_12 low_17 (!low_17) q30.1 q30.2.1 r H)
   ·refine dW c32 ?_; refine o_ ?_; refine nl hK ?_; refine kw [26] [0, 11, 4, 2, 122] ?_; exact gi (ih4 a_0 e_12 low_17 false q30.1 q30.2.1 r H)
  ·intro a_0 e_12 low_17 t_143 h0_0 h0_1 r H; unfold soft_Add.j4 at H; refine fb ?_; refine k_seq ?_; rcases its H with ⟨c33, H⟩ | ⟨c33, H⟩
   ·refine dV c33 ?_; refine wT ?_; refine sr fun K hK => ?_; refine o_ ?_; refine nkt hK ?_; rw [← Option.some.inj H]; exact fw []
   ·refine dW c33 ?_; refine wF ?_; refine sk ?_; refine w_seq ?_; refine wD fun K hK => ?_; refine o_ ?_; obtain ⟨q34, hq34, H⟩ := bnd H; refine cs [] func37 (word_Neg.does hq34) ?_; refine o_ ?_; obtain ⟨q35, hq35, H⟩ := bnd H; refine cs [] func29 (round_Round.does hq35) ?_; refine o_ ?_; refine g_nil (hK _ _ _ (by kernel_rfl) ?_); refine kt ?_; rw [← Option.some.inj H]; exact fw []
theorem soft_Add.does {k : Nat} {a0 a1 : Int} {r : Int × Int} (H : soft_Add.f k a0 a1 = some r) : Do E0 (.fn 73 [.i .u64 a0, .i .u64 a1] [] (.t [.i .u64 r.1, .i .u8 r.2]) []) := by
 obtain ⟨ih0, ih1, ih2, ih3, ih4⟩ := @soft_Add.does_l a0 a1 k; refine fnw ((soft_Add.Q a0 a1 r)) func73 ntmps73 ?_; unfold soft_Add.f at H; refine sr fun K hK => ?_; refine o_ ?_; refine nk hK ?_; refine w_seq ?_; refine sr fun K hK => ?_; refine o_ ?_; refine g_bsl (k := .u64) (xs := [a0, a1]) rfl rfl Tryd.underlying64 sz23 zr23 de_ rfl rfl rfl (gU ?_); obtain ⟨q1, hq1, H⟩ := bnd H
 refine cs [] func80 (soft_nan.does hq1) ?_; refine o_ ?_; refine nksr hK fun K hK => ?_; refine o_ ?_; refine nk hK ?_; rcases its H with ⟨c2, H⟩ | ⟨c2, H⟩
 ·refine dV c2 ?_; refine wT ?_; refine sr fun K hK => ?_; refine o_ ?_; refine nkt hK ?_; rw [← Option.some.inj H]; exact fw []
 ·refine dW c2 ?_; refine wF ?_; refine sk ?_; refine sr fun K hK => ?_; refine o_ ?_; obtain ⟨q3, hq3, H⟩ := bnd H; refine cs [] func39 (word_Kind.does hq3) ?_; refine o_ ?_; obtain ⟨q4, hq4, H⟩ := bnd H; refine cs [] func39 (word_Kind.does hq4) ?_; refine o_ ?_; refine nk hK ?_; refine w_seq ?_; refine w_block ?_; refine sr fun K hK => ?_; refine o_ ?_; rcases its H with ⟨c5, H⟩ | ⟨c5, H⟩
  ·refine dE c5 ?_; refine o_ ?_; rcases its H with ⟨c6, H⟩ | ⟨c6, H⟩
   ·refine dE c6 ?_; refine o_ ?_; refine nl hK ?_; refine kw [] [0, 0, 7, 0, 26] ?_; exact gi (ih0 a0 a1 q3 q4 (a0 != a1) r H)
   ·refine dN c6 ?_; refine o_ ?_; refine nl hK ?_; refine kw [] [0, 0, 7, 0, 26] ?_; exact gi (ih0 a0 a1 q3 q4 false r H)
  ·refine dN c5 ?_; refine o_ ?_; refine nl hK ?_; refine kw [] [0, 0, 7, 0, 26] ?_; exact gi (ih0 a0 a1 q3 q4 false r H)
theorem soft_Sub.does {k : Nat} {a0 a1 : Int} {r : Int × Int} (H : soft_Sub.f k a0 a1 = some r) : Do E0 (.fn 72 [.i .u64 a0, .i .u64 a1] [] (.t [.i .u64 r.1, .i .u8 r.2]) []) := by
 refine fnw ((soft_Sub.Q a0 a1 r)) func72 ntmps72 ?_; unfold soft_Sub.f at H; refine sr fun K hK => ?_; refine o_ ?_; refine nksr hK fun K hK => ?_; refine o_ ?_; obtain ⟨q1, hq1, H⟩ := bnd H; refine cs [] func24 (word_Flip.does hq1) ?_; obtain ⟨q2, hq2, H⟩ := bnd H; refine cs [] func73 (soft_Add.does hq2) ?_; refine o_ ?_; refine nkt hK ?_; rw [← Option.some.inj H]; exact fw []
theorem soft_Calc_Sub.does {k : Nat} {s0_0 a1 a2 : Int} {r : Int × Int} (H : soft_Calc_Sub.f k s0_0 a1 a2 = some r) : Do E0 (.fn 57 [.p (some (0, 0)), .i .u64 a1, .i .u64 a2] [.row [.i .u8 s0_0] 0 0 true false none] (.i .u64 r.1) [.row [.i .u8 r.2] 0 0 true false none]) := by
 refine fnw ((soft_Calc_Sub.Q s0_0 a1 a2 r)) func57 ntmps57 ?_; unfold soft_Calc_Sub.f at H; refine sr fun K hK => ?_; refine o_ ?_; refine nksr hK fun K hK => ?_; refine o_ ?_; obtain ⟨q1, hq1, H⟩ := bnd H; refine cs [] func72 (soft_Sub.does hq1) ?_; refine o_ ?_; obtain ⟨q2, hq2, H⟩ := bnd H; refine cs [0] func64 (soft_Calc_note.does hq2) ?_; refine o_ ?_; refine nkt hK ?_
 rw [← Option.some.inj H]; exact fw [0]
theorem bits_LeadingZeros64.does {k : Nat} {a0 r : Int} (H : bits_LeadingZeros64.f k a0 = some r) : Do E0 (.fn 87 [.i .u64 a0] [] (.i .i64 r) []) := by
 refine fnw ((bits_LeadingZeros64.Q a0 r)) func87 ntmps87 ?_; unfold bits_LeadingZeros64.f at H; refine sr fun K hK => ?_; refine o_ ?_; refine nksr hK fun K hK => ?_; refine o_ ?_; obtain ⟨q1, hq1, H⟩ := bnd H; refine cs [] func69 (bits_Len64.does hq1) ?_; refine o_ ?_; refine nkt hK ?_; rw [← Option.some.inj H]; exact fw []
theorem bits_Div64.does_l {a0 a1 a2 : Int} (k : Nat) : (∀ (y_2 s_8 yn1_9 yn0_10 un32_11 un1_13 un0_14 q1_15 rhat_16 : Int) (r : Int × Int), bits_Div64.l0 k y_2 s_8 yn1_9 yn0_10 un32_11 un1_13 un0_14 q1_15 rhat_16 = some r → wk_ E0 (bits_Div64.Q a0 a1 a2 r) (frs (bodyOf Tryd.f86) [1, 1, 1, 1, 1, 1, 1, 1, 1, 1, 1, 1, 1, 1, 0, 0] []) (sub (bodyOf Tryd.f86) [1, 1, 1, 1, 1, 1, 1, 1, 1, 1, 1, 1, 1, 1, 0, 0]) ⟨.u :: .u :: .i .u64 y_2 :: u_ 5 (.i .u64 s_8 :: .i .u64 yn1_9 :: .i .u64 yn0_10 :: .i .u64 un32_11 :: .u :: .i .u64 un1_13 :: .i .u64 un0_14 :: .i .u64 q1_15 :: .i .u64 rhat_16 :: u_ 118 ([])), ofL [], 0, 0⟩) ∧
    (∀ (y_2 s_8 yn1_9 yn0_10 un32_11 un1_13 un0_14 q1_15 rhat_16 : Int) (t_78 : Bool) (r : Int × Int), bits_Div64.j1 k y_2 s_8 yn1_9 yn0_10 un32_11 un1_13 un0_14 q1_15 rhat_16 t_78 = some r → kont E0 (bits_Div64.Q a0 a1 a2 r) (frs (bodyOf Tryd.f86) [1, 1, 1, 1, 1, 1, 1, 1, 1, 1, 1, 1, 1, 1, 0, 0, 0, 0, 0] []) .normal ⟨.u :: .u :: .i .u64 y_2 :: u_ 5 (.i .u64 s_8 :: .i .u64 yn1_9 :: .i .u64 yn0_10 :: .i .u64 un32_11 :: .u :: .i .u64 un1_13 :: .i .u64 un0_14 :: .i .u64 q1_15 :: .i .u64 rhat_16 :: u_ 61 (.b t_78 :: u_ 56 ([]))), ofL [], 0, 0⟩) ∧
    (∀ (y_2 s_8 yn1_9 yn0_10 un32_11 un1_13 un0_14 q1_15 : Int) (r : Int × Int), bits_Div64.j2 k y_2 s_8 yn1_9 yn0_10 un32_11 un1_13 un0_14 q1_15 = some r → kont E0 (bits_Div64.Q a0 a1 a2 r) (frs (bodyOf Tryd.f86) [1, 1, 1, 1, 1, 1, 1, 1, 1, 1, 1, 1, 1, 1, 0] []) .normal ⟨.u :: .u :: .i .u64 y_2 :: u_ 5 (.i .u64 s_8 :: .i .u64 yn1_9 :: .i .u64 yn0_10 :: .i .u64 un32_11 :: .u :: .i .u64 un1_13 :: .i .u64 un0_14 :: .i .u64 q1_15 :: u_ 119 ([])), ofL [], 0, 0⟩) ∧
    (∀ (y_2 s_8 yn1_9 yn0_10 un0_14 q1_15 rhat_16 un21_17 q0_18 : Int) (r : Int × Int), bits_Div64.l1 k y_2 s_8 yn1_9 yn0_10 un0_14 q1_15 rhat_16 un21_17 q0_18 = some r → wk_ E0 (bits_Div64.Q a0 a1 a2 r) (frs (bodyOf Tryd.f86) [1, 1, 1, 1, 1, 1, 1, 1, 1, 1, 1, 1, 1, 1, 1, 1, 1, 1, 0, 0] []) (sub (bodyOf Tryd.f86) [1, 1, 1, 1, 1, 1, 1, 1, 1, 1, 1, 1, 1, 1, 1, 1, 1, 1, 0, 0]) ⟨.u :: .u :: .i .u64 y_2 :: u_ 5 (.i .u64 s_8 :: .i .u64 yn1_9 :: .i .u64 yn0_10 :: u_ 3 (.i .u64 un0_14 :: .i .u64 q1_15 :: .i .u64 rhat_16 :: .i .u64 un21_17 :: .i .u64 q0_18 :: u_ 116 ([]))), ofL [], 0, 0⟩) ∧
    (∀ (y_2 s_8 yn1_9 yn0_10 un0_14 q1_15 rhat_16 un21_17 q0_18 : Int) (t_113 : Bool) (r : Int × Int), bits_Div64.j4 k y_2 s_8 yn1_9 yn0_10 un0_14 q1_15 rhat_16 un21_17 q0_18 t_113 = some r → kont E0 (bits_Div64.Q a0 a1 a2 r) (frs (bodyOf Tryd.f86) [1, 1, 1, 1, 1, 1, 1, 1, 1, 1, 1, 1, 1, 1, 1, 1, 1, 1, 0, 0, 0, 0, 0] []) .normal ⟨.u :: .u :: .i .u64 y_2 :: u_ 5 (.i .u64 s_8 :: .i .u64 yn1_9 :: .i .u64 yn0_10 :: u_ 3 (.i .u64 un0_14 :: .i .u64 q1_15 :: .i .u64 rhat_16 :: .i .u64 un21_17 :: .i .u64 q0_18 :: u_ 94 (.b t_113 :: u_ 21 ([])))), ofL [], 0, 0⟩) := by
 induction k with
 | zero => exact ⟨by intros; simp [bits_Div64.l0] at *, by intros; simp [bits_Div64.j1] at *, by intros; simp [bits_Div64.j2] at *, by intros; simp [bits_Div64.l1] at *, by intros; simp [bits_Div64.j4] at *⟩
 | succ k ih =>
  obtain ⟨ih0, ih1, ih2, ih3, ih4⟩ := ih
  refine ⟨?_, ?_, ?_, ?_, ?_⟩
  ·intro y_2 s_8 yn1_9 yn0_10 un32_11 un1_13 un0_14 q1_15 rhat_16 r H; unfold bits_Div64.l0 at H; refine fb ?_; refine w_loop ?_; refine w_seq ?_; refine sr fun K hK => ?_; refine o_ ?_; rcases its H with ⟨c9, H⟩ | ⟨c9, H⟩
   ·refine dT c9 ?_; refine o_ ?_; refine nl hK ?_; refine kw [] [2, 5, 0, 0, 0, 1, 0, 0, 0, 61] ?_; exact gi (ih1 y_2 s_8 yn1_9 yn0_10 un32_11 un1_13 un0_14 q1_15 rhat_16 true r H)
   ·refine dF c9 ?_; refine o_ ?_; refine nl hK ?_; refine kw [] [2, 5, 0, 0, 0, 1, 0, 0, 0, 61] ?_; exact gi (ih1 y_2 s_8 yn1_9 yn0_10 un32_11 un1_13 un0_14 q1_15 rhat_16 (decide ((IntKind.u64.wrap (q1_15 * yn0_10)) > (IntKind.u64.wrap ((IntKind.u64.wrap (4294967296 * rhat_16)) + un1_13)))) r H)
  ·intro y_2 s_8 yn1_9 yn0_10 un32_11 un1_13 un0_14 q1_15 rhat_16 t_78 r H; unfold bits_Div64.j1 at H; refine fb ?_; refine k_seq ?_; rcases its H with ⟨c10, H⟩ | ⟨c10, H⟩
   ·refine dV c10 ?_; refine wT ?_; refine sk ?_; refine w_block ?_; refine sr fun K hK => ?_; refine o_ ?_; refine nksr hK fun K hK => ?_; refine o_ ?_; refine nksr hK fun K hK => ?_; refine o_ ?_; refine nk hK ?_; rcases its H with ⟨c11, H⟩ | ⟨c11, H⟩
    ·refine dT c11 ?_; refine wT ?_; refine w_exit rfl ?_; refine kw [] [2, 5, 0, 0, 0, 1, 0, 0] ?_; exact gi (ih2 y_2 s_8 yn1_9 yn0_10 un32_11 un1_13 un0_14 (IntKind.u64.wrap (q1_15 - 1)) r H)
    ·refine dF c11 ?_; refine wF ?_; refine w_skip ?_; refine k_block ?_; refine k_loop ?_; refine ww [] [2, 5, 0, 0, 0, 1, 0, 0, 0] ?_; exact gi (ih0 y_2 s_8 yn1_9 yn0_10 un32_11 un1_13 un0_14 (IntKind.u64.wrap (q1_15 - 1)) (IntKind.u64.wrap (rhat_16 + yn1_9)) r H)
   ·refine dW c10 ?_; refine wF ?_; refine w_exit rfl ?_; refine kw [] [2, 5, 0, 0, 0, 1, 0, 0] ?_; exact gi (ih2 y_2 s_8 yn1_9 yn0_10 un32_11 un1_13 un0_14 q1_15 r H)
  ·intro y_2 s_8 yn1_9 yn0_10 un32_11 un1_13 un0_14 q1_15 r H; unfold bits_Div64.j2 at H; refine fb ?_; refine ksr fun K hK => ?_; refine o_ ?_; refine nksr hK fun K hK => ?_; refine o_ ?_; obtain ⟨c12, H⟩ := it0 H; refine g_quo rfl rfl rfl rfl ao_ (gT ?_); refine o_ ?_; refine nksr hK fun K hK => ?_; refine o_ ?_; refine nk hK ?_; refine w_seq ?_; refine w_block ?_
   refine ww [] [2, 5, 0, 0, 3, 0, 0, 0, 0] ?_
   exact gi (ih3 y_2 s_8 yn1_9 yn0_10 un0_14 q1_15 (IntKind.u64.wrap ((IntKind.u64.wrap ((IntKind.u64.wrap ((IntKind.u64.wrap (un32_11 * 4294967296)) + un1_13)) - (IntKind.u64.wrap (q1_15 * y_2)))) - (IntKind.u64.wrap ((IntKind.u64.wrap (Int.tdiv (IntKind.u64.wrap ((IntKind.u64.wrap ((IntKind.u64.wrap (un32_11 * 4294967296)) + un1_13)) - (IntKind.u64.wrap (q1_15 * y_2)))) yn1_9)) * yn1_9)))) (IntKind.u64.wrap ((IntKind.u64.wrap ((IntKind.u64.wrap (un32_11 * 4294967296)) + un1_13)) - (IntKind.u64.wrap (q1_15 * y_2)))) (IntKind.u64.wrap (Int.tdiv (IntKind.u64.wrap ((IntKind.u64.wrap ((IntKind.u64.wrap (un32_11 * 4294967296)) + un1_13)) - (IntKind.u64.wrap (q1_15 * y_2)))) yn1_9)) r H)
  ·intro y_2 s_8 yn1_9 yn0_10 un0_14 q1_15 rhat_16 un21_17 q0_18 r H; unfold bits_Div64.l1 at H; refine fb ?_; refine w_loop ?_; refine w_seq ?_; refine sr fun K hK => ?_; refine o_ ?_; rcases its H with ⟨c13, H⟩ | ⟨c13, H⟩
   ·refine dT c13 ?_; refine o_ ?_; refine nl hK ?_; refine kw [] [2, 5, 0, 0, 3, 0, 0, 0, 0, 94] ?_; exact gi (ih4 y_2 s_8 yn1_9 yn0_10 un0_14 q1_15 rhat_16 un21_17 q0_18 true r H)
   ·refine dF c13 ?_; refine o_ ?_; refine nl hK ?_; refine kw [] [2, 5, 0, 0, 3, 0, 0, 0, 0, 94] ?_; exact gi (ih4 y_2 s_8 yn1_9 yn0_10 un0_14 q1_15 rhat_16 un21_17 q0_18 (decide ((IntKind.u64.wrap (q0_18 * yn0_10)) > (IntKind.u64.wrap ((IntKind.u64.wrap (4294967296 * rhat_16)) + un0_14)))) r H)
  ·intro y_2 s_8 yn1_9 yn0_10 un0_14 q1_15 rhat_16 un21_17 q0_18 t_113 r H; unfold bits_Div64.j4 at H; refine fb ?_; refine k_seq ?_; rcases its H with ⟨c14, H⟩ | ⟨c14, H⟩
   ·refine dV c14 ?_; refine wT ?_; refine sk ?_; refine w_block ?_; refine sr fun K hK => ?_; refine o_ ?_; refine nksr hK fun K hK => ?_; refine o_ ?_; refine nksr hK fun K hK => ?_; refine o_ ?_; refine nk hK ?_; rcases its H with ⟨c15, H⟩ | ⟨c15, H⟩
    ·refine dT c15 ?_; refine wT ?_; refine w_exit rfl ?_; refine ksr fun K hK => ?_; refine o_ ?_; obtain ⟨c16, H⟩ := it1 H; refine g_shr rfl rfl rfl rfl (by omega) (gT ?_); refine o_ ?_; refine nkt hK ?_; rw [← Option.some.inj H]; exact fw []
    ·refine dF c15 ?_; refine wF ?_; refine w_skip ?_; refine k_block ?_; refine k_loop ?_; refine ww [] [2, 5, 0, 0, 3, 0, 0, 0, 0] ?_; exact gi (ih3 y_2 s_8 yn1_9 yn0_10 un0_14 q1_15 (IntKind.u64.wrap (rhat_16 + yn1_9)) un21_17 (IntKind.u64.wrap (q0_18 - 1)) r H)
   ·refine dW c14 ?_; refine wF ?_; refine w_exit rfl ?_; refine ksr fun K hK => ?_; refine o_ ?_; obtain ⟨c17, H⟩ := it1 H; refine g_shr rfl rfl rfl rfl (by omega) (gT ?_); refine o_ ?_; refine nkt hK ?_; rw [← Option.some.inj H]; exact fw []
theorem bits_Div64.does {k : Nat} {a0 a1 a2 : Int} {r : Int × Int} (H : bits_Div64.f k a0 a1 a2 = some r) : Do E0 (.fn 86 [.i .u64 a0, .i .u64 a1, .i .u64 a2] [] (.t [.i .u64 r.1, .i .u64 r.2]) []) := by
 obtain ⟨ih0, ih1, ih2, ih3, ih4⟩ := @bits_Div64.does_l a0 a1 a2 k; refine fnw ((bits_Div64.Q a0 a1 a2 r)) func86 ntmps86 ?_; unfold bits_Div64.f at H; refine sr fun K hK => ?_; refine o_ ?_; refine nk hK ?_; refine w_seq ?_; refine sr fun K hK => ?_; refine o_ ?_; refine nk hK ?_; rcases its H with ⟨c1, H⟩ | ⟨c1, H⟩
 ·refine dE c1 ?_; refine wT ?_; refine wR fun K hK => ?_; cases H
 ·refine dN c1 ?_; refine wF ?_; refine sk ?_; refine w_seq ?_; refine sr fun K hK => ?_; refine o_ ?_; refine nk hK ?_; rcases its H with ⟨c2, H⟩ | ⟨c2, H⟩
  ·refine dT c2 ?_; refine wT ?_; refine wR fun K hK => ?_; cases H
  ·refine dF c2 ?_; refine wF ?_; refine sk ?_; refine w_seq ?_; refine sr fun K hK => ?_; refine o_ ?_; refine nk hK ?_; rcases its H with ⟨c3, H⟩ | ⟨c3, H⟩
   ·refine dE c3 ?_; refine wT ?_; refine w_seq ?_; refine wD fun K hK => ?_; refine o_ ?_; obtain ⟨c4, H⟩ := it0 H; refine g_quo rfl rfl rfl rfl ao_ (gT ?_); refine o_ ?_; refine g_rem rfl rfl rfl rfl ao_ (gT ?_); refine o_ ?_; refine g_nil (hK _ _ _ (by kernel_rfl) ?_); refine kt ?_; rw [← Option.some.inj H]; exact fw []
   ·refine dN c3 ?_; refine wF ?_; refine sk ?_; refine sr fun K hK => ?_; refine o_ ?_; obtain ⟨q5, hq5, H⟩ := bnd H; refine cs [] func87 (bits_LeadingZeros64.does hq5) ?_; refine g_conv rfl rfl Tryd.underlying3 Tryd.underlying57 rfl (gT ?_); refine o_ ?_; refine nksr hK fun K hK => ?_; refine o_ ?_; obtain ⟨c6, H⟩ := it1 H; refine g_shl rfl rfl rfl rfl (by omega) (gT ?_); refine o_ ?_
    refine nksr hK fun K hK => ?_; refine o_ ?_; refine g_shrc (p := 4294967296) rfl rfl rfl rfl de_ (by rfl) (gT ?_); refine o_ ?_; refine nksr hK fun K hK => ?_; refine o_ ?_; refine nksr hK fun K hK => ?_; refine o_ ?_; refine g_shl rfl rfl rfl rfl (by omega) (gT ?_); refine o_ ?_; obtain ⟨c7, H⟩ := it1 H; refine g_shr rfl rfl rfl rfl (by omega) (gT ?_); refine o_ ?_; refine nksr hK fun K hK => ?_
    refine o_ ?_; refine g_shl rfl rfl rfl rfl (by omega) (gT ?_); refine o_ ?_; refine nksr hK fun K hK => ?_; refine o_ ?_; refine g_shrc (p := 4294967296) rfl rfl rfl rfl de_ (by rfl) (gT ?_); refine o_ ?_; refine nksr hK fun K hK => ?_; refine o_ ?_; refine nksr hK fun K hK => ?_; refine o_ ?_; obtain ⟨c8, H⟩ := it0 H; refine g_quo rfl rfl rfl rfl ao_ (gT ?_); refine o_ ?_
    refine nksr hK fun K hK => ?_; refine o_ ?_; refine nk hK ?_; refine w_seq ?_; refine w_block ?_; refine ww [] [2, 5, 0, 0, 0, 1, 0, 0, 0] ?_
    exact gi (ih0 (shl .u64 a2 (IntKind.u64.wrap (q5))) (IntKind.u64.wrap (q5)) ((shl .u64 a2 (IntKind.u64.wrap (q5))) / 4294967296) (Go.bits .and .u64 (shl .u64 a2 (IntKind.u64.wrap (q5))) 4294967295) (Go.bits .or .u64 (shl .u64 a0 (IntKind.u64.wrap (q5))) (shr .u64 a1 (IntKind.u64.wrap (64 - (IntKind.u64.wrap (q5)))))) ((shl .u64 a1 (IntKind.u64.wrap (q5))) / 4294967296) (Go.bits .and .u64 (shl .u64 a1 (IntKind.u64.wrap (q5))) 4294967295) (IntKind.u64.wrap (Int.tdiv (Go.bits .or .u64 (shl .u64 a0 (IntKind.u64.wrap (q5))) (shr .u64 a1 (IntKind.u64.wrap (64 - (IntKind.u64.wrap (q5)))))) ((shl .u64 a2 (IntKind.u64.wrap (q5))) / 4294967296))) (IntKind.u64.wrap ((Go.bits .or .u64 (shl .u64 a0 (IntKind.u64.wrap (q5))) (shr .u64 a1 (IntKind.u64.wrap (64 - (IntKind.u64.wrap (q5)))))) - (IntKind.u64.wrap ((IntKind.u64.wrap (Int.tdiv (Go.bits .or .u64 (shl .u64 a0 (IntKind.u64.wrap (q5))) (shr .u64 a1 (IntKind.u64.wrap (64 - (IntKind.u64.wrap (q5)))))) ((shl .u64 a2 (IntKind.u64.wrap (q5))) / 4294967296))) * ((shl .u64 a2 (IntKind.u64.wrap (q5))) / 4294967296))))) r H)
theorem wide_Wide_Div.does {k : Nat} {a0_0 a0_1 a1 : Int} {r : Int × Int × Bool} (H : wide_Wide_Div.f k a0_0 a0_1 a1 = some r) : Do E0 (.fn 82 [.a [.i .u64 a0_0, .i .u64 a0_1], .i .u64 a1] [] (.t [.i .u64 r.1, .i .u64 r.2.1, .b r.2.2]) []) := by
 refine fnw ((wide_Wide_Div.Q a0_0 a0_1 a1 r)) func82 ntmps82 ?_; unfold wide_Wide_Div.f at H; refine sr fun K hK => ?_; refine o_ ?_; refine nk hK ?_; refine w_seq ?_; refine sr fun K hK => ?_; refine o_ ?_; refine nk hK ?_; rcases its H with ⟨c1, H⟩ | ⟨c1, H⟩
 ·refine dT c1 ?_; refine wT ?_; refine sr fun K hK => ?_; refine o_ ?_; refine nkt hK ?_; rw [← Option.some.inj H]; exact fw []
 ·refine dF c1 ?_; refine wF ?_; refine sk ?_; refine sr fun K hK => ?_; refine o_ ?_; obtain ⟨q2, hq2, H⟩ := bnd H; refine cs [] func86 (bits_Div64.does hq2) ?_; refine o_ ?_; refine nksr hK fun K hK => ?_; refine o_ ?_; refine nkt hK ?_; rw [← Option.some.inj H]; exact fw []
theorem soft_Div.does_l {a0 a1 : Int} (k : Nat) : (∀ (a_0 b_1 : Int) (neg_9 : Bool) (x_10 y_11 : Int) (t_42 : Bool) (r : Int × Int), soft_Div.j0 k a_0 b_1 neg_9 x_10 y_11 t_42 = some r → kont E0 (soft_Div.Q a0 a1 r) (frs (bodyOf Tryd.f74) [1, 1, 1, 1, 0, 0, 0] []) .normal ⟨.i .u64 a_0 :: .i .u64 b_1 :: u_ 7 (.b neg_9 :: .i .i64 x_10 :: .i .i64 y_11 :: u_ 30 (.b t_42 :: u_ 82 ([]))), ofL [], 0, 0⟩) ∧
    (∀ (a_0 b_1 : Int) (neg_9 : Bool) (y_11 : Int) (t_62 : Bool) (r : Int × Int), soft_Div.j1 k a_0 b_1 neg_9 y_11 t_62 = some r → kont E0 (soft_Div.Q a0 a1 r) (frs (bodyOf Tryd.f74) [1, 1, 1, 1, 0, 0, 1, 1, 1, 1, 0] []) .normal ⟨.i .u64 a_0 :: .i .u64 b_1 :: u_ 7 (.b neg_9 :: .u :: .i .i64 y_11 :: u_ 50 (.b t_62 :: u_ 62 ([]))), ofL [], 0, 0⟩) := by
 induction k with
 | zero => exact ⟨by intros; simp [soft_Div.j0] at *, by intros; simp [soft_Div.j1] at *⟩
 | succ k ih =>
  obtain ⟨ih0, ih1⟩ := ih
  refine ⟨?_, ?_⟩
  ·intro a_0 b_1 neg_9 x_10 y_11 t_42 r H; unfold soft_Div.j0 at H; refine fb ?_; refine k_seq ?_; rcases its H with ⟨c11, H⟩ | ⟨c11, H⟩
   ·refine dV c11 ?_; refine wT ?_; refine sr fun K hK => ?_; refine o_ ?_; refine nkt hK ?_; rw [← Option.some.inj H]; exact fw []
   ·refine dW c11 ?_; refine wF ?_; refine sr fun K hK => ?_; refine o_ ?_; refine nk hK ?_; rcases its H with ⟨c12, H⟩ | ⟨c12, H⟩
    ·refine dE c12 ?_; refine wT ?_; refine sr fun K hK => ?_; refine o_ ?_; obtain ⟨q13, hq13, H⟩ := bnd H; refine cs [] func51 (word_Make.does hq13) ?_; refine o_ ?_; refine nkt hK ?_; rw [← Option.some.inj H]; exact fw []
    ·refine dN c12 ?_; refine wF ?_; refine sr fun K hK => ?_; refine o_ ?_; rcases its H with ⟨c14, H⟩ | ⟨c14, H⟩
     ·refine dE c14 ?_; refine o_ ?_; refine nl hK ?_; refine kw [] [0, 0, 7, 1, 50] ?_; exact gi (ih1 a_0 b_1 neg_9 y_11 true r H)
     ·refine dN c14 ?_; refine o_ ?_; refine nl hK ?_; refine kw [] [0, 0, 7, 1, 50] ?_; exact gi (ih1 a_0 b_1 neg_9 y_11 (x_10 == 1) r H)
  ·intro a_0 b_1 neg_9 y_11 t_62 r H; unfold soft_Div.j1 at H; refine fb ?_; refine k_seq ?_; rcases its H with ⟨c15, H⟩ | ⟨c15, H⟩
   ·refine dV c15 ?_; refine wT ?_; refine sr fun K hK => ?_; refine o_ ?_; obtain ⟨q16, hq16, H⟩ := bnd H; refine cs [] func51 (word_Make.does hq16) ?_; refine o_ ?_; refine nkt hK ?_; rw [← Option.some.inj H]; exact fw []
   ·refine dW c15 ?_; refine wF ?_; refine sr fun K hK => ?_; refine o_ ?_; refine nk hK ?_; rcases its H with ⟨c17, H⟩ | ⟨c17, H⟩
    ·refine dE c17 ?_; refine wT ?_; refine sr fun K hK => ?_; refine o_ ?_; obtain ⟨q18, hq18, H⟩ := bnd H; refine cs [] func51 (word_Make.does hq18) ?_; refine o_ ?_; refine nkt hK ?_; rw [← Option.some.inj H]; exact fw []
    ·refine dN c17 ?_; refine wF ?_; refine w_skip ?_; refine k_block ?_; refine ksr fun K hK => ?_; refine o_ ?_; obtain ⟨q19, hq19, H⟩ := bnd H; refine cs [] func56 (word_Parts.does hq19) ?_; refine o_ ?_; refine nksr hK fun K hK => ?_; refine o_ ?_; obtain ⟨q20, hq20, H⟩ := bnd H; refine cs [] func56 (word_Parts.does hq20) ?_; refine o_ ?_; refine nksr hK fun K hK => ?_; refine o_ ?_
     refine g_bd rfl rfl zr59 Tryd.underlying59 (pl := [(0, 1), (1, 1)]) (by kernel_rfl) ?_; refine gB ?_; obtain ⟨q21, hq21, H⟩ := bnd H; refine cs [] func52 (wide_Wide_Len.does hq21) ?_; refine o_ ?_; refine g_bd rfl rfl zr59 Tryd.underlying59 (pl := [(0, 1), (1, 1)]) (by kernel_rfl) ?_; refine gB ?_; obtain ⟨q22, hq22, H⟩ := bnd H; refine cs [] func52 (wide_Wide_Len.does hq22) ?_; refine o_ ?_
     refine nksr hK fun K hK => ?_; refine o_ ?_; obtain ⟨c23, H⟩ := it1 H; refine g_shl rfl rfl rfl rfl (by omega) (gT ?_); refine g_bd rfl rfl zr59 Tryd.underlying59 (pl := [(0, 1), (1, 1)]) (by kernel_rfl) ?_; refine gB ?_; refine o_ ?_; refine nk hK ?_; refine w_seq ?_; refine wD fun K hK => ?_; refine o_ ?_; obtain ⟨c24, H⟩ := it1 H; refine g_shl rfl rfl rfl rfl (by omega) (gT ?_)
     obtain ⟨q25, hq25, H⟩ := bnd H; refine cs [] func82 (wide_Wide_Div.does hq25) ?_; refine o_ ?_; refine g_nil (hK _ _ _ (by kernel_rfl) ?_); refine ksr fun K hK => ?_; refine o_ ?_; refine g_bd rfl rfl zr59 Tryd.underlying59 (pl := [(0, 1), (1, 1)]) (by kernel_rfl) ?_; refine gB ?_; refine o_ ?_; obtain ⟨q26, hq26, H⟩ := bnd H; refine cs [] func29 (round_Round.does hq26) ?_; refine o_ ?_
     refine nkt hK ?_; rw [← Option.some.inj H]; exact fw []
theorem soft_Div.does {k : Nat} {a0 a1 : Int} {r : Int × Int} (H : soft_Div.f k a0 a1 = some r) : Do E0 (.fn 74 [.i .u64 a0, .i .u64 a1] [] (.t [.i .u64 r.1, .i .u8 r.2]) []) := by
 obtain ⟨ih0, ih1⟩ := @soft_Div.does_l a0 a1 k; refine fnw ((soft_Div.Q a0 a1 r)) func74 ntmps74 ?_; unfold soft_Div.f at H; refine sr fun K hK => ?_; refine o_ ?_; refine nk hK ?_; refine w_seq ?_; refine sr fun K hK => ?_; refine o_ ?_; refine g_bsl (k := .u64) (xs := [a0, a1]) rfl rfl Tryd.underlying64 sz23 zr23 de_ rfl rfl rfl (gU ?_); obtain ⟨q1, hq1, H⟩ := bnd H
 refine cs [] func80 (soft_nan.does hq1) ?_; refine o_ ?_; refine nksr hK fun K hK => ?_; refine o_ ?_; refine nk hK ?_; rcases its H with ⟨c2, H⟩ | ⟨c2, H⟩
 ·refine dV c2 ?_; refine wT ?_; refine sr fun K hK => ?_; refine o_ ?_; refine nkt hK ?_; rw [← Option.some.inj H]; exact fw []
 ·refine dW c2 ?_; refine wF ?_; refine sk ?_; refine sr fun K hK => ?_; refine o_ ?_; obtain ⟨q3, hq3, H⟩ := bnd H; refine cs [] func37 (word_Neg.does hq3) ?_; refine o_ ?_; obtain ⟨q4, hq4, H⟩ := bnd H; refine cs [] func37 (word_Neg.does hq4) ?_; refine g_neb rfl rfl Tryd.underlying4 rfl rfl (gT ?_); refine o_ ?_; refine nksr hK fun K hK => ?_; refine o_ ?_; obtain ⟨q5, hq5, H⟩ := bnd H
  refine cs [] func39 (word_Kind.does hq5) ?_; refine o_ ?_; obtain ⟨q6, hq6, H⟩ := bnd H; refine cs [] func39 (word_Kind.does hq6) ?_; refine o_ ?_; refine nk hK ?_; refine w_seq ?_; refine w_block ?_; refine sr fun K hK => ?_; refine o_ ?_; rcases its H with ⟨c7, H⟩ | ⟨c7, H⟩
  ·refine dE c7 ?_; refine o_ ?_; rcases its H with ⟨c8, H⟩ | ⟨c8, H⟩
   ·refine dE c8 ?_; refine o_ ?_; refine nl hK ?_; refine kw [] [0, 0, 7, 0, 0, 30] ?_; exact gi (ih0 a0 a1 (q3 != q4) q5 q6 true r H)
   ·refine dN c8 ?_; refine o_ ?_; rcases its H with ⟨c9, H⟩ | ⟨c9, H⟩
    ·refine dE c9 ?_; refine o_ ?_; refine nl hK ?_; refine kw [] [0, 0, 7, 0, 0, 30] ?_; exact gi (ih0 a0 a1 (q3 != q4) q5 q6 (q6 == 1) r H)
    ·refine dN c9 ?_; refine o_ ?_; refine nl hK ?_; refine kw [] [0, 0, 7, 0, 0, 30] ?_; exact gi (ih0 a0 a1 (q3 != q4) q5 q6 false r H)
  ·refine dN c7 ?_; refine o_ ?_; rcases its H with ⟨c10, H⟩ | ⟨c10, H⟩
   ·refine dE c10 ?_; refine o_ ?_; refine nl hK ?_; refine kw [] [0, 0, 7, 0, 0, 30] ?_; exact gi (ih0 a0 a1 (q3 != q4) q5 q6 (q6 == 1) r H)
   ·refine dN c10 ?_; refine o_ ?_; refine nl hK ?_; refine kw [] [0, 0, 7, 0, 0, 30] ?_; exact gi (ih0 a0 a1 (q3 != q4) q5 q6 false r H)
theorem soft_Calc_Div.does {k : Nat} {s0_0 a1 a2 : Int} {r : Int × Int} (H : soft_Calc_Div.f k s0_0 a1 a2 = some r) : Do E0 (.fn 59 [.p (some (0, 0)), .i .u64 a1, .i .u64 a2] [.row [.i .u8 s0_0] 0 0 true false none] (.i .u64 r.1) [.row [.i .u8 r.2] 0 0 true false none]) := by
 refine fnw ((soft_Calc_Div.Q s0_0 a1 a2 r)) func59 ntmps59 ?_; unfold soft_Calc_Div.f at H; refine sr fun K hK => ?_; refine o_ ?_; refine nksr hK fun K hK => ?_; refine o_ ?_; obtain ⟨q1, hq1, H⟩ := bnd H; refine cs [] func74 (soft_Div.does hq1) ?_; refine o_ ?_; obtain ⟨q2, hq2, H⟩ := bnd H; refine cs [0] func64 (soft_Calc_note.does hq2) ?_; refine o_ ?_; refine nkt hK ?_
 rw [← Option.some.inj H]; exact fw [0]
theorem soft_Calc_Add.does {k : Nat} {s0_0 a1 a2 : Int} {r : Int × Int} (H : soft_Calc_Add.f k s0_0 a1 a2 = some r) : Do E0 (.fn 58 [.p (some (0, 0)), .i .u64 a1, .i .u64 a2] [.row [.i .u8 s0_0] 0 0 true false none] (.i .u64 r.1) [.row [.i .u8 r.2] 0 0 true false none]) := by
 refine fnw ((soft_Calc_Add.Q s0_0 a1 a2 r)) func58 ntmps58 ?_; unfold soft_Calc_Add.f at H; refine sr fun K hK => ?_; refine o_ ?_; refine nksr hK fun K hK => ?_; refine o_ ?_; obtain ⟨q1, hq1, H⟩ := bnd H; refine cs [] func73 (soft_Add.does hq1) ?_; refine o_ ?_; obtain ⟨q2, hq2, H⟩ := bnd H; refine cs [0] func64 (soft_Calc_note.does hq2) ?_; refine o_ ?_; refine nkt hK ?_
 rw [← Option.some.inj H]; exact fw [0]
theorem order_rank.does {a0 r : Int} (H : order_rank.f a0 = some r) : Do E0 (.fn 83 [.i .u64 a0] [] (.i .i64 r) []) := by
 refine fnw ((order_rank.Q a0 r)) func83 ntmps83 ?_; unfold order_rank.f at H; refine sr fun K hK => ?_; refine o_ ?_; refine nk hK ?_; refine w_seq ?_; refine sr fun K hK => ?_; refine o_ ?_; obtain ⟨q1, hq1, H⟩ := bnd H; refine cs [] func37 (word_Neg.does hq1) ?_; refine nk hK ?_; rcases its H with ⟨c2, H⟩ | ⟨c2, H⟩
 ·refine dV c2 ?_; refine wT ?_; refine sr fun K hK => ?_; refine o_ ?_; obtain ⟨q3, hq3, H⟩ := bnd H; refine cs [] func12 (word_Abs.does hq3) ?_; refine g_conv rfl rfl Tryd.underlying23 Tryd.underlying2 rfl (gT ?_); refine o_ ?_; refine nkt hK ?_; rw [← Option.some.inj H]; exact fw []
 ·refine dW c2 ?_; refine wF ?_; refine sk ?_; refine sr fun K hK => ?_; refine o_ ?_; refine g_conv rfl rfl Tryd.underlying23 Tryd.underlying2 rfl (gT ?_); refine o_ ?_; refine nkt hK ?_; rw [← Option.some.inj H]; exact fw []
theorem order_Cmp.does_l {a0 a1 : Int} (k : Nat) : (∀ (a_0 b_1 : Int) (t_15 : Bool) (r : Int × Bool), order_Cmp.j0 k a_0 b_1 t_15 = some r → kont E0 (order_Cmp.Q a0 a1 r) (frs (bodyOf Tryd.f75) [1, 0, 0] []) .normal ⟨.i .u64 a_0 :: .i .u64 b_1 :: u_ 13 (.b t_15 :: u_ 12 ([])), ofL [], 0, 0⟩) := by
 induction k with
 | zero => exact by intros; simp [order_Cmp.j0] at *
 | succ k ih =>
  have ih0 := ih
  refine ?_
  ·intro a_0 b_1 t_15 r H; unfold order_Cmp.j0 at H; refine fb ?_; refine k_seq ?_; rcases its H with ⟨c4, H⟩ | ⟨c4, H⟩
   ·refine dV c4 ?_; refine wT ?_; refine sr fun K hK => ?_; refine o_ ?_; refine nkt hK ?_; rw [← Option.some.inj H]; exact fw []
   ·refine dW c4 ?_; refine wF ?_; refine sk ?_; refine w_seq ?_; refine sr fun K hK => ?_; refine o_ ?_; obtain ⟨q5, hq5, H⟩ := bnd H; refine cs [] func83 (order_rank.does hq5) ?_; refine o_ ?_; obtain ⟨q6, hq6, H⟩ := bnd H; refine cs [] func83 (order_rank.does hq6) ?_; refine o_ ?_; refine nk hK ?_; refine w_block ?_; refine sr fun K hK => ?_; refine o_ ?_; refine nk hK ?_
    rcases its H with ⟨c7, H⟩ | ⟨c7, H⟩
    ·refine dT c7 ?_; refine wT ?_; refine sr fun K hK => ?_; refine o_ ?_; refine nkt hK ?_; rw [← Option.some.inj H]; exact fw []
    ·refine dF c7 ?_; refine wF ?_; refine sr fun K hK => ?_; refine o_ ?_; refine nk hK ?_; rcases its H with ⟨c8, H⟩ | ⟨c8, H⟩
     ·refine dT c8 ?_; refine wT ?_; refine sr fun K hK => ?_; refine o_ ?_; refine nkt hK ?_; rw [← Option.some.inj H]; exact fw []
     ·refine dF c8 ?_; refine wF ?_; refine w_skip ?_; refine k_block ?_; refine ksr fun K hK => ?_; refine o_ ?_; refine nkt hK ?_; rw [← Option.some.inj H]; exact fw []
theorem order_Cmp.does {k : Nat} {a0 a1 : Int} {r : Int × Bool} (H : order_Cmp.f k a0 a1 = some r) : Do E0 (.fn 75 [.i .u64 a0, .i .u64 a1] [] (.t [.i .i64 r.1, .b r.2]) []) := by
 obtain ih0 := @order_Cmp.does_l a0 a1 k; refine fnw ((order_Cmp.Q a0 a1 r)) func75 ntmps75 ?_; unfold order_Cmp.f at H; refine sr fun K hK => ?_; refine o_ ?_; refine nk hK ?_; refine w_seq ?_; refine sr fun K hK => ?_; refine o_ ?_; obtain ⟨q1, hq1, H⟩ := bnd H; refine cs [] func39 (word_Kind.does hq1) ?_; refine o_ ?_; rcases its H with ⟨c2, H⟩ | ⟨c2, H⟩
 ·refine dE c2 ?_; refine o_ ?_; refine nl hK ?_; refine kw [] [0, 0, 13] ?_; exact gi (ih0 a0 a1 true r H)
 ·refine dN c2 ?_; refine o_ ?_; obtain ⟨q3, hq3, H⟩ := bnd H; refine cs [] func39 (word_Kind.does hq3) ?_; refine o_ ?_; refine nl hK ?_; refine kw [] [0, 0, 13] ?_; exact gi (ih0 a0 a1 (q3 == 5) r H)
theorem order_Less.does {k : Nat} {a0 a1 : Int} {r : Bool} (H : order_Less.f k a0 a1 = some r) : Do E0 (.fn 60 [.i .u64 a0, .i .u64 a1] [] (.b r) []) := by
 refine fnw ((order_Less.Q a0 a1 r)) func60 ntmps60 ?_; unfold order_Less.f at H; refine sr fun K hK => ?_; refine o_ ?_; refine nksr hK fun K hK => ?_; refine o_ ?_; obtain ⟨q1, hq1, H⟩ := bnd H; refine cs [] func75 (order_Cmp.does hq1) ?_; refine o_ ?_; refine nksr hK fun K hK => ?_; refine o_ ?_; rcases its H with ⟨c2, H⟩ | ⟨c2, H⟩
 ·refine dV c2 ?_; refine o_ ?_; refine nkt hK ?_; rw [← Option.some.inj H]; exact fw []
 ·refine dW c2 ?_; refine o_ ?_; refine nkt hK ?_; rw [← Option.some.inj H]; exact fw []
theorem word_Sign.does {a0 a1 r : Int} (H : word_Sign.f a0 a1 = some r) : Do E0 (.fn 61 [.i .u64 a0, .i .u64 a1] [] (.i .u64 r) []) := by
 refine fnw ((word_Sign.Q a0 a1 r)) func61 ntmps61 ?_; unfold word_Sign.f at H; refine sr fun K hK => ?_; refine o_ ?_; refine nksr hK fun K hK => ?_; refine o_ ?_; obtain ⟨q1, hq1, H⟩ := bnd H; refine cs [] func12 (word_Abs.does hq1) ?_; refine o_ ?_; refine nkt hK ?_; rw [← Option.some.inj H]; exact fw []
theorem vec_Nrm2.does_l {s0_0 : Int} {l1 : List Int} (k : Nat) : (∀ (e_5 sum_10 : Int) (h2 : List Int) (t_32 t_33 h0 h1 : Int) (r : Int × Int), vec_Nrm2.l0 k e_5 sum_10 h2 t_32 t_33 h0 h1 = some r → wk_ E0 (vec_Nrm2.Q s0_0 l1 r) (frs (bodyOf Tryd.f76) [1, 1, 1, 1, 1, 0, 1, 0] []) (sub (bodyOf Tryd.f76) [1, 1, 1, 1, 1, 0, 1, 0]) ⟨.p (some (0, 0)) :: u_ 4 (.i .i64 e_5 :: u_ 3 (.p (some (1, 0)) :: .i .u64 sum_10 :: u_ 20 (.s (some (2, 0)) h2.length :: .i .i64 t_32 :: .i .i64 t_33 :: u_ 28 ([])))), ofL [.row [.i .u8 h0] 0 0 true false none, .row [.i .u8 h1] 0 0 true true none, .row (h2.map (V.i .u64)) 2 1 true true none], 3, 1⟩) := by
 induction k with
 | zero => exact by intros; simp [vec_Nrm2.l0] at *
 | succ k ih =>
  have ih0 := ih
  refine ?_
  ·intro e_5 sum_10 h2 t_32 t_33 h0 h1 r H; unfold vec_Nrm2.l0 at H; refine fb ?_; refine w_loop ?_; refine sr fun K hK => ?_; refine o_ ?_; refine nk hK ?_; refine w_seq ?_; rcases its H with ⟨c5, H⟩ | ⟨c5, H⟩
   ·refine dT c5 ?_; refine wT ?_; refine sk ?_; refine w_seq ?_; refine w_block ?_; refine sr fun K hK => ?_; obtain ⟨c6, H⟩ := it1 H; obtain ⟨c7, H⟩ := it1 H; refine g_ixo rfl rfl Tryd.underlying64 sz23 rfl rfl ao_ al_ (gT ?_); refine g_ldo rfl rfl ag23 sz23 rfl rfl al_ (gT ?_); refine o_ ?_; refine nk hK ?_; refine wR fun K hK => ?_; refine o_ ?_; obtain ⟨q8, hq8, H⟩ := bnd H
    refine cs [1] func46 (soft_Calc_Mul.does hq8) ?_; obtain ⟨q9, hq9, H⟩ := bnd H; refine cs [1] func58 (soft_Calc_Add.does hq9) ?_; refine o_ ?_; refine nl hK ?_; refine k_block ?_; refine k_seq ?_; refine wR fun K hK => ?_; refine o_ ?_; refine nl hK ?_; refine k_loop ?_; refine ww [0, 1, 2] [0, 4, 3, 0, 20, 0, 0] ?_; exact gi (ih0 e_5 q9.1 h2 t_32 (wrap64 (t_33 + 1)) h0 q9.2 r H)
   ·refine dF c5 ?_; refine wF ?_; refine w_exit rfl ?_; refine ksr fun K hK => ?_; refine o_ ?_; obtain ⟨q10, hq10, H⟩ := bnd H; refine cs [] func45 (more_Sqrt.does hq10) ?_; refine o_ ?_; refine nksr hK fun K hK => ?_; refine o_ ?_; obtain ⟨q11, hq11, H⟩ := bnd H; refine cs [] func36 (more_Scale.does hq11) ?_; refine o_ ?_; refine nksr hK fun K hK => ?_; refine o_ ?_; obtain ⟨q12, hq12, H⟩ := bnd H
    refine cs [0] func35 (soft_Calc_Note.does hq12) ?_; refine o_ ?_; refine nkt hK ?_; rw [← Option.some.inj H]; exact fw [0]
theorem vec_Nrm2.does {k : Nat} {s0_0 : Int} {l1 : List Int} {r : Int × Int} (H : vec_Nrm2.f k s0_0 l1 = some r) : Do E0 (.fn 76 [.p (some (0, 0)), .r (l1.map (V.i .u64)) l1.length true] [.row [.i .u8 s0_0] 0 0 true false none] (.i .u64 r.1) [.row [.i .u8 r.2] 0 0 true false none]) := by
 obtain ih0 := @vec_Nrm2.does_l s0_0 l1 k; refine fnw ((vec_Nrm2.Q s0_0 l1 r)) func76 ntmps76 ?_; unfold vec_Nrm2.f at H; refine sr fun K hK => ?_; refine o_ ?_; refine nksr hK fun K hK => ?_; refine o_ ?_; obtain ⟨q1, hq1, H⟩ := bnd H; refine cs [] func31 (vec_Power.does hq1) ?_; refine o_ ?_; refine nk hK ?_; refine w_seq ?_; refine sr fun K hK => ?_; refine o_ ?_; refine nk hK ?_
 rcases its H with ⟨c2, H⟩ | ⟨c2, H⟩
 ·refine dV c2 ?_; refine wF ?_; refine sk ?_; refine sr fun K hK => ?_; refine o_ ?_; refine nksr hK fun K hK => ?_; refine o_ ?_; refine nk hK ?_; refine w_seq ?_; refine sr fun K hK => ?_; refine o_ ?_; obtain ⟨q3, hq3, H⟩ := bnd H; refine cs [] func32 (vec_Unit.does hq3) ?_; refine g_len_s rfl rfl Tryd.underlying64 rfl (gT ?_); refine o_ ?_; refine nk hK ?_; refine w_block ?_
  refine ww [0, 41, 57] [0, 4, 3, 0, 20, 0, 0] ?_; exact gi (ih0 q1.1 0 q3 (q3.length : Int) 0 s0_0 0 r H)
 ·refine dW c2 ?_; refine wT ?_; refine sr fun K hK => ?_; refine o_ ?_; obtain ⟨q4, hq4, H⟩ := bnd H; refine cs [] func55 (order_Greatest.does hq4) ?_; refine o_ ?_; refine nksr hK fun K hK => ?_; refine o_ ?_; refine nkt hK ?_; rw [← Option.some.inj H]; exact fw [0]
theorem plane_Hypot.does {k : Nat} {a0 a1 : Int} {r : Int × Int} (H : plane_Hypot.f k a0 a1 = some r) : Do E0 (.fn 62 [.i .u64 a0, .i .u64 a1] [] (.t [.i .u64 r.1, .i .u8 r.2]) []) := by
 refine fnw ((plane_Hypot.Q a0 a1 r)) func62 ntmps62 ?_; unfold plane_Hypot.f at H; refine sr fun K hK => ?_; refine o_ ?_; refine nk hK ?_; refine w_seq ?_; refine sr fun K hK => ?_; refine o_ ?_; rcases its H with ⟨c1, H⟩ | ⟨c1, H⟩
 ·refine dE c1 ?_; refine o_ ?_; refine nk hK ?_; refine wT ?_; refine sr fun K hK => ?_; refine o_ ?_; refine nkt hK ?_; rw [← Option.some.inj H]; exact fw []
 ·refine dN c1 ?_; refine o_ ?_; refine nk hK ?_; rcases its H with ⟨c2, H⟩ | ⟨c2, H⟩
  ·refine dE c2 ?_; refine wT ?_; refine sr fun K hK => ?_; refine o_ ?_; refine nkt hK ?_; rw [← Option.some.inj H]; exact fw []
  ·refine dN c2 ?_; refine wF ?_; refine sk ?_; refine sr fun K hK => ?_; refine o_ ?_; refine nksr hK fun K hK => ?_; refine o_ ?_; refine g_bsl (k := .u64) (xs := [a0, a1]) rfl rfl Tryd.underlying64 sz23 zr23 de_ rfl rfl rfl (gU ?_); obtain ⟨q3, hq3, H⟩ := bnd H; refine cs [40] func76 (vec_Nrm2.does hq3) ?_; refine o_ ?_; refine nk hK ?_; refine w_seq ?_; refine wD fun K hK => ?_; refine o_ ?_
   refine g_nil (hK _ _ _ (by kernel_rfl) ?_); refine kt ?_; rw [← Option.some.inj H]; exact fw []
theorem plane_Turn_Of.does {k : Nat} {a0_0 a0_1 s1_0 a2 a3 : Int} {r : Int × Int × Int} (H : plane_Turn_Of.f k a0_0 a0_1 s1_0 a2 a3 = some r) : Do E0 (.fn 77 [.a [.i .u64 a0_0, .i .u64 a0_1], .p (some (0, 0)), .i .u64 a2, .i .u64 a3] [.row [.i .u8 s1_0] 0 0 true false none] (.t [.i .u64 r.1, .i .u64 r.2.1]) [.row [.i .u8 r.2.2] 0 0 true false none]) := by
 refine fnw ((plane_Turn_Of.Q a0_0 a0_1 s1_0 a2 a3 r)) func77 ntmps77 ?_; unfold plane_Turn_Of.f at H; refine sr fun K hK => ?_; refine o_ ?_; refine nk hK ?_; refine w_seq ?_; refine wD fun K hK => ?_; refine o_ ?_; obtain ⟨q1, hq1, H⟩ := bnd H; refine cs [0] func46 (soft_Calc_Mul.does hq1) ?_; refine o_ ?_; obtain ⟨q2, hq2, H⟩ := bnd H; refine cs [0] func46 (soft_Calc_Mul.does hq2) ?_
 obtain ⟨q3, hq3, H⟩ := bnd H; refine cs [0] func58 (soft_Calc_Add.does hq3) ?_; refine o_ ?_; obtain ⟨q4, hq4, H⟩ := bnd H; refine cs [0] func46 (soft_Calc_Mul.does hq4) ?_; refine o_ ?_; obtain ⟨q5, hq5, H⟩ := bnd H; refine cs [0] func46 (soft_Calc_Mul.does hq5) ?_; obtain ⟨q6, hq6, H⟩ := bnd H; refine cs [0] func57 (soft_Calc_Sub.does hq6) ?_; refine o_ ?_
 refine g_nil (hK _ _ _ (by kernel_rfl) ?_); refine kt ?_; rw [← Option.some.inj H]; exact fw [0]
end Go.Proofs.YtdmhepgfmickdaaDoor.F
