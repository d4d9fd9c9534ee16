/- Texts of this claim, one behind the other: the functions, and that the machine does what they say. -/
import Derived.Test.YtlhpejbmjbcmaaaDoorRx0
import Derived.Test.YtlhpejbmjbcmaaaDoorRx1
import Derived.Test.YtlhpejbmjbcmaaaDoorRun1
import Derived.Laws.BitsLemmas
import Derived.ArgAppend
import Derived.Lib.AppendStr
set_option linter.constructorNameAsVariable false
set_option linter.unusedSimpArgs false
set_option linter.unusedVariables false
set_option linter.unusedSectionVars false
namespace Go.Proofs.YtlhpejbmjbcmaaaDoor.F
open Go Go.RowKit Go.Proofs.YtlhpejbmjbcmaaaDoorW.PrintWords
open Go.Rk hiding Rd
set_option linter.unusedVariables false
set_option linter.unusedSimpArgs false
set_option maxRecDepth 100000
set_option maxHeartbeats 8000000 in
set_option maxRecDepth 100000 in
theorem dyad_Num_Same.does {k : Nat} {a0_0 : Bool} {l0_1 : List Int} {a0_2 : Int} {a1_0 : Bool} {l1_1 : List Int} {a1_2 : Int} {r : Bool} (H : dyad_Num_Same.f k a0_0 l0_1 a0_2 a1_0 l1_1 a1_2 = some r) : Do E0 (.fn 14 [.a [.b a0_0, .r (l0_1.map (V.i .u32)) l0_1.length true, .i .i64 a0_2], .a [.b a1_0, .r (l1_1.map (V.i .u32)) l1_1.length true, .i .i64 a1_2]] [] (.b r) []) := by
  refine fn_wpl Tryd.func14 rfl (Q := (dyad_Num_Same.Q a0_0 l0_1 a0_2 a1_0 l1_1 a1_2 r)) (fun s h => h) ?_
  unfold dyad_Num_Same.f at H
  simp only [Tryd.ntmps14, List.length, List.replicate, Nat.reduceAdd, Nat.reduceSub, List.cons_append, List.nil_append]
  refine w_seq ?_
  refine wR fun K hK => ?_
  refine g_box rfl rfl rfl (by rfl) (gU ?_)
  refine g_box rfl rfl rfl (by rfl) (gU ?_)
  refine g_as rfl rfl (gT ?_)
  refine g_nil (hK _ _ _ ?_)
  refine k_seq ?_
  refine w_seq ?_
  refine wR fun K hK => ?_
  refine g_fd rfl rfl fa39_0 rfl (gT ?_)
  refine g_ldc rfl rfl ag4 sz4 rfl rfl rfl (gT ?_)
  refine g_fd rfl rfl fa39_0 rfl (gT ?_)
  refine g_ldc rfl rfl ag4 sz4 rfl rfl rfl (gT ?_)
  refine g_eqb rfl rfl Tryd.underlying4 rfl rfl (gT ?_)
  refine g_mv rfl rfl (gT ?_)
  rcases its H with ⟨c1, H⟩ | ⟨c1, H⟩
  · have c1b : (a0_0 == a1_0) = true := c1; try simp only [c1b, nrm]
    refine g_fd rfl rfl fa39_2 rfl (gT ?_)
    refine g_ldc rfl rfl ag3 sz3 rfl rfl rfl (gT ?_)
    refine g_fd rfl rfl fa39_2 rfl (gT ?_)
    refine g_ldc rfl rfl ag3 sz3 rfl rfl rfl (gT ?_)
    refine g_bin rfl rfl rfl rfl rfl (gT ?_)
    refine g_pick rfl rfl rfl (gT ?_)
    refine g_mv rfl rfl (gT ?_)
    rcases its H with ⟨c2, H⟩ | ⟨c2, H⟩
    · have c2b := beq_iff_eq.mpr c2; have c2n := bne_eq_false_iff_eq.mpr c2; try simp only [c2b, c2n, nrm]
      refine g_fd rfl rfl fa39_1 rfl (gT ?_)
      refine g_ldc rfl rfl ag37 sz37 rfl rfl rfl (gT ?_)
      refine g_fd rfl rfl fa39_1 rfl (gT ?_)
      refine g_ldc rfl rfl ag37 sz37 rfl rfl rfl (gT ?_)
      obtain ⟨q3, hq3, H⟩ := bnd H
      refine g_cs [] rfl rfl (by rfl) Tryd.func31 rfl (by decide) (slices_Equal_uint32_uint32.does hq3) ⟨Nat.le_of_ble_eq_true rfl, Nat.le_of_ble_eq_true rfl⟩ ?_; refine gC ?_
      refine g_pick rfl rfl rfl (gT ?_)
      refine g_as rfl rfl (gT ?_)
      refine g_nil (hK _ _ _ ?_)
      refine k_seq ?_
      refine w_ret ?_
      refine fin_wp (τ := []) rfl (by decide) ?_; rw [← Option.some.inj H]; simp only [Tryd.f14]; exact gF
    · have c2b := beq_eq_false_iff_ne.mpr c2; have c2n := bne_iff_ne.mpr c2; try simp only [c2b, c2n, nrm]
      refine g_sk rfl rfl (gT ?_)
      refine g_sk rfl rfl (gT ?_)
      refine g_sk rfl rfl (gT ?_)
      refine g_sk rfl rfl (gT ?_)
      refine g_sk rfl rfl (gT ?_)
      refine g_pick rfl rfl rfl (gT ?_)
      refine g_as rfl rfl (gT ?_)
      refine g_nil (hK _ _ _ ?_)
      refine k_seq ?_
      refine w_ret ?_
      refine fin_wp (τ := []) rfl (by decide) ?_; rw [← Option.some.inj H]; simp only [Tryd.f14]; exact gF
  · have c1b : (a0_0 == a1_0) = false := Bool.eq_false_iff.mpr c1; try simp only [c1b, nrm]
    refine g_sk rfl rfl (gT ?_)
    refine g_sk rfl rfl (gT ?_)
    refine g_sk rfl rfl (gT ?_)
    refine g_sk rfl rfl (gT ?_)
    refine g_sk rfl rfl (gT ?_)
    refine g_pick rfl rfl rfl (gT ?_)
    refine g_mv rfl rfl (gT ?_)
    refine g_sk rfl rfl (gT ?_)
    refine g_sk rfl rfl (gT ?_)
    refine g_sk rfl rfl (gT ?_)
    refine g_sk rfl rfl (gT ?_)
    refine g_sk rfl rfl (gT ?_)
    refine g_pick rfl rfl rfl (gT ?_)
    refine g_as rfl rfl (gT ?_)
    refine g_nil (hK _ _ _ ?_)
    refine k_seq ?_
    refine w_ret ?_
    refine fin_wp (τ := []) rfl (by decide) ?_; rw [← Option.some.inj H]; simp only [Tryd.f14]; exact gF

set_option maxHeartbeats 8000000 in
set_option maxRecDepth 100000 in
theorem gimballaw16_BalSame.does_l {a0 : Int} {l1 : List Int} {a2 : Int} (k : Nat) : (∀ (n_0 : Int) (t_97 : Bool) (h0_0 : Int) (h0_1 : Int) (h0_2 : Int) (h1_0 : Int) (h1_1 : Int) (h1_2 : Int) (h2_0 : Int) (h2_1 : Int) (h3 : List Int) (h4 : List Int) (h5 : List Int) (h6 : List Int) (r : Bool), gimballaw16_BalSame.j0 k n_0 t_97 h0_0 h0_1 h0_2 h1_0 h1_1 h1_2 h2_0 h2_1 h3 h4 h5 h6 = some r → kont E0 (gimballaw16_BalSame.Q a0 l1 a2 r) (frs (bodyOf Tryd.f3) [1, 1, 1, 1, 1, 1, 1, 1, 1, 0, 0] []) .normal ⟨[.i .i64 n_0, .u, .u, .u, .u, .u, .u, .p (some (0, 0)), .u, .p (some (1, 0)), .p (some (2, 0)), .u, .u, .u, .u, .u, .u, .u, .u, .u, .u, .u, .u, .u, .u, .u, .u, .u, .u, .u, .u, .u, .u, .u, .u, .u, .u, .u, .u, .u, .u, .u, .u, .u, .u, .u, .u, .u, .u, .u, .u, .u, .u, .u, .u, .u, .u, .u, .u, .u, .u, .u, .u, .u, .u, .u, .u, .u, .u, .u, .u, .u, .u, .u, .u, .u, .u, .u, .u, .u, .u, .u, .u, .u, .u, .u, .u, .u, .u, .u, .u, .u, .u, .u, .u, .u, .u, .b t_97, .u, .u, .u, .u, .u, .u, .u, .u, .u, .u, .u, .u, .u, .u, .u, .u, .u, .u, .u, .u, .u, .u, .u, .u, .u, .u, .u, .u, .u, .u, .u, .u, .u, .u, .u, .u, .u, .u, .u, .u, .u, .u, .u, .u, .u, .u, .u, .u, .u, .u, .u, .u, .u, .u, .u, .u, .u, .u, .u, .u, .u, .u, .u, .u, .u, .u, .u, .u, .u, .u, .u, .u, .u, .u, .u, .u, .u, .u, .u, .u, .u, .u, .u, .u, .u, .u, .u, .u, .u, .u, .u, .u, .u, .u, .u, .u, .u, .u, .u, .u, .u, .u, .u, .u, .u, .u, .u, .u, .u, .u, .u, .u, .u, .u, .u, .u, .u, .u, .u, .u, .u, .u, .u, .u, .u, .u, .u, .u, .u, .u, .u, .u, .u, .u, .u, .u, .u, .u, .u, .u, .u, .u, .u, .u, .u, .u, .u, .u, .u, .u, .u, .u, .u, .u, .u, .u, .u, .u, .u, .u], ofL [.row [.i .i64 h0_0, .i .i64 h0_1, .i .i64 h0_2, .s (some (3, 0)) h3.length] 0 0 true true none, .row [.i .i64 h1_0, .i .i64 h1_1, .i .i64 h1_2, .s (some (4, 0)) h4.length] 0 0 true true none, .row [.s (some (5, 0)) h5.length, .s (some (6, 0)) h6.length, .i .i64 h2_0, .i .i64 h2_1] 0 0 true true none, .row (h3.map (V.i .u64)) 2 1 true true none, .row (h4.map (V.i .u64)) 2 1 true true none, .row (h5.map (V.i .i64)) 2 1 true true none, .row (h6.map (V.i .i64)) 2 1 true true none], 7, 0⟩) ∧
    (∀ (n_0 : Int) (i_13 : Int) (h0_0 : Int) (h0_1 : Int) (h0_2 : Int) (h1_0 : Int) (h1_1 : Int) (h1_2 : Int) (h2_0 : Int) (h2_1 : Int) (h3 : List (Int × Bool)) (h4 : List Int) (h5 : List Int) (h6 : List Int) (h7 : List Int) (r : Bool), gimballaw16_BalSame.l0 k n_0 i_13 h0_0 h0_1 h0_2 h1_0 h1_1 h1_2 h2_0 h2_1 h3 h4 h5 h6 h7 = some r → wk_ E0 (gimballaw16_BalSame.Q a0 l1 a2 r) (frs (bodyOf Tryd.f3) [1, 1, 1, 1, 1, 1, 1, 1, 1, 1, 1, 0, 1, 0] []) (sub (bodyOf Tryd.f3) [1, 1, 1, 1, 1, 1, 1, 1, 1, 1, 1, 0, 1, 0]) ⟨[.i .i64 n_0, .u, .u, .u, .u, .u, .u, .p (some (0, 0)), .u, .p (some (1, 0)), .p (some (2, 0)), .u, .m 3, .i .i64 i_13, .u, .u, .u, .u, .u, .u, .u, .u, .u, .u, .u, .u, .u, .u, .u, .u, .u, .u, .u, .u, .u, .u, .u, .u, .u, .u, .u, .u, .u, .u, .u, .u, .u, .u, .u, .u, .u, .u, .u, .u, .u, .u, .u, .u, .u, .u, .u, .u, .u, .u, .u, .u, .u, .u, .u, .u, .u, .u, .u, .u, .u, .u, .u, .u, .u, .u, .u, .u, .u, .u, .u, .u, .u, .u, .u, .u, .u, .u, .u, .u, .u, .u, .u, .u, .u, .u, .u, .u, .u, .u, .u, .u, .u, .u, .u, .u, .u, .u, .u, .u, .u, .u, .u, .u, .u, .u, .u, .u, .u, .u, .u, .u, .u, .u, .u, .u, .u, .u, .u, .u, .u, .u, .u, .u, .u, .u, .u, .u, .u, .u, .u, .u, .u, .u, .u, .u, .u, .u, .u, .u, .u, .u, .u, .u, .u, .u, .u, .u, .u, .u, .u, .u, .u, .u, .u, .u, .u, .u, .u, .u, .u, .u, .u, .u, .u, .u, .u, .u, .u, .u, .u, .u, .u, .u, .u, .u, .u, .u, .u, .u, .u, .u, .u, .u, .u, .u, .u, .u, .u, .u, .u, .u, .u, .u, .u, .u, .u, .u, .u, .u, .u, .u, .u, .u, .u, .u, .u, .u, .u, .u, .u, .u, .u, .u, .u, .u, .u, .u, .u, .u, .u, .u, .u, .u, .u, .u, .u, .u, .u, .u, .u, .u, .u, .u, .u, .u, .u, .u, .u, .u, .u, .u, .u, .u], ofL [.row [.i .i64 h0_0, .i .i64 h0_1, .i .i64 h0_2, .s (some (4, 0)) h4.length] 0 0 true true none, .row [.i .i64 h1_0, .i .i64 h1_1, .i .i64 h1_2, .s (some (5, 0)) h5.length] 0 0 true true none, .row [.s (some (6, 0)) h6.length, .s (some (7, 0)) h7.length, .i .i64 h2_0, .i .i64 h2_1] 0 0 true true none, .map (h3.map fun p => (.i .i64 p.1, .b p.2)), .row (h4.map (V.i .u64)) 2 1 true true none, .row (h5.map (V.i .u64)) 2 1 true true none, .row (h6.map (V.i .i64)) 2 1 true true none, .row (h7.map (V.i .i64)) 2 1 true true none], 8, 0⟩) ∧
    (∀ (n_0 : Int) (i_15 : Int) (h0_0 : Int) (h0_1 : Int) (h0_2 : Int) (h1_0 : Int) (h1_1 : Int) (h1_2 : Int) (h2_0 : Int) (h2_1 : Int) (h3 : List Int) (h4 : List Int) (h5 : List Int) (h6 : List Int) (r : Bool), gimballaw16_BalSame.l1 k n_0 i_15 h0_0 h0_1 h0_2 h1_0 h1_1 h1_2 h2_0 h2_1 h3 h4 h5 h6 = some r → wk_ E0 (gimballaw16_BalSame.Q a0 l1 a2 r) (frs (bodyOf Tryd.f3) [1, 1, 1, 1, 1, 1, 1, 1, 1, 1, 1, 1, 0, 1, 0] []) (sub (bodyOf Tryd.f3) [1, 1, 1, 1, 1, 1, 1, 1, 1, 1, 1, 1, 0, 1, 0]) ⟨[.i .i64 n_0, .u, .u, .u, .u, .u, .u, .p (some (0, 0)), .u, .p (some (1, 0)), .p (some (2, 0)), .u, .u, .u, .u, .i .i64 i_15, .u, .u, .u, .u, .u, .u, .u, .u, .u, .u, .u, .u, .u, .u, .u, .u, .u, .u, .u, .u, .u, .u, .u, .u, .u, .u, .u, .u, .u, .u, .u, .u, .u, .u, .u, .u, .u, .u, .u, .u, .u, .u, .u, .u, .u, .u, .u, .u, .u, .u, .u, .u, .u, .u, .u, .u, .u, .u, .u, .u, .u, .u, .u, .u, .u, .u, .u, .u, .u, .u, .u, .u, .u, .u, .u, .u, .u, .u, .u, .u, .u, .u, .u, .u, .u, .u, .u, .u, .u, .u, .u, .u, .u, .u, .u, .u, .u, .u, .u, .u, .u, .u, .u, .u, .u, .u, .u, .u, .u, .u, .u, .u, .u, .u, .u, .u, .u, .u, .u, .u, .u, .u, .u, .u, .u, .u, .u, .u, .u, .u, .u, .u, .u, .u, .u, .u, .u, .u, .u, .u, .u, .u, .u, .u, .u, .u, .u, .u, .u, .u, .u, .u, .u, .u, .u, .u, .u, .u, .u, .u, .u, .u, .u, .u, .u, .u, .u, .u, .u, .u, .u, .u, .u, .u, .u, .u, .u, .u, .u, .u, .u, .u, .u, .u, .u, .u, .u, .u, .u, .u, .u, .u, .u, .u, .u, .u, .u, .u, .u, .u, .u, .u, .u, .u, .u, .u, .u, .u, .u, .u, .u, .u, .u, .u, .u, .u, .u, .u, .u, .u, .u, .u, .u, .u, .u, .u, .u, .u, .u, .u, .u, .u, .u, .u, .u, .u, .u, .u, .u, .u, .u, .u], ofL [.row [.i .i64 h0_0, .i .i64 h0_1, .i .i64 h0_2, .s (some (3, 0)) h3.length] 0 0 true true none, .row [.i .i64 h1_0, .i .i64 h1_1, .i .i64 h1_2, .s (some (4, 0)) h4.length] 0 0 true true none, .row [.s (some (5, 0)) h5.length, .s (some (6, 0)) h6.length, .i .i64 h2_0, .i .i64 h2_1] 0 0 true true none, .row (h3.map (V.i .u64)) 2 1 true true none, .row (h4.map (V.i .u64)) 2 1 true true none, .row (h5.map (V.i .i64)) 2 1 true true none, .row (h6.map (V.i .i64)) 2 1 true true none], 7, 0⟩) ∧
    (∀ (n_0 : Int) (i_15 : Int) (k_16 : Int) (h0_0 : Int) (h0_1 : Int) (h0_2 : Int) (h1_0 : Int) (h1_1 : Int) (h1_2 : Int) (h2_0 : Int) (h2_1 : Int) (h3 : List Int) (h4 : List Int) (h5 : List Int) (h6 : List Int) (r : Bool), gimballaw16_BalSame.l2 k n_0 i_15 k_16 h0_0 h0_1 h0_2 h1_0 h1_1 h1_2 h2_0 h2_1 h3 h4 h5 h6 = some r → wk_ E0 (gimballaw16_BalSame.Q a0 l1 a2 r) (frs (bodyOf Tryd.f3) [1, 1, 1, 1, 1, 1, 1, 1, 1, 1, 1, 1, 0, 1, 0, 0, 1, 0, 0, 1, 0] []) (sub (bodyOf Tryd.f3) [1, 1, 1, 1, 1, 1, 1, 1, 1, 1, 1, 1, 0, 1, 0, 0, 1, 0, 0, 1, 0]) ⟨[.i .i64 n_0, .u, .u, .u, .u, .u, .u, .p (some (0, 0)), .u, .p (some (1, 0)), .p (some (2, 0)), .u, .u, .u, .u, .i .i64 i_15, .i .i64 k_16, .u, .u, .u, .u, .u, .u, .u, .u, .u, .u, .u, .u, .u, .u, .u, .u, .u, .u, .u, .u, .u, .u, .u, .u, .u, .u, .u, .u, .u, .u, .u, .u, .u, .u, .u, .u, .u, .u, .u, .u, .u, .u, .u, .u, .u, .u, .u, .u, .u, .u, .u, .u, .u, .u, .u, .u, .u, .u, .u, .u, .u, .u, .u, .u, .u, .u, .u, .u, .u, .u, .u, .u, .u, .u, .u, .u, .u, .u, .u, .u, .u, .u, .u, .u, .u, .u, .u, .u, .u, .u, .u, .u, .u, .u, .u, .u, .u, .u, .u, .u, .u, .u, .u, .u, .u, .u, .u, .u, .u, .u, .u, .u, .u, .u, .u, .u, .u, .u, .u, .u, .u, .u, .u, .u, .u, .u, .u, .u, .u, .u, .u, .u, .u, .u, .u, .u, .u, .u, .u, .u, .u, .u, .u, .u, .u, .u, .u, .u, .u, .u, .u, .u, .u, .u, .u, .u, .u, .u, .u, .u, .u, .u, .u, .u, .u, .u, .u, .u, .u, .u, .u, .u, .u, .u, .u, .u, .u, .u, .u, .u, .u, .u, .u, .u, .u, .u, .u, .u, .u, .u, .u, .u, .u, .u, .u, .u, .u, .u, .u, .u, .u, .u, .u, .u, .u, .u, .u, .u, .u, .u, .u, .u, .u, .u, .u, .u, .u, .u, .u, .u, .u, .u, .u, .u, .u, .u, .u, .u, .u, .u, .u, .u, .u, .u, .u, .u, .u, .u, .u, .u, .u], ofL [.row [.i .i64 h0_0, .i .i64 h0_1, .i .i64 h0_2, .s (some (3, 0)) h3.length] 0 0 true true none, .row [.i .i64 h1_0, .i .i64 h1_1, .i .i64 h1_2, .s (some (4, 0)) h4.length] 0 0 true true none, .row [.s (some (5, 0)) h5.length, .s (some (6, 0)) h6.length, .i .i64 h2_0, .i .i64 h2_1] 0 0 true true none, .row (h3.map (V.i .u64)) 2 1 true true none, .row (h4.map (V.i .u64)) 2 1 true true none, .row (h5.map (V.i .i64)) 2 1 true true none, .row (h6.map (V.i .i64)) 2 1 true true none], 7, 0⟩) ∧
    (∀ (n_0 : Int) (i_15 : Int) (k_16 : Int) (t_210 : Bool) (h0_0 : Int) (h0_1 : Int) (h0_2 : Int) (h1_0 : Int) (h1_1 : Int) (h1_2 : Int) (h2_0 : Int) (h2_1 : Int) (h3 : List Int) (h4 : List Int) (h5 : List Int) (h6 : List Int) (r : Bool), gimballaw16_BalSame.j4 k n_0 i_15 k_16 t_210 h0_0 h0_1 h0_2 h1_0 h1_1 h1_2 h2_0 h2_1 h3 h4 h5 h6 = some r → kont E0 (gimballaw16_BalSame.Q a0 l1 a2 r) (frs (bodyOf Tryd.f3) [1, 1, 1, 1, 1, 1, 1, 1, 1, 1, 1, 1, 0, 1, 0, 0, 1, 0, 0, 1, 0, 0, 1, 0, 0, 1, 0, 0] []) .normal ⟨[.i .i64 n_0, .u, .u, .u, .u, .u, .u, .p (some (0, 0)), .u, .p (some (1, 0)), .p (some (2, 0)), .u, .u, .u, .u, .i .i64 i_15, .i .i64 k_16, .u, .u, .u, .u, .u, .u, .u, .u, .u, .u, .u, .u, .u, .u, .u, .u, .u, .u, .u, .u, .u, .u, .u, .u, .u, .u, .u, .u, .u, .u, .u, .u, .u, .u, .u, .u, .u, .u, .u, .u, .u, .u, .u, .u, .u, .u, .u, .u, .u, .u, .u, .u, .u, .u, .u, .u, .u, .u, .u, .u, .u, .u, .u, .u, .u, .u, .u, .u, .u, .u, .u, .u, .u, .u, .u, .u, .u, .u, .u, .u, .u, .u, .u, .u, .u, .u, .u, .u, .u, .u, .u, .u, .u, .u, .u, .u, .u, .u, .u, .u, .u, .u, .u, .u, .u, .u, .u, .u, .u, .u, .u, .u, .u, .u, .u, .u, .u, .u, .u, .u, .u, .u, .u, .u, .u, .u, .u, .u, .u, .u, .u, .u, .u, .u, .u, .u, .u, .u, .u, .u, .u, .u, .u, .u, .u, .u, .u, .u, .u, .u, .u, .u, .u, .u, .u, .u, .u, .u, .u, .u, .u, .u, .u, .u, .u, .u, .u, .u, .u, .u, .u, .u, .u, .u, .u, .u, .u, .u, .u, .u, .u, .u, .u, .u, .u, .u, .u, .u, .u, .u, .u, .u, .u, .b t_210, .u, .u, .u, .u, .u, .u, .u, .u, .u, .u, .u, .u, .u, .u, .u, .u, .u, .u, .u, .u, .u, .u, .u, .u, .u, .u, .u, .u, .u, .u, .u, .u, .u, .u, .u, .u, .u, .u, .u, .u, .u, .u, .u, .u, .u, .u, .u], ofL [.row [.i .i64 h0_0, .i .i64 h0_1, .i .i64 h0_2, .s (some (3, 0)) h3.length] 0 0 true true none, .row [.i .i64 h1_0, .i .i64 h1_1, .i .i64 h1_2, .s (some (4, 0)) h4.length] 0 0 true true none, .row [.s (some (5, 0)) h5.length, .s (some (6, 0)) h6.length, .i .i64 h2_0, .i .i64 h2_1] 0 0 true true none, .row (h3.map (V.i .u64)) 2 1 true true none, .row (h4.map (V.i .u64)) 2 1 true true none, .row (h5.map (V.i .i64)) 2 1 true true none, .row (h6.map (V.i .i64)) 2 1 true true none], 7, 0⟩) := by
  induction k with
  | zero => exact ⟨fun _ _ _ _ _ _ _ _ _ _ _ _ _ _ r h => by simp [gimballaw16_BalSame.j0] at h, fun _ _ _ _ _ _ _ _ _ _ _ _ _ _ _ r h => by simp [gimballaw16_BalSame.l0] at h, fun _ _ _ _ _ _ _ _ _ _ _ _ _ _ r h => by simp [gimballaw16_BalSame.l1] at h, fun _ _ _ _ _ _ _ _ _ _ _ _ _ _ _ r h => by simp [gimballaw16_BalSame.l2] at h, fun _ _ _ _ _ _ _ _ _ _ _ _ _ _ _ _ r h => by simp [gimballaw16_BalSame.j4] at h⟩
  | succ k ih =>
    obtain ⟨ih0, ih1, ih2, ih3, ih4⟩ := ih
    refine ⟨?_, ?_, ?_, ?_, ?_⟩
    · intro n_0 t_97 h0_0 h0_1 h0_2 h1_0 h1_1 h1_2 h2_0 h2_1 h3 h4 h5 h6 r H
      unfold gimballaw16_BalSame.j0 at H
      simp only [bodyOf, Tryd.f3, frs, sub, if_true, if_false, Nat.one_ne_zero]
      refine k_seq ?_
      rcases its H with ⟨c17, H⟩ | ⟨c17, H⟩
      · have c17b : t_97 = true := c17; try simp only [c17b, nrm]
        refine w_cond rfl (fun _ => ?_) (fun h => Bool.noConfusion h)
        refine w_seq ?_
        refine wR fun K hK => ?_
        refine g_as rfl rfl (gT ?_)
        refine g_nil (hK _ _ _ ?_)
        refine k_seq ?_
        refine w_ret ?_
        refine fin_wp (τ := []) rfl (by decide) ?_; rw [← Option.some.inj H]; simp only [Tryd.f3]; exact gF
      · have c17b : t_97 = false := Bool.eq_false_iff.mpr c17; try simp only [c17b, nrm]
        refine w_cond rfl (fun h => Bool.noConfusion h) (fun _ => ?_)
        refine w_skip ?_
        refine k_seq ?_
        refine w_seq ?_
        refine wR fun K hK => ?_
        refine g_mm rfl rfl (gU ?_)
        refine g_as rfl rfl (gT ?_)
        refine g_nil (hK _ _ _ ?_)
        refine k_seq ?_
        refine w_seq ?_
        refine w_seq ?_
        refine wR fun K hK => ?_
        refine g_as rfl rfl (gT ?_)
        refine g_nil (hK _ _ _ ?_)
        refine k_seq ?_
        refine w_block ?_
        refine w_wk (σ := [0, 1, 2, 7, 3, 4, 5, 6]) [0, 6, 1, 0, 1, 0] rfl (by decide) ?_; refine gC ?_
        exact gI (ih1 n_0 0 h0_0 h0_1 h0_2 h1_0 h1_1 h1_2 h2_0 h2_1 ([] : List (Int × Bool)) h3 h4 h5 h6 r H)
    · intro n_0 i_13 h0_0 h0_1 h0_2 h1_0 h1_1 h1_2 h2_0 h2_1 h3 h4 h5 h6 h7 r H
      unfold gimballaw16_BalSame.l0 at H
      simp only [bodyOf, Tryd.f3, frs, sub, if_true, if_false, Nat.one_ne_zero]
      refine w_loop ?_
      refine w_seq ?_
      refine w_seq ?_
      refine wR fun K hK => ?_
      refine g_mv rfl rfl (gT ?_)
      refine g_mv rfl rfl (gT ?_)
      refine g_bin rfl rfl rfl rfl rfl (gT ?_)
      refine g_nil (hK _ _ _ ?_)
      refine k_seq ?_
      rcases its H with ⟨c18, H⟩ | ⟨c18, H⟩
      · have c18b := decide_eq_true c18; try simp only [c18b, nrm]
        refine w_cond rfl (fun _ => ?_) (fun h => Bool.noConfusion h)
        refine w_skip ?_
        refine k_seq ?_
        refine w_seq ?_
        refine w_block ?_
        refine w_seq ?_
        refine wR fun K hK => ?_
        refine g_fd rfl rfl fa31_0 rfl (gT ?_)
        refine g_ldc rfl rfl ag29 sz29 rfl rfl rfl (gT ?_)
        refine g_mv rfl rfl (gT ?_)
        obtain ⟨c19, H⟩ := it1 H
        obtain ⟨c20, H⟩ := it1 H
        refine g_ixo rfl rfl Tryd.underlying29 sz3 rfl rfl (by first | assumption | omega) (by first | assumption | omega | (simp only [List.length_set, List.length_replicate] at *; omega)) (gT ?_)
        refine g_ldo rfl rfl ag3 sz3 rfl rfl (by first | assumption | omega | (simp only [List.length_set, List.length_replicate] at *; omega)) (gT ?_)
        refine g_as rfl rfl (gT ?_)
        refine g_nil (hK _ _ _ ?_)
        refine k_seq ?_
        refine w_seq ?_
        refine w_seq ?_
        refine wR fun K hK => ?_
        refine g_mv rfl rfl (gT ?_)
        refine g_bin rfl rfl rfl rfl rfl (gT ?_)
        refine g_mv rfl rfl (gT ?_)
        rcases its H with ⟨c21, H⟩ | ⟨c21, H⟩
        · have c21b := decide_eq_true c21; try simp only [c21b, nrm]
          refine g_sk rfl rfl (gT ?_)
          refine g_sk rfl rfl (gT ?_)
          refine g_sk rfl rfl (gT ?_)
          refine g_pick rfl rfl rfl (gT ?_)
          refine g_mv rfl rfl (gT ?_)
          refine g_sk rfl rfl (gT ?_)
          refine g_sk rfl rfl (gT ?_)
          refine g_sk rfl rfl (gT ?_)
          refine g_pick rfl rfl rfl (gT ?_)
          refine g_mv rfl rfl (gT ?_)
          refine g_sk rfl rfl (gT ?_)
          refine g_sk rfl rfl (gT ?_)
          refine g_sk rfl rfl (gT ?_)
          refine g_sk rfl rfl (gT ?_)
          refine g_sk rfl rfl (gT ?_)
          refine g_sk rfl rfl (gT ?_)
          refine g_pick rfl rfl rfl (gT ?_)
          refine g_mv rfl rfl (gT ?_)
          refine g_sk rfl rfl (gT ?_)
          refine g_sk rfl rfl (gT ?_)
          refine g_sk rfl rfl (gT ?_)
          refine g_sk rfl rfl (gT ?_)
          refine g_sk rfl rfl (gT ?_)
          refine g_sk rfl rfl (gT ?_)
          refine g_pick rfl rfl rfl (gT ?_)
          refine g_mv rfl rfl (gT ?_)
          refine g_sk rfl rfl (gT ?_)
          refine g_sk rfl rfl (gT ?_)
          refine g_sk rfl rfl (gT ?_)
          refine g_sk rfl rfl (gT ?_)
          refine g_sk rfl rfl (gT ?_)
          refine g_sk rfl rfl (gT ?_)
          refine g_sk rfl rfl (gT ?_)
          refine g_sk rfl rfl (gT ?_)
          refine g_sk rfl rfl (gT ?_)
          refine g_sk rfl rfl (gT ?_)
          refine g_sk rfl rfl (gT ?_)
          refine g_sk rfl rfl (gT ?_)
          refine g_sk rfl rfl (gT ?_)
          refine g_sk rfl rfl (gT ?_)
          refine g_sk rfl rfl (gT ?_)
          refine g_sk rfl rfl (gT ?_)
          refine g_sk rfl rfl (gT ?_)
          refine g_sk rfl rfl (gT ?_)
          refine g_pick rfl rfl rfl (gT ?_)
          refine g_nil (hK _ _ _ ?_)
          refine k_seq ?_
          refine w_cond rfl (fun _ => ?_) (fun h => Bool.noConfusion h)
          refine w_seq ?_
          refine wR fun K hK => ?_
          refine g_as rfl rfl (gT ?_)
          refine g_nil (hK _ _ _ ?_)
          refine k_seq ?_
          refine w_ret ?_
          refine fin_wp (τ := []) rfl (by decide) ?_; rw [← Option.some.inj H]; simp only [Tryd.f3]; exact gF
        · have c21b := decide_eq_false c21; try simp only [c21b, nrm]
          refine g_mv rfl rfl (gT ?_)
          refine g_mv rfl rfl (gT ?_)
          refine g_bin rfl rfl rfl rfl rfl (gT ?_)
          refine g_pick rfl rfl rfl (gT ?_)
          refine g_mv rfl rfl (gT ?_)
          rcases its H with ⟨c22, H⟩ | ⟨c22, H⟩
          · have c22b := decide_eq_true c22; try simp only [c22b, nrm]
            refine g_sk rfl rfl (gT ?_)
            refine g_sk rfl rfl (gT ?_)
            refine g_sk rfl rfl (gT ?_)
            refine g_pick rfl rfl rfl (gT ?_)
            refine g_mv rfl rfl (gT ?_)
            refine g_sk rfl rfl (gT ?_)
            refine g_sk rfl rfl (gT ?_)
            refine g_sk rfl rfl (gT ?_)
            refine g_sk rfl rfl (gT ?_)
            refine g_sk rfl rfl (gT ?_)
            refine g_sk rfl rfl (gT ?_)
            refine g_pick rfl rfl rfl (gT ?_)
            refine g_mv rfl rfl (gT ?_)
            refine g_sk rfl rfl (gT ?_)
            refine g_sk rfl rfl (gT ?_)
            refine g_sk rfl rfl (gT ?_)
            refine g_sk rfl rfl (gT ?_)
            refine g_sk rfl rfl (gT ?_)
            refine g_sk rfl rfl (gT ?_)
            refine g_pick rfl rfl rfl (gT ?_)
            refine g_mv rfl rfl (gT ?_)
            refine g_sk rfl rfl (gT ?_)
            refine g_sk rfl rfl (gT ?_)
            refine g_sk rfl rfl (gT ?_)
            refine g_sk rfl rfl (gT ?_)
            refine g_sk rfl rfl (gT ?_)
            refine g_sk rfl rfl (gT ?_)
            refine g_sk rfl rfl (gT ?_)
            refine g_sk rfl rfl (gT ?_)
            refine g_sk rfl rfl (gT ?_)
            refine g_sk rfl rfl (gT ?_)
            refine g_sk rfl rfl (gT ?_)
            refine g_sk rfl rfl (gT ?_)
            refine g_sk rfl rfl (gT ?_)
            refine g_sk rfl rfl (gT ?_)
            refine g_sk rfl rfl (gT ?_)
            refine g_sk rfl rfl (gT ?_)
            refine g_sk rfl rfl (gT ?_)
            refine g_sk rfl rfl (gT ?_)
            refine g_pick rfl rfl rfl (gT ?_)
            refine g_nil (hK _ _ _ ?_)
            refine k_seq ?_
            refine w_cond rfl (fun _ => ?_) (fun h => Bool.noConfusion h)
            refine w_seq ?_
            refine wR fun K hK => ?_
            refine g_as rfl rfl (gT ?_)
            refine g_nil (hK _ _ _ ?_)
            refine k_seq ?_
            refine w_ret ?_
            refine fin_wp (τ := []) rfl (by decide) ?_; rw [← Option.some.inj H]; simp only [Tryd.f3]; exact gF
          · have c22b := decide_eq_false c22; try simp only [c22b, nrm]
            refine g_mv rfl rfl (gT ?_)
            refine g_mv rfl rfl (gT ?_)
            refine g_lk rfl rfl Tryd.underlying36 Tryd.underlying3 zo4 rfl rfl rfl (gT ?_)
            refine g_pick rfl rfl rfl (gT ?_)
            refine g_mv rfl rfl (gT ?_)
            rcases its H with ⟨c23, H⟩ | ⟨c23, H⟩
            · have c23b : (mget h3 (rd h6 i_13)) = true := c23; try simp only [c23b, nrm]
              refine g_sk rfl rfl (gT ?_)
              refine g_sk rfl rfl (gT ?_)
              refine g_sk rfl rfl (gT ?_)
              refine g_sk rfl rfl (gT ?_)
              refine g_sk rfl rfl (gT ?_)
              refine g_sk rfl rfl (gT ?_)
              refine g_pick rfl rfl rfl (gT ?_)
              refine g_mv rfl rfl (gT ?_)
              refine g_sk rfl rfl (gT ?_)
              refine g_sk rfl rfl (gT ?_)
              refine g_sk rfl rfl (gT ?_)
              refine g_sk rfl rfl (gT ?_)
              refine g_sk rfl rfl (gT ?_)
              refine g_sk rfl rfl (gT ?_)
              refine g_pick rfl rfl rfl (gT ?_)
              refine g_mv rfl rfl (gT ?_)
              refine g_sk rfl rfl (gT ?_)
              refine g_sk rfl rfl (gT ?_)
              refine g_sk rfl rfl (gT ?_)
              refine g_sk rfl rfl (gT ?_)
              refine g_sk rfl rfl (gT ?_)
              refine g_sk rfl rfl (gT ?_)
              refine g_sk rfl rfl (gT ?_)
              refine g_sk rfl rfl (gT ?_)
              refine g_sk rfl rfl (gT ?_)
              refine g_sk rfl rfl (gT ?_)
              refine g_sk rfl rfl (gT ?_)
              refine g_sk rfl rfl (gT ?_)
              refine g_sk rfl rfl (gT ?_)
              refine g_sk rfl rfl (gT ?_)
              refine g_sk rfl rfl (gT ?_)
              refine g_sk rfl rfl (gT ?_)
              refine g_sk rfl rfl (gT ?_)
              refine g_sk rfl rfl (gT ?_)
              refine g_pick rfl rfl rfl (gT ?_)
              refine g_nil (hK _ _ _ ?_)
              refine k_seq ?_
              refine w_cond rfl (fun _ => ?_) (fun h => Bool.noConfusion h)
              refine w_seq ?_
              refine wR fun K hK => ?_
              refine g_as rfl rfl (gT ?_)
              refine g_nil (hK _ _ _ ?_)
              refine k_seq ?_
              refine w_ret ?_
              refine fin_wp (τ := []) rfl (by decide) ?_; rw [← Option.some.inj H]; simp only [Tryd.f3]; exact gF
            · have c23b : (mget h3 (rd h6 i_13)) = false := Bool.eq_false_iff.mpr c23; try simp only [c23b, nrm]
              refine g_fd rfl rfl fa31_1 rfl (gT ?_)
              refine g_ldc rfl rfl ag29 sz29 rfl rfl rfl (gT ?_)
              refine g_mv rfl rfl (gT ?_)
              obtain ⟨c24, H⟩ := it1 H
              refine g_ixo rfl rfl Tryd.underlying29 sz3 rfl rfl (by first | assumption | omega) (by first | assumption | omega | (simp only [List.length_set, List.length_replicate] at *; omega)) (gT ?_)
              refine g_ldo rfl rfl ag3 sz3 rfl rfl (by first | assumption | omega | (simp only [List.length_set, List.length_replicate] at *; omega)) (gT ?_)
              refine g_bin rfl rfl rfl rfl rfl (gT ?_)
              refine g_pick rfl rfl rfl (gT ?_)
              refine g_mv rfl rfl (gT ?_)
              rcases its H with ⟨c25, H⟩ | ⟨c25, H⟩
              · have c25b := decide_eq_true c25; try simp only [c25b, nrm]
                refine g_sk rfl rfl (gT ?_)
                refine g_sk rfl rfl (gT ?_)
                refine g_sk rfl rfl (gT ?_)
                refine g_sk rfl rfl (gT ?_)
                refine g_sk rfl rfl (gT ?_)
                refine g_sk rfl rfl (gT ?_)
                refine g_pick rfl rfl rfl (gT ?_)
                refine g_mv rfl rfl (gT ?_)
                refine g_sk rfl rfl (gT ?_)
                refine g_sk rfl rfl (gT ?_)
                refine g_sk rfl rfl (gT ?_)
                refine g_sk rfl rfl (gT ?_)
                refine g_sk rfl rfl (gT ?_)
                refine g_sk rfl rfl (gT ?_)
                refine g_sk rfl rfl (gT ?_)
                refine g_sk rfl rfl (gT ?_)
                refine g_sk rfl rfl (gT ?_)
                refine g_sk rfl rfl (gT ?_)
                refine g_sk rfl rfl (gT ?_)
                refine g_sk rfl rfl (gT ?_)
                refine g_sk rfl rfl (gT ?_)
                refine g_sk rfl rfl (gT ?_)
                refine g_sk rfl rfl (gT ?_)
                refine g_sk rfl rfl (gT ?_)
                refine g_sk rfl rfl (gT ?_)
                refine g_sk rfl rfl (gT ?_)
                refine g_pick rfl rfl rfl (gT ?_)
                refine g_nil (hK _ _ _ ?_)
                refine k_seq ?_
                refine w_cond rfl (fun _ => ?_) (fun h => Bool.noConfusion h)
                refine w_seq ?_
                refine wR fun K hK => ?_
                refine g_as rfl rfl (gT ?_)
                refine g_nil (hK _ _ _ ?_)
                refine k_seq ?_
                refine w_ret ?_
                refine fin_wp (τ := []) rfl (by decide) ?_; rw [← Option.some.inj H]; simp only [Tryd.f3]; exact gF
              · have c25b := decide_eq_false c25; try simp only [c25b, nrm]
                refine g_fd rfl rfl fa31_1 rfl (gT ?_)
                refine g_ldc rfl rfl ag29 sz29 rfl rfl rfl (gT ?_)
                refine g_mv rfl rfl (gT ?_)
                refine g_ixo rfl rfl Tryd.underlying29 sz3 rfl rfl (by first | assumption | omega) (by first | assumption | omega | (simp only [List.length_set, List.length_replicate] at *; omega)) (gT ?_)
                refine g_ldo rfl rfl ag3 sz3 rfl rfl (by first | assumption | omega | (simp only [List.length_set, List.length_replicate] at *; omega)) (gT ?_)
                refine g_bin rfl rfl rfl rfl rfl (gT ?_)
                refine g_pick rfl rfl rfl (gT ?_)
                refine g_mv rfl rfl (gT ?_)
                rcases its H with ⟨c26, H⟩ | ⟨c26, H⟩
                · have c26b := decide_eq_true c26; try simp only [c26b, nrm]
                  refine g_sk rfl rfl (gT ?_)
                  refine g_sk rfl rfl (gT ?_)
                  refine g_sk rfl rfl (gT ?_)
                  refine g_sk rfl rfl (gT ?_)
                  refine g_sk rfl rfl (gT ?_)
                  refine g_sk rfl rfl (gT ?_)
                  refine g_sk rfl rfl (gT ?_)
                  refine g_sk rfl rfl (gT ?_)
                  refine g_sk rfl rfl (gT ?_)
                  refine g_sk rfl rfl (gT ?_)
                  refine g_sk rfl rfl (gT ?_)
                  refine g_sk rfl rfl (gT ?_)
                  refine g_sk rfl rfl (gT ?_)
                  refine g_sk rfl rfl (gT ?_)
                  refine g_sk rfl rfl (gT ?_)
                  refine g_sk rfl rfl (gT ?_)
                  refine g_sk rfl rfl (gT ?_)
                  refine g_sk rfl rfl (gT ?_)
                  refine g_pick rfl rfl rfl (gT ?_)
                  refine g_nil (hK _ _ _ ?_)
                  refine k_seq ?_
                  refine w_cond rfl (fun _ => ?_) (fun h => Bool.noConfusion h)
                  refine w_seq ?_
                  refine wR fun K hK => ?_
                  refine g_as rfl rfl (gT ?_)
                  refine g_nil (hK _ _ _ ?_)
                  refine k_seq ?_
                  refine w_ret ?_
                  refine fin_wp (τ := []) rfl (by decide) ?_; rw [← Option.some.inj H]; simp only [Tryd.f3]; exact gF
                · have c26b := decide_eq_false c26; try simp only [c26b, nrm]
                  refine g_mv rfl rfl (gT ?_)
                  refine g_fd rfl rfl fa31_2 rfl (gT ?_)
                  refine g_ldc rfl rfl ag3 sz3 rfl rfl rfl (gT ?_)
                  refine g_bin rfl rfl rfl rfl rfl (gT ?_)
                  refine g_mv rfl rfl (gT ?_)
                  rcases its H with ⟨c27, H⟩ | ⟨c27, H⟩
                  · have c27b := decide_eq_true c27; try simp only [c27b, nrm]
                    refine g_sk rfl rfl (gT ?_)
                    refine g_sk rfl rfl (gT ?_)
                    refine g_sk rfl rfl (gT ?_)
                    refine g_sk rfl rfl (gT ?_)
                    refine g_pick rfl rfl rfl (gT ?_)
                    refine g_mv rfl rfl (gT ?_)
                    refine g_fd rfl rfl fa31_1 rfl (gT ?_)
                    refine g_ldc rfl rfl ag29 sz29 rfl rfl rfl (gT ?_)
                    refine g_mv rfl rfl (gT ?_)
                    refine g_ixo rfl rfl Tryd.underlying29 sz3 rfl rfl (by first | assumption | omega) (by first | assumption | omega | (simp only [List.length_set, List.length_replicate] at *; omega)) (gT ?_)
                    refine g_ldo rfl rfl ag3 sz3 rfl rfl (by first | assumption | omega | (simp only [List.length_set, List.length_replicate] at *; omega)) (gT ?_)
                    refine g_bin rfl rfl rfl rfl rfl (gT ?_)
                    refine g_pick rfl rfl rfl (gT ?_)
                    refine g_pick rfl rfl rfl (gT ?_)
                    refine g_nil (hK _ _ _ ?_)
                    refine k_seq ?_
                    rcases its H with ⟨c28, H⟩ | ⟨c28, H⟩
                    · have c28b := beq_iff_eq.mpr c28; have c28n := bne_eq_false_iff_eq.mpr c28; try simp only [c28b, c28n, nrm]
                      refine w_cond rfl (fun h => Bool.noConfusion h) (fun _ => ?_)
                      refine w_skip ?_
                      refine k_seq ?_
                      refine wR fun K hK => ?_
                      refine g_mv rfl rfl (gT ?_)
                      refine g_mv rfl rfl (gT ?_)
                      refine g_mu rfl rfl Tryd.underlying36 Tryd.underlying3 rfl rfl rfl rfl (gU ?_)
                      refine g_nil (hK _ _ _ ?_)
                      refine k_block ?_
                      refine k_seq ?_
                      refine wR fun K hK => ?_
                      refine g_mv rfl rfl (gT ?_)
                      refine g_bin rfl rfl rfl rfl rfl (gT ?_)
                      refine g_as rfl rfl (gT ?_)
                      refine g_nil (hK _ _ _ ?_)
                      refine k_loop ?_
                      refine w_wk (σ := [0, 1, 2, 3, 4, 5, 6, 7]) [0, 6, 1, 0, 1, 0] rfl (by decide) ?_; refine gC ?_
                      exact gI (ih1 n_0 (wrap64 (i_13 + 1)) h0_0 h0_1 h0_2 h1_0 h1_1 h1_2 h2_0 h2_1 (mput h3 (rd h6 i_13) true) h4 h5 h6 h7 r H)
                    · have c28b := beq_eq_false_iff_ne.mpr c28; have c28n := bne_iff_ne.mpr c28; try simp only [c28b, c28n, nrm]
                      refine w_cond rfl (fun _ => ?_) (fun h => Bool.noConfusion h)
                      refine w_seq ?_
                      refine wR fun K hK => ?_
                      refine g_as rfl rfl (gT ?_)
                      refine g_nil (hK _ _ _ ?_)
                      refine k_seq ?_
                      refine w_ret ?_
                      refine fin_wp (τ := []) rfl (by decide) ?_; rw [← Option.some.inj H]; simp only [Tryd.f3]; exact gF
                  · have c27b := decide_eq_false c27; try simp only [c27b, nrm]
                    refine g_mv rfl rfl (gT ?_)
                    refine g_fd rfl rfl fa31_3 rfl (gT ?_)
                    refine g_ldc rfl rfl ag3 sz3 rfl rfl rfl (gT ?_)
                    refine g_bin rfl rfl rfl rfl rfl (gT ?_)
                    refine g_pick rfl rfl rfl (gT ?_)
                    refine g_mv rfl rfl (gT ?_)
                    rcases its H with ⟨c29, H⟩ | ⟨c29, H⟩
                    · have c29b := decide_eq_true c29; try simp only [c29b, nrm]
                      refine g_fd rfl rfl fa31_1 rfl (gT ?_)
                      refine g_ldc rfl rfl ag29 sz29 rfl rfl rfl (gT ?_)
                      refine g_mv rfl rfl (gT ?_)
                      refine g_ixo rfl rfl Tryd.underlying29 sz3 rfl rfl (by first | assumption | omega) (by first | assumption | omega | (simp only [List.length_set, List.length_replicate] at *; omega)) (gT ?_)
                      refine g_ldo rfl rfl ag3 sz3 rfl rfl (by first | assumption | omega | (simp only [List.length_set, List.length_replicate] at *; omega)) (gT ?_)
                      refine g_bin rfl rfl rfl rfl rfl (gT ?_)
                      refine g_pick rfl rfl rfl (gT ?_)
                      refine g_pick rfl rfl rfl (gT ?_)
                      refine g_nil (hK _ _ _ ?_)
                      refine k_seq ?_
                      rcases its H with ⟨c30, H⟩ | ⟨c30, H⟩
                      · have c30b := beq_iff_eq.mpr c30; have c30n := bne_eq_false_iff_eq.mpr c30; try simp only [c30b, c30n, nrm]
                        refine w_cond rfl (fun h => Bool.noConfusion h) (fun _ => ?_)
                        refine w_skip ?_
                        refine k_seq ?_
                        refine wR fun K hK => ?_
                        refine g_mv rfl rfl (gT ?_)
                        refine g_mv rfl rfl (gT ?_)
                        refine g_mu rfl rfl Tryd.underlying36 Tryd.underlying3 rfl rfl rfl rfl (gU ?_)
                        refine g_nil (hK _ _ _ ?_)
                        refine k_block ?_
                        refine k_seq ?_
                        refine wR fun K hK => ?_
                        refine g_mv rfl rfl (gT ?_)
                        refine g_bin rfl rfl rfl rfl rfl (gT ?_)
                        refine g_as rfl rfl (gT ?_)
                        refine g_nil (hK _ _ _ ?_)
                        refine k_loop ?_
                        refine w_wk (σ := [0, 1, 2, 3, 4, 5, 6, 7]) [0, 6, 1, 0, 1, 0] rfl (by decide) ?_; refine gC ?_
                        exact gI (ih1 n_0 (wrap64 (i_13 + 1)) h0_0 h0_1 h0_2 h1_0 h1_1 h1_2 h2_0 h2_1 (mput h3 (rd h6 i_13) true) h4 h5 h6 h7 r H)
                      · have c30b := beq_eq_false_iff_ne.mpr c30; have c30n := bne_iff_ne.mpr c30; try simp only [c30b, c30n, nrm]
                        refine w_cond rfl (fun _ => ?_) (fun h => Bool.noConfusion h)
                        refine w_seq ?_
                        refine wR fun K hK => ?_
                        refine g_as rfl rfl (gT ?_)
                        refine g_nil (hK _ _ _ ?_)
                        refine k_seq ?_
                        refine w_ret ?_
                        refine fin_wp (τ := []) rfl (by decide) ?_; rw [← Option.some.inj H]; simp only [Tryd.f3]; exact gF
                    · have c29b := decide_eq_false c29; try simp only [c29b, nrm]
                      refine g_sk rfl rfl (gT ?_)
                      refine g_sk rfl rfl (gT ?_)
                      refine g_sk rfl rfl (gT ?_)
                      refine g_sk rfl rfl (gT ?_)
                      refine g_sk rfl rfl (gT ?_)
                      refine g_sk rfl rfl (gT ?_)
                      refine g_pick rfl rfl rfl (gT ?_)
                      refine g_pick rfl rfl rfl (gT ?_)
                      refine g_nil (hK _ _ _ ?_)
                      refine k_seq ?_
                      refine w_cond rfl (fun h => Bool.noConfusion h) (fun _ => ?_)
                      refine w_skip ?_
                      refine k_seq ?_
                      refine wR fun K hK => ?_
                      refine g_mv rfl rfl (gT ?_)
                      refine g_mv rfl rfl (gT ?_)
                      refine g_mu rfl rfl Tryd.underlying36 Tryd.underlying3 rfl rfl rfl rfl (gU ?_)
                      refine g_nil (hK _ _ _ ?_)
                      refine k_block ?_
                      refine k_seq ?_
                      refine wR fun K hK => ?_
                      refine g_mv rfl rfl (gT ?_)
                      refine g_bin rfl rfl rfl rfl rfl (gT ?_)
                      refine g_as rfl rfl (gT ?_)
                      refine g_nil (hK _ _ _ ?_)
                      refine k_loop ?_
                      refine w_wk (σ := [0, 1, 2, 3, 4, 5, 6, 7]) [0, 6, 1, 0, 1, 0] rfl (by decide) ?_; refine gC ?_
                      exact gI (ih1 n_0 (wrap64 (i_13 + 1)) h0_0 h0_1 h0_2 h1_0 h1_1 h1_2 h2_0 h2_1 (mput h3 (rd h6 i_13) true) h4 h5 h6 h7 r H)
      · have c18b := decide_eq_false c18; try simp only [c18b, nrm]
        refine w_cond rfl (fun h => Bool.noConfusion h) (fun _ => ?_)
        refine w_exit rfl ?_
        refine k_seq ?_
        refine w_seq ?_
        refine w_seq ?_
        refine wR fun K hK => ?_
        refine g_as rfl rfl (gT ?_)
        refine g_nil (hK _ _ _ ?_)
        refine k_seq ?_
        refine w_block ?_
        refine w_wk (σ := [0, 1, 2, 4, 5, 6, 7]) [0, 6, 1, 0, 4] rfl (by decide) ?_; refine gC ?_
        exact gI (ih2 n_0 0 h0_0 h0_1 h0_2 h1_0 h1_1 h1_2 h2_0 h2_1 h4 h5 h6 h7 r H)
    · intro n_0 i_15 h0_0 h0_1 h0_2 h1_0 h1_1 h1_2 h2_0 h2_1 h3 h4 h5 h6 r H
      unfold gimballaw16_BalSame.l1 at H
      simp only [bodyOf, Tryd.f3, frs, sub, if_true, if_false, Nat.one_ne_zero]
      refine w_loop ?_
      refine w_seq ?_
      refine w_seq ?_
      refine wR fun K hK => ?_
      refine g_mv rfl rfl (gT ?_)
      refine g_mv rfl rfl (gT ?_)
      refine g_bin rfl rfl rfl rfl rfl (gT ?_)
      refine g_nil (hK _ _ _ ?_)
      refine k_seq ?_
      rcases its H with ⟨c31, H⟩ | ⟨c31, H⟩
      · have c31b := decide_eq_true c31; try simp only [c31b, nrm]
        refine w_cond rfl (fun _ => ?_) (fun h => Bool.noConfusion h)
        refine w_skip ?_
        refine k_seq ?_
        refine w_seq ?_
        refine w_block ?_
        refine w_seq ?_
        refine wR fun K hK => ?_
        refine g_as rfl rfl (gT ?_)
        refine g_nil (hK _ _ _ ?_)
        refine k_seq ?_
        refine w_block ?_
        refine w_wk (σ := [0, 1, 2, 3, 4, 5, 6]) [0, 6, 1, 0, 4, 0] rfl (by decide) ?_; refine gC ?_
        exact gI (ih3 n_0 i_15 0 h0_0 h0_1 h0_2 h1_0 h1_1 h1_2 h2_0 h2_1 h3 h4 h5 h6 r H)
      · have c31b := decide_eq_false c31; try simp only [c31b, nrm]
        refine w_cond rfl (fun h => Bool.noConfusion h) (fun _ => ?_)
        refine w_exit rfl ?_
        refine k_seq ?_
        refine w_seq ?_
        refine wR fun K hK => ?_
        refine g_fd rfl rfl fa26_0 rfl (gT ?_)
        refine g_st rfl rfl sz3 rfl rfl rfl (by rfl) (Nat.le_of_ble_eq_true rfl) (gU ?_)
        refine g_nil (hK _ _ _ ?_)
        refine k_seq ?_
        refine w_seq ?_
        refine wR fun K hK => ?_
        refine g_lda rfl rfl ag26 sz26 rfl rfl (Nat.le_of_ble_eq_true rfl) (gT ?_)
        obtain ⟨q32, hq32, H⟩ := bnd H
        refine g_cs [] rfl rfl (by rfl) Tryd.func8 rfl (by decide) (bal_Of.does hq32) ⟨Nat.le_of_ble_eq_true rfl, Nat.le_of_ble_eq_true rfl⟩ ?_; refine gC ?_
        refine g_mv rfl rfl (gT ?_)
        refine g_ext rfl rfl rfl (Nat.le_of_ble_eq_true rfl) (gT ?_)
        refine g_ext rfl rfl rfl (Nat.le_of_ble_eq_true rfl) (gT ?_)
        refine g_ext rfl rfl rfl (Nat.le_of_ble_eq_true rfl) (gT ?_)
        refine g_alloc rfl rfl zr26 (gU ?_)
        refine g_alloc rfl rfl zr31 (gU ?_)
        refine g_st rfl rfl sz26 rfl rfl rfl (by rfl) (Nat.le_of_ble_eq_true rfl) (gU ?_)
        refine g_st rfl rfl sz31 rfl rfl rfl (by rfl) (Nat.le_of_ble_eq_true rfl) (gU ?_)
        refine g_as rfl rfl (gT ?_)
        refine g_nil (hK _ _ _ ?_)
        refine k_seq ?_
        refine w_seq ?_
        refine wR fun K hK => ?_
        obtain ⟨q33, hq33, H⟩ := bnd H
        refine g_cs [] rfl rfl (by rfl) Tryd.func18 rfl (by decide) (mat_New.does hq33) ⟨Nat.le_of_ble_eq_true rfl, Nat.le_of_ble_eq_true rfl⟩ ?_; refine gC ?_
        obtain ⟨q34, hq34, H⟩ := bnd H
        refine g_cs [] rfl rfl (by rfl) Tryd.func8 rfl (by decide) (bal_Of.does hq34) ⟨Nat.le_of_ble_eq_true rfl, Nat.le_of_ble_eq_true rfl⟩ ?_; refine gC ?_
        refine g_mv rfl rfl (gT ?_)
        refine g_ext rfl rfl rfl (Nat.le_of_ble_eq_true rfl) (gT ?_)
        refine g_ext rfl rfl rfl (Nat.le_of_ble_eq_true rfl) (gT ?_)
        refine g_ext rfl rfl rfl (Nat.le_of_ble_eq_true rfl) (gT ?_)
        refine g_alloc rfl rfl zr26 (gU ?_)
        refine g_alloc rfl rfl zr31 (gU ?_)
        refine g_st rfl rfl sz26 rfl rfl rfl (by rfl) (Nat.le_of_ble_eq_true rfl) (gU ?_)
        refine g_st rfl rfl sz31 rfl rfl rfl (by rfl) (Nat.le_of_ble_eq_true rfl) (gU ?_)
        refine g_as rfl rfl (gT ?_)
        refine g_nil (hK _ _ _ ?_)
        refine k_seq ?_
        refine w_seq ?_
        refine wR fun K hK => ?_
        refine g_mv rfl rfl (gT ?_)
        refine g_bin rfl rfl rfl rfl rfl (gT ?_)
        refine g_mv rfl rfl (gT ?_)
        rcases its H with ⟨c35, H⟩ | ⟨c35, H⟩
        · have c35b := beq_iff_eq.mpr c35; have c35n := bne_eq_false_iff_eq.mpr c35; try simp only [c35b, c35n, nrm]
          refine g_mv rfl rfl (gT ?_)
          refine g_bin rfl rfl rfl rfl rfl (gT ?_)
          refine g_pick rfl rfl rfl (gT ?_)
          refine g_as rfl rfl (gT ?_)
          refine g_nil (hK _ _ _ ?_)
          refine k_seq ?_
          refine w_ret ?_
          refine fin_wp (τ := []) rfl (by decide) ?_; rw [← Option.some.inj H]; simp only [Tryd.f3]; exact gF
        · have c35b := beq_eq_false_iff_ne.mpr c35; have c35n := bne_iff_ne.mpr c35; try simp only [c35b, c35n, nrm]
          refine g_sk rfl rfl (gT ?_)
          refine g_sk rfl rfl (gT ?_)
          refine g_pick rfl rfl rfl (gT ?_)
          refine g_as rfl rfl (gT ?_)
          refine g_nil (hK _ _ _ ?_)
          refine k_seq ?_
          refine w_ret ?_
          refine fin_wp (τ := []) rfl (by decide) ?_; rw [← Option.some.inj H]; simp only [Tryd.f3]; exact gF
    · intro n_0 i_15 k_16 h0_0 h0_1 h0_2 h1_0 h1_1 h1_2 h2_0 h2_1 h3 h4 h5 h6 r H
      unfold gimballaw16_BalSame.l2 at H
      simp only [bodyOf, Tryd.f3, frs, sub, if_true, if_false, Nat.one_ne_zero]
      refine w_loop ?_
      refine w_seq ?_
      refine w_seq ?_
      refine wR fun K hK => ?_
      refine g_mv rfl rfl (gT ?_)
      refine g_mv rfl rfl (gT ?_)
      refine g_bin rfl rfl rfl rfl rfl (gT ?_)
      refine g_nil (hK _ _ _ ?_)
      refine k_seq ?_
      rcases its H with ⟨c36, H⟩ | ⟨c36, H⟩
      · have c36b := decide_eq_true c36; try simp only [c36b, nrm]
        refine w_cond rfl (fun _ => ?_) (fun h => Bool.noConfusion h)
        refine w_skip ?_
        refine k_seq ?_
        refine w_seq ?_
        refine w_block ?_
        refine w_seq ?_
        refine wD fun K hK => ?_
        refine g_lda rfl rfl ag26 sz26 rfl rfl (Nat.le_of_ble_eq_true rfl) (gT ?_)
        refine g_fd rfl rfl fa31_0 rfl (gT ?_)
        refine g_ldc rfl rfl ag29 sz29 rfl rfl rfl (gT ?_)
        refine g_mv rfl rfl (gT ?_)
        obtain ⟨c37, H⟩ := it1 H
        obtain ⟨c38, H⟩ := it1 H
        refine g_ixo rfl rfl Tryd.underlying29 sz3 rfl rfl (by first | assumption | omega) (by first | assumption | omega | (simp only [List.length_set, List.length_replicate] at *; omega)) (gT ?_)
        refine g_ldo rfl rfl ag3 sz3 rfl rfl (by first | assumption | omega | (simp only [List.length_set, List.length_replicate] at *; omega)) (gT ?_)
        refine g_fd rfl rfl fa31_0 rfl (gT ?_)
        refine g_ldc rfl rfl ag29 sz29 rfl rfl rfl (gT ?_)
        refine g_mv rfl rfl (gT ?_)
        obtain ⟨c39, H⟩ := it1 H
        obtain ⟨c40, H⟩ := it1 H
        refine g_ixo rfl rfl Tryd.underlying29 sz3 rfl rfl (by first | assumption | omega) (by first | assumption | omega | (simp only [List.length_set, List.length_replicate] at *; omega)) (gT ?_)
        refine g_ldo rfl rfl ag3 sz3 rfl rfl (by first | assumption | omega | (simp only [List.length_set, List.length_replicate] at *; omega)) (gT ?_)
        obtain ⟨q41, hq41, H⟩ := bnd H
        refine g_cs [] rfl rfl (by rfl) Tryd.func12 rfl (by decide) (mat_Matrix_At.does hq41) ⟨Nat.le_of_ble_eq_true rfl, Nat.le_of_ble_eq_true rfl⟩ ?_; refine gC ?_
        obtain ⟨q42, hq42, H⟩ := bnd H
        refine g_cs [] rfl rfl (by rfl) Tryd.func11 rfl (by decide) (gimballaw16_exact.does hq42) ⟨Nat.le_of_ble_eq_true rfl, Nat.le_of_ble_eq_true rfl⟩ ?_; refine gC ?_
        refine g_alloc rfl rfl zr39 (gU ?_)
        refine g_st rfl rfl sz39 rfl rfl rfl (by rfl) (Nat.le_of_ble_eq_true rfl) (gU ?_)
        refine g_nil (hK _ _ _ (by kernel_rfl) ?_)
        refine k_seq ?_
        refine w_seq ?_
        refine w_seq ?_
        refine wD fun K hK => ?_
        refine g_lda rfl rfl ag26 sz26 rfl rfl (Nat.le_of_ble_eq_true rfl) (gT ?_)
        refine g_mv rfl rfl (gT ?_)
        refine g_mv rfl rfl (gT ?_)
        obtain ⟨q43, hq43, H⟩ := bnd H
        refine g_cs [] rfl rfl (by rfl) Tryd.func12 rfl (by decide) (mat_Matrix_At.does hq43) ⟨Nat.le_of_ble_eq_true rfl, Nat.le_of_ble_eq_true rfl⟩ ?_; refine gC ?_
        obtain ⟨q44, hq44, H⟩ := bnd H
        refine g_cs [] rfl rfl (by rfl) Tryd.func13 rfl (by decide) (word_Finite.does hq44) ⟨Nat.le_of_ble_eq_true rfl, Nat.le_of_ble_eq_true rfl⟩ ?_; refine gC ?_
        refine g_un rfl rfl rfl rfl (gT ?_)
        refine g_mv rfl rfl (gT ?_)
        rcases its H with ⟨c45, H⟩ | ⟨c45, H⟩
        · have c45b : q44 = true := c45; try simp only [c45b, nrm]
          refine g_lda rfl rfl ag26 sz26 rfl rfl (Nat.le_of_ble_eq_true rfl) (gT ?_)
          refine g_mv rfl rfl (gT ?_)
          refine g_mv rfl rfl (gT ?_)
          obtain ⟨q46, hq46, H⟩ := bnd H
          refine g_cs [] rfl rfl (by rfl) Tryd.func12 rfl (by decide) (mat_Matrix_At.does hq46) ⟨Nat.le_of_ble_eq_true rfl, Nat.le_of_ble_eq_true rfl⟩ ?_; refine gC ?_
          obtain ⟨q47, hq47, H⟩ := bnd H
          refine g_cs [] rfl rfl (by rfl) Tryd.func11 rfl (by decide) (gimballaw16_exact.does hq47) ⟨Nat.le_of_ble_eq_true rfl, Nat.le_of_ble_eq_true rfl⟩ ?_; refine gC ?_
          refine g_lda rfl rfl ag39 sz39 rfl rfl (Nat.le_of_ble_eq_true rfl) (gT ?_)
          refine g_fd rfl rfl fa31_1 rfl (gT ?_)
          refine g_ldc rfl rfl ag29 sz29 rfl rfl rfl (gT ?_)
          refine g_mv rfl rfl (gT ?_)
          obtain ⟨c48, H⟩ := it1 H
          refine g_ixo rfl rfl Tryd.underlying29 sz3 rfl rfl (by first | assumption | omega) (by first | assumption | omega | (simp only [List.length_set, List.length_replicate] at *; omega)) (gT ?_)
          refine g_ldo rfl rfl ag3 sz3 rfl rfl (by first | assumption | omega | (simp only [List.length_set, List.length_replicate] at *; omega)) (gT ?_)
          refine g_fd rfl rfl fa31_1 rfl (gT ?_)
          refine g_ldc rfl rfl ag29 sz29 rfl rfl rfl (gT ?_)
          refine g_mv rfl rfl (gT ?_)
          obtain ⟨c49, H⟩ := it1 H
          refine g_ixo rfl rfl Tryd.underlying29 sz3 rfl rfl (by first | assumption | omega) (by first | assumption | omega | (simp only [List.length_set, List.length_replicate] at *; omega)) (gT ?_)
          refine g_ldo rfl rfl ag3 sz3 rfl rfl (by first | assumption | omega | (simp only [List.length_set, List.length_replicate] at *; omega)) (gT ?_)
          refine g_bin rfl rfl rfl rfl rfl (gT ?_)
          obtain ⟨q50, hq50, H⟩ := bnd H
          refine g_cs [] rfl rfl (by rfl) Tryd.func16 rfl (by decide) (dyad_Two.does hq50) ⟨Nat.le_of_ble_eq_true rfl, Nat.le_of_ble_eq_true rfl⟩ ?_; refine gC ?_
          obtain ⟨q51, hq51, H⟩ := bnd H
          refine g_cs [] rfl rfl (by rfl) Tryd.func15 rfl (by decide) (dyad_Num_Mul.does hq51) ⟨Nat.le_of_ble_eq_true rfl, Nat.le_of_ble_eq_true rfl⟩ ?_; refine gC ?_
          obtain ⟨q52, hq52, H⟩ := bnd H
          refine g_cs [] rfl rfl (by rfl) Tryd.func14 rfl (by decide) (dyad_Num_Same.does hq52) ⟨Nat.le_of_ble_eq_true rfl, Nat.le_of_ble_eq_true rfl⟩ ?_; refine gC ?_
          refine g_un rfl rfl rfl rfl (gT ?_)
          refine g_pick rfl rfl rfl (gT ?_)
          refine g_nil (hK _ _ _ (by kernel_rfl) ?_)
          refine k_wk (σ := [0, 1, 2, 3, 4, 5, 6]) [0, 6, 1, 0, 4, 0, 193] rfl (by decide) rfl ?_; refine gC ?_
          exact gI (ih4 n_0 i_15 k_16 (!q52) h0_0 h0_1 h0_2 h1_0 h1_1 h1_2 h2_0 h2_1 h3 h4 h5 h6 r H)
        · have c45b : q44 = false := Bool.eq_false_iff.mpr c45; try simp only [c45b, nrm]
          refine g_sk rfl rfl (gT ?_)
          refine g_sk rfl rfl (gT ?_)
          refine g_sk rfl rfl (gT ?_)
          refine g_sk rfl rfl (gT ?_)
          refine g_sk rfl rfl (gT ?_)
          refine g_sk rfl rfl (gT ?_)
          refine g_sk rfl rfl (gT ?_)
          refine g_sk rfl rfl (gT ?_)
          refine g_sk rfl rfl (gT ?_)
          refine g_sk rfl rfl (gT ?_)
          refine g_sk rfl rfl (gT ?_)
          refine g_sk rfl rfl (gT ?_)
          refine g_sk rfl rfl (gT ?_)
          refine g_sk rfl rfl (gT ?_)
          refine g_sk rfl rfl (gT ?_)
          refine g_sk rfl rfl (gT ?_)
          refine g_sk rfl rfl (gT ?_)
          refine g_sk rfl rfl (gT ?_)
          refine g_sk rfl rfl (gT ?_)
          refine g_sk rfl rfl (gT ?_)
          refine g_sk rfl rfl (gT ?_)
          refine g_pick rfl rfl rfl (gT ?_)
          refine g_nil (hK _ _ _ (by kernel_rfl) ?_)
          refine k_wk (σ := [0, 1, 2, 3, 4, 5, 6]) [0, 6, 1, 0, 4, 0, 193] rfl (by decide) rfl ?_; refine gC ?_
          exact gI (ih4 n_0 i_15 k_16 true h0_0 h0_1 h0_2 h1_0 h1_1 h1_2 h2_0 h2_1 h3 h4 h5 h6 r H)
      · have c36b := decide_eq_false c36; try simp only [c36b, nrm]
        refine w_cond rfl (fun h => Bool.noConfusion h) (fun _ => ?_)
        refine w_exit rfl ?_
        refine k_block ?_
        refine k_seq ?_
        refine wR fun K hK => ?_
        refine g_mv rfl rfl (gT ?_)
        refine g_bin rfl rfl rfl rfl rfl (gT ?_)
        refine g_as rfl rfl (gT ?_)
        refine g_nil (hK _ _ _ ?_)
        refine k_loop ?_
        refine w_wk (σ := [0, 1, 2, 3, 4, 5, 6]) [0, 6, 1, 0, 4] rfl (by decide) ?_; refine gC ?_
        exact gI (ih2 n_0 (wrap64 (i_15 + 1)) h0_0 h0_1 h0_2 h1_0 h1_1 h1_2 h2_0 h2_1 h3 h4 h5 h6 r H)
    · intro n_0 i_15 k_16 t_210 h0_0 h0_1 h0_2 h1_0 h1_1 h1_2 h2_0 h2_1 h3 h4 h5 h6 r H
      unfold gimballaw16_BalSame.j4 at H
      simp only [bodyOf, Tryd.f3, frs, sub, if_true, if_false, Nat.one_ne_zero]
      refine k_seq ?_
      rcases its H with ⟨c53, H⟩ | ⟨c53, H⟩
      · have c53b : t_210 = true := c53; try simp only [c53b, nrm]
        refine w_cond rfl (fun _ => ?_) (fun h => Bool.noConfusion h)
        refine w_seq ?_
        refine wR fun K hK => ?_
        refine g_as rfl rfl (gT ?_)
        refine g_nil (hK _ _ _ ?_)
        refine k_seq ?_
        refine w_ret ?_
        refine fin_wp (τ := []) rfl (by decide) ?_; rw [← Option.some.inj H]; simp only [Tryd.f3]; exact gF
      · have c53b : t_210 = false := Bool.eq_false_iff.mpr c53; try simp only [c53b, nrm]
        refine w_cond rfl (fun h => Bool.noConfusion h) (fun _ => ?_)
        refine w_skip ?_
        refine k_seq ?_
        refine w_seq ?_
        refine wR fun K hK => ?_
        refine g_lda rfl rfl ag26 sz26 rfl rfl (Nat.le_of_ble_eq_true rfl) (gT ?_)
        refine g_mv rfl rfl (gT ?_)
        refine g_mv rfl rfl (gT ?_)
        obtain ⟨q54, hq54, H⟩ := bnd H
        refine g_cs [] rfl rfl (by rfl) Tryd.func12 rfl (by decide) (mat_Matrix_At.does hq54) ⟨Nat.le_of_ble_eq_true rfl, Nat.le_of_ble_eq_true rfl⟩ ?_; refine gC ?_
        obtain ⟨q55, hq55, H⟩ := bnd H
        refine g_cs [] rfl rfl (by rfl) Tryd.func17 rfl (by decide) (word_Abs.does hq55) ⟨Nat.le_of_ble_eq_true rfl, Nat.le_of_ble_eq_true rfl⟩ ?_; refine gC ?_
        refine g_bin rfl rfl rfl rfl rfl (gT ?_)
        refine g_mv rfl rfl (gT ?_)
        rcases its H with ⟨c56, H⟩ | ⟨c56, H⟩
        · have c56b := beq_iff_eq.mpr c56; have c56n := bne_eq_false_iff_eq.mpr c56; try simp only [c56b, c56n, nrm]
          refine g_sk rfl rfl (gT ?_)
          refine g_sk rfl rfl (gT ?_)
          refine g_sk rfl rfl (gT ?_)
          refine g_sk rfl rfl (gT ?_)
          refine g_sk rfl rfl (gT ?_)
          refine g_sk rfl rfl (gT ?_)
          refine g_sk rfl rfl (gT ?_)
          refine g_sk rfl rfl (gT ?_)
          refine g_sk rfl rfl (gT ?_)
          refine g_sk rfl rfl (gT ?_)
          refine g_sk rfl rfl (gT ?_)
          refine g_sk rfl rfl (gT ?_)
          refine g_sk rfl rfl (gT ?_)
          refine g_sk rfl rfl (gT ?_)
          refine g_sk rfl rfl (gT ?_)
          refine g_sk rfl rfl (gT ?_)
          refine g_sk rfl rfl (gT ?_)
          refine g_sk rfl rfl (gT ?_)
          refine g_sk rfl rfl (gT ?_)
          refine g_sk rfl rfl (gT ?_)
          refine g_pick rfl rfl rfl (gT ?_)
          refine g_nil (hK _ _ _ ?_)
          refine k_seq ?_
          refine w_cond rfl (fun h => Bool.noConfusion h) (fun _ => ?_)
          refine w_skip ?_
          refine k_block ?_
          refine k_seq ?_
          refine wR fun K hK => ?_
          refine g_mv rfl rfl (gT ?_)
          refine g_bin rfl rfl rfl rfl rfl (gT ?_)
          refine g_as rfl rfl (gT ?_)
          refine g_nil (hK _ _ _ ?_)
          refine k_loop ?_
          refine w_wk (σ := [0, 1, 2, 3, 4, 5, 6]) [0, 6, 1, 0, 4, 0] rfl (by decide) ?_; refine gC ?_
          exact gI (ih3 n_0 i_15 (wrap64 (k_16 + 1)) h0_0 h0_1 h0_2 h1_0 h1_1 h1_2 h2_0 h2_1 h3 h4 h5 h6 r H)
        · have c56b := beq_eq_false_iff_ne.mpr c56; have c56n := bne_iff_ne.mpr c56; try simp only [c56b, c56n, nrm]
          refine g_mv rfl rfl (gT ?_)
          refine g_fd rfl rfl fa31_3 rfl (gT ?_)
          refine g_ldc rfl rfl ag3 sz3 rfl rfl rfl (gT ?_)
          refine g_bin rfl rfl rfl rfl rfl (gT ?_)
          refine g_mv rfl rfl (gT ?_)
          rcases its H with ⟨c57, H⟩ | ⟨c57, H⟩
          · have c57b := decide_eq_true c57; try simp only [c57b, nrm]
            refine g_mv rfl rfl (gT ?_)
            refine g_mv rfl rfl (gT ?_)
            refine g_bin rfl rfl rfl rfl rfl (gT ?_)
            refine g_pick rfl rfl rfl (gT ?_)
            refine g_mv rfl rfl (gT ?_)
            rcases its H with ⟨c58, H⟩ | ⟨c58, H⟩
            · have c58b := decide_eq_true c58; try simp only [c58b, nrm]
              refine g_sk rfl rfl (gT ?_)
              refine g_sk rfl rfl (gT ?_)
              refine g_sk rfl rfl (gT ?_)
              refine g_sk rfl rfl (gT ?_)
              refine g_sk rfl rfl (gT ?_)
              refine g_sk rfl rfl (gT ?_)
              refine g_sk rfl rfl (gT ?_)
              refine g_sk rfl rfl (gT ?_)
              refine g_sk rfl rfl (gT ?_)
              refine g_pick rfl rfl rfl (gT ?_)
              refine g_pick rfl rfl rfl (gT ?_)
              refine g_nil (hK _ _ _ ?_)
              refine k_seq ?_
              refine w_cond rfl (fun _ => ?_) (fun h => Bool.noConfusion h)
              refine w_seq ?_
              refine wR fun K hK => ?_
              refine g_as rfl rfl (gT ?_)
              refine g_nil (hK _ _ _ ?_)
              refine k_seq ?_
              refine w_ret ?_
              refine fin_wp (τ := []) rfl (by decide) ?_; rw [← Option.some.inj H]; simp only [Tryd.f3]; exact gF
            · have c58b := decide_eq_false c58; try simp only [c58b, nrm]
              refine g_mv rfl rfl (gT ?_)
              refine g_fd rfl rfl fa31_2 rfl (gT ?_)
              refine g_ldc rfl rfl ag3 sz3 rfl rfl rfl (gT ?_)
              refine g_bin rfl rfl rfl rfl rfl (gT ?_)
              refine g_mv rfl rfl (gT ?_)
              rcases its H with ⟨c59, H⟩ | ⟨c59, H⟩
              · have c59b := decide_eq_true c59; try simp only [c59b, nrm]
                refine g_mv rfl rfl (gT ?_)
                refine g_mv rfl rfl (gT ?_)
                refine g_bin rfl rfl rfl rfl rfl (gT ?_)
                refine g_pick rfl rfl rfl (gT ?_)
                refine g_pick rfl rfl rfl (gT ?_)
                refine g_pick rfl rfl rfl (gT ?_)
                refine g_nil (hK _ _ _ ?_)
                refine k_seq ?_
                rcases its H with ⟨c60, H⟩ | ⟨c60, H⟩
                · have c60b := decide_eq_true c60; try simp only [c60b, nrm]
                  refine w_cond rfl (fun _ => ?_) (fun h => Bool.noConfusion h)
                  refine w_seq ?_
                  refine wR fun K hK => ?_
                  refine g_as rfl rfl (gT ?_)
                  refine g_nil (hK _ _ _ ?_)
                  refine k_seq ?_
                  refine w_ret ?_
                  refine fin_wp (τ := []) rfl (by decide) ?_; rw [← Option.some.inj H]; simp only [Tryd.f3]; exact gF
                · have c60b := decide_eq_false c60; try simp only [c60b, nrm]
                  refine w_cond rfl (fun h => Bool.noConfusion h) (fun _ => ?_)
                  refine w_skip ?_
                  refine k_block ?_
                  refine k_seq ?_
                  refine wR fun K hK => ?_
                  refine g_mv rfl rfl (gT ?_)
                  refine g_bin rfl rfl rfl rfl rfl (gT ?_)
                  refine g_as rfl rfl (gT ?_)
                  refine g_nil (hK _ _ _ ?_)
                  refine k_loop ?_
                  refine w_wk (σ := [0, 1, 2, 3, 4, 5, 6]) [0, 6, 1, 0, 4, 0] rfl (by decide) ?_; refine gC ?_
                  exact gI (ih3 n_0 i_15 (wrap64 (k_16 + 1)) h0_0 h0_1 h0_2 h1_0 h1_1 h1_2 h2_0 h2_1 h3 h4 h5 h6 r H)
              · have c59b := decide_eq_false c59; try simp only [c59b, nrm]
                refine g_sk rfl rfl (gT ?_)
                refine g_sk rfl rfl (gT ?_)
                refine g_sk rfl rfl (gT ?_)
                refine g_pick rfl rfl rfl (gT ?_)
                refine g_pick rfl rfl rfl (gT ?_)
                refine g_pick rfl rfl rfl (gT ?_)
                refine g_nil (hK _ _ _ ?_)
                refine k_seq ?_
                refine w_cond rfl (fun h => Bool.noConfusion h) (fun _ => ?_)
                refine w_skip ?_
                refine k_block ?_
                refine k_seq ?_
                refine wR fun K hK => ?_
                refine g_mv rfl rfl (gT ?_)
                refine g_bin rfl rfl rfl rfl rfl (gT ?_)
                refine g_as rfl rfl (gT ?_)
                refine g_nil (hK _ _ _ ?_)
                refine k_loop ?_
                refine w_wk (σ := [0, 1, 2, 3, 4, 5, 6]) [0, 6, 1, 0, 4, 0] rfl (by decide) ?_; refine gC ?_
                exact gI (ih3 n_0 i_15 (wrap64 (k_16 + 1)) h0_0 h0_1 h0_2 h1_0 h1_1 h1_2 h2_0 h2_1 h3 h4 h5 h6 r H)
          · have c57b := decide_eq_false c57; try simp only [c57b, nrm]
            refine g_sk rfl rfl (gT ?_)
            refine g_sk rfl rfl (gT ?_)
            refine g_sk rfl rfl (gT ?_)
            refine g_pick rfl rfl rfl (gT ?_)
            refine g_mv rfl rfl (gT ?_)
            refine g_mv rfl rfl (gT ?_)
            refine g_fd rfl rfl fa31_2 rfl (gT ?_)
            refine g_ldc rfl rfl ag3 sz3 rfl rfl rfl (gT ?_)
            refine g_bin rfl rfl rfl rfl rfl (gT ?_)
            refine g_mv rfl rfl (gT ?_)
            rcases its H with ⟨c61, H⟩ | ⟨c61, H⟩
            · have c61b := decide_eq_true c61; try simp only [c61b, nrm]
              refine g_mv rfl rfl (gT ?_)
              refine g_mv rfl rfl (gT ?_)
              refine g_bin rfl rfl rfl rfl rfl (gT ?_)
              refine g_pick rfl rfl rfl (gT ?_)
              refine g_pick rfl rfl rfl (gT ?_)
              refine g_pick rfl rfl rfl (gT ?_)
              refine g_nil (hK _ _ _ ?_)
              refine k_seq ?_
              rcases its H with ⟨c62, H⟩ | ⟨c62, H⟩
              · have c62b := decide_eq_true c62; try simp only [c62b, nrm]
                refine w_cond rfl (fun _ => ?_) (fun h => Bool.noConfusion h)
                refine w_seq ?_
                refine wR fun K hK => ?_
                refine g_as rfl rfl (gT ?_)
                refine g_nil (hK _ _ _ ?_)
                refine k_seq ?_
                refine w_ret ?_
                refine fin_wp (τ := []) rfl (by decide) ?_; rw [← Option.some.inj H]; simp only [Tryd.f3]; exact gF
              · have c62b := decide_eq_false c62; try simp only [c62b, nrm]
                refine w_cond rfl (fun h => Bool.noConfusion h) (fun _ => ?_)
                refine w_skip ?_
                refine k_block ?_
                refine k_seq ?_
                refine wR fun K hK => ?_
                refine g_mv rfl rfl (gT ?_)
                refine g_bin rfl rfl rfl rfl rfl (gT ?_)
                refine g_as rfl rfl (gT ?_)
                refine g_nil (hK _ _ _ ?_)
                refine k_loop ?_
                refine w_wk (σ := [0, 1, 2, 3, 4, 5, 6]) [0, 6, 1, 0, 4, 0] rfl (by decide) ?_; refine gC ?_
                exact gI (ih3 n_0 i_15 (wrap64 (k_16 + 1)) h0_0 h0_1 h0_2 h1_0 h1_1 h1_2 h2_0 h2_1 h3 h4 h5 h6 r H)
            · have c61b := decide_eq_false c61; try simp only [c61b, nrm]
              refine g_sk rfl rfl (gT ?_)
              refine g_sk rfl rfl (gT ?_)
              refine g_sk rfl rfl (gT ?_)
              refine g_pick rfl rfl rfl (gT ?_)
              refine g_pick rfl rfl rfl (gT ?_)
              refine g_pick rfl rfl rfl (gT ?_)
              refine g_nil (hK _ _ _ ?_)
              refine k_seq ?_
              refine w_cond rfl (fun h => Bool.noConfusion h) (fun _ => ?_)
              refine w_skip ?_
              refine k_block ?_
              refine k_seq ?_
              refine wR fun K hK => ?_
              refine g_mv rfl rfl (gT ?_)
              refine g_bin rfl rfl rfl rfl rfl (gT ?_)
              refine g_as rfl rfl (gT ?_)
              refine g_nil (hK _ _ _ ?_)
              refine k_loop ?_
              refine w_wk (σ := [0, 1, 2, 3, 4, 5, 6]) [0, 6, 1, 0, 4, 0] rfl (by decide) ?_; refine gC ?_
              exact gI (ih3 n_0 i_15 (wrap64 (k_16 + 1)) h0_0 h0_1 h0_2 h1_0 h1_1 h1_2 h2_0 h2_1 h3 h4 h5 h6 r H)
set_option maxHeartbeats 8000000 in
set_option maxRecDepth 100000 in
theorem gimballaw16_BalSame.does {k : Nat} {a0 : Int} {l1 : List Int} {a2 : Int} {r : Bool} (H : gimballaw16_BalSame.f k a0 l1 a2 = some r) : Do E0 (.fn 3 [.i .i64 a0, .r (l1.map (V.i .u64)) l1.length true, .i .u64 a2] [] (.b r) []) := by
  obtain ⟨ih0, ih1, ih2, ih3, ih4⟩ := gimballaw16_BalSame.does_l (a0 := a0) (l1 := l1) (a2 := a2) k
  refine fn_wpl Tryd.func3 rfl (Q := (gimballaw16_BalSame.Q a0 l1 a2 r)) (fun s h => h) ?_
  unfold gimballaw16_BalSame.f at H
  simp only [Tryd.ntmps3, List.length, List.replicate, Nat.reduceAdd, Nat.reduceSub, List.cons_append, List.nil_append]
  refine w_seq ?_
  refine wR fun K hK => ?_
  refine g_as rfl rfl (gT ?_)
  refine g_nil (hK _ _ _ ?_)
  refine k_seq ?_
  refine w_seq ?_
  refine w_seq ?_
  refine wR fun K hK => ?_
  obtain ⟨q1, hq1, H⟩ := bnd H
  refine g_cs [] rfl rfl (by rfl) Tryd.func5 rfl (by decide) (gimballaw16_head_ok.does hq1) ⟨Nat.le_of_ble_eq_true rfl, Nat.le_of_ble_eq_true rfl⟩ ?_; refine gC ?_
  refine g_un rfl rfl rfl rfl (gT ?_)
  refine g_nil (hK _ _ _ ?_)
  refine k_seq ?_
  refine w_cond rfl (fun h => Bool.noConfusion h) (fun _ => ?_)
  refine w_skip ?_
  refine k_seq ?_
  refine w_seq ?_
  refine w_seq ?_
  refine wR fun K hK => ?_
  refine g_mv rfl rfl (gT ?_)
  refine g_len_r rfl rfl Tryd.underlying22 rfl (gT ?_)
  refine g_bin rfl rfl rfl rfl rfl (gT ?_)
  refine g_nil (hK _ _ _ ?_)
  refine k_seq ?_
  rcases its H with ⟨c2, H⟩ | ⟨c2, H⟩
  · have c2b := decide_eq_true c2; try simp only [c2b, nrm]
    refine w_cond rfl (fun _ => ?_) (fun h => Bool.noConfusion h)
    refine w_seq ?_
    refine wR fun K hK => ?_
    refine g_as rfl rfl (gT ?_)
    refine g_nil (hK _ _ _ ?_)
    refine k_seq ?_
    refine w_ret ?_
    refine fin_wp (τ := []) rfl (by decide) ?_; rw [← Option.some.inj H]; simp only [Tryd.f3]; exact gF
  · have c2b := decide_eq_false c2; try simp only [c2b, nrm]
    refine w_cond rfl (fun h => Bool.noConfusion h) (fun _ => ?_)
    refine w_skip ?_
    refine k_seq ?_
    refine w_seq ?_
    refine wR fun K hK => ?_
    refine g_mv rfl rfl (gT ?_)
    refine g_bin rfl rfl rfl rfl rfl (gT ?_)
    refine g_as rfl rfl (gT ?_)
    refine g_nil (hK _ _ _ ?_)
    refine k_seq ?_
    refine w_seq ?_
    refine wR fun K hK => ?_
    refine g_mv rfl rfl (gT ?_)
    refine g_mv rfl rfl (gT ?_)
    refine g_mv rfl rfl (gT ?_)
    obtain ⟨q3, hq3, H⟩ := bnd H
    refine g_cs [] rfl rfl (by rfl) Tryd.func6 rfl (by decide) (gimballaw16_made.does hq3) ⟨Nat.le_of_ble_eq_true rfl, Nat.le_of_ble_eq_true rfl⟩ ?_; refine gC ?_
    refine g_alloc rfl rfl zr26 (gU ?_)
    refine g_st rfl rfl sz26 rfl rfl rfl (by rfl) (Nat.le_of_ble_eq_true rfl) (gU ?_)
    refine g_nil (hK _ _ _ ?_)
    refine k_seq ?_
    refine w_seq ?_
    refine wR fun K hK => ?_
    refine g_lda rfl rfl ag26 sz26 rfl rfl (Nat.le_of_ble_eq_true rfl) (gT ?_)
    obtain ⟨q4, hq4, H⟩ := bnd H
    refine g_cs [] rfl rfl (by rfl) Tryd.func7 rfl (by decide) (mat_Matrix_Clone.does hq4) ⟨Nat.le_of_ble_eq_true rfl, Nat.le_of_ble_eq_true rfl⟩ ?_; refine gC ?_
    refine g_alloc rfl rfl zr26 (gU ?_)
    refine g_st rfl rfl sz26 rfl rfl rfl (by rfl) (Nat.le_of_ble_eq_true rfl) (gU ?_)
    refine g_nil (hK _ _ _ ?_)
    refine k_seq ?_
    refine w_seq ?_
    refine wR fun K hK => ?_
    refine g_lda rfl rfl ag26 sz26 rfl rfl (Nat.le_of_ble_eq_true rfl) (gT ?_)
    obtain ⟨q5, hq5, H⟩ := bnd H
    refine g_cs [] rfl rfl (by rfl) Tryd.func8 rfl (by decide) (bal_Of.does hq5) ⟨Nat.le_of_ble_eq_true rfl, Nat.le_of_ble_eq_true rfl⟩ ?_; refine gC ?_
    refine g_mv rfl rfl (gT ?_)
    refine g_ext rfl rfl rfl (Nat.le_of_ble_eq_true rfl) (gT ?_)
    refine g_ext rfl rfl rfl (Nat.le_of_ble_eq_true rfl) (gT ?_)
    refine g_ext rfl rfl rfl (Nat.le_of_ble_eq_true rfl) (gT ?_)
    refine g_alloc rfl rfl zr26 (gU ?_)
    refine g_alloc rfl rfl zr31 (gU ?_)
    refine g_st rfl rfl sz26 rfl rfl rfl (by rfl) (Nat.le_of_ble_eq_true rfl) (gU ?_)
    refine g_st rfl rfl sz31 rfl rfl rfl (by rfl) (Nat.le_of_ble_eq_true rfl) (gU ?_)
    refine g_as rfl rfl (gT ?_)
    refine g_nil (hK _ _ _ ?_)
    refine k_seq ?_
    refine w_seq ?_
    refine w_seq ?_
    refine wR fun K hK => ?_
    refine g_lda rfl rfl ag26 sz26 rfl rfl (Nat.le_of_ble_eq_true rfl) (gT ?_)
    refine g_lda rfl rfl ag26 sz26 rfl rfl (Nat.le_of_ble_eq_true rfl) (gT ?_)
    obtain ⟨q6, hq6, H⟩ := bnd H
    refine g_cs [] rfl rfl (by rfl) Tryd.func9 rfl (by decide) (mat_Matrix_Same.does hq6) ⟨Nat.le_of_ble_eq_true rfl, Nat.le_of_ble_eq_true rfl⟩ ?_; refine gC ?_
    refine g_un rfl rfl rfl rfl (gT ?_)
    refine g_nil (hK _ _ _ ?_)
    refine k_seq ?_
    rcases its H with ⟨c7, H⟩ | ⟨c7, H⟩
    · have c7b : q6 = true := c7; try simp only [c7b, nrm]
      refine w_cond rfl (fun h => Bool.noConfusion h) (fun _ => ?_)
      refine w_skip ?_
      refine k_seq ?_
      refine w_seq ?_
      refine w_seq ?_
      refine wR fun K hK => ?_
      refine g_lda rfl rfl ag26 sz26 rfl rfl (Nat.le_of_ble_eq_true rfl) (gT ?_)
      obtain ⟨q8, hq8, H⟩ := bnd H
      refine g_cs [] rfl rfl (by rfl) Tryd.func10 rfl (by decide) (mat_Matrix_Finite.does hq8) ⟨Nat.le_of_ble_eq_true rfl, Nat.le_of_ble_eq_true rfl⟩ ?_; refine gC ?_
      refine g_un rfl rfl rfl rfl (gT ?_)
      refine g_nil (hK _ _ _ ?_)
      refine k_seq ?_
      rcases its H with ⟨c9, H⟩ | ⟨c9, H⟩
      · have c9b : q8 = true := c9; try simp only [c9b, nrm]
        refine w_cond rfl (fun h => Bool.noConfusion h) (fun _ => ?_)
        refine w_skip ?_
        refine k_seq ?_
        refine w_seq ?_
        refine w_seq ?_
        refine wR fun K hK => ?_
        refine g_mv rfl rfl (gT ?_)
        refine g_bin rfl rfl rfl rfl rfl (gT ?_)
        refine g_mv rfl rfl (gT ?_)
        rcases its H with ⟨c10, H⟩ | ⟨c10, H⟩
        · have c10b := beq_iff_eq.mpr c10; have c10n := bne_eq_false_iff_eq.mpr c10; try simp only [c10b, c10n, nrm]
          refine g_fd rfl rfl fa26_0 rfl (gT ?_)
          refine g_ldc rfl rfl ag3 sz3 rfl rfl rfl (gT ?_)
          refine g_mv rfl rfl (gT ?_)
          refine g_bin rfl rfl rfl rfl rfl (gT ?_)
          refine g_pick rfl rfl rfl (gT ?_)
          refine g_mv rfl rfl (gT ?_)
          rcases its H with ⟨c11, H⟩ | ⟨c11, H⟩
          · have c11b := beq_iff_eq.mpr c11; have c11n := bne_eq_false_iff_eq.mpr c11; try simp only [c11b, c11n, nrm]
            refine g_fd rfl rfl fa26_1 rfl (gT ?_)
            refine g_ldc rfl rfl ag3 sz3 rfl rfl rfl (gT ?_)
            refine g_mv rfl rfl (gT ?_)
            refine g_bin rfl rfl rfl rfl rfl (gT ?_)
            refine g_pick rfl rfl rfl (gT ?_)
            refine g_mv rfl rfl (gT ?_)
            rcases its H with ⟨c12, H⟩ | ⟨c12, H⟩
            · have c12b := beq_iff_eq.mpr c12; have c12n := bne_eq_false_iff_eq.mpr c12; try simp only [c12b, c12n, nrm]
              refine g_fd rfl rfl fa31_0 rfl (gT ?_)
              refine g_ldc rfl rfl ag29 sz29 rfl rfl rfl (gT ?_)
              refine g_len_s rfl rfl Tryd.underlying29 rfl (gT ?_)
              refine g_mv rfl rfl (gT ?_)
              refine g_bin rfl rfl rfl rfl rfl (gT ?_)
              refine g_pick rfl rfl rfl (gT ?_)
              refine g_mv rfl rfl (gT ?_)
              rcases its H with ⟨c13, H⟩ | ⟨c13, H⟩
              · have c13b := beq_iff_eq.mpr c13; have c13n := bne_eq_false_iff_eq.mpr c13; try simp only [c13b, c13n, nrm]
                refine g_fd rfl rfl fa31_1 rfl (gT ?_)
                refine g_ldc rfl rfl ag29 sz29 rfl rfl rfl (gT ?_)
                refine g_len_s rfl rfl Tryd.underlying29 rfl (gT ?_)
                refine g_mv rfl rfl (gT ?_)
                refine g_bin rfl rfl rfl rfl rfl (gT ?_)
                refine g_pick rfl rfl rfl (gT ?_)
                refine g_mv rfl rfl (gT ?_)
                rcases its H with ⟨c14, H⟩ | ⟨c14, H⟩
                · have c14b := beq_iff_eq.mpr c14; have c14n := bne_eq_false_iff_eq.mpr c14; try simp only [c14b, c14n, nrm]
                  refine g_fd rfl rfl fa31_2 rfl (gT ?_)
                  refine g_ldc rfl rfl ag3 sz3 rfl rfl rfl (gT ?_)
                  refine g_bin rfl rfl rfl rfl rfl (gT ?_)
                  refine g_pick rfl rfl rfl (gT ?_)
                  refine g_mv rfl rfl (gT ?_)
                  rcases its H with ⟨c15, H⟩ | ⟨c15, H⟩
                  · have c15b := decide_eq_true c15; try simp only [c15b, nrm]
                    refine g_sk rfl rfl (gT ?_)
                    refine g_sk rfl rfl (gT ?_)
                    refine g_sk rfl rfl (gT ?_)
                    refine g_sk rfl rfl (gT ?_)
                    refine g_sk rfl rfl (gT ?_)
                    refine g_pick rfl rfl rfl (gT ?_)
                    refine g_mv rfl rfl (gT ?_)
                    refine g_sk rfl rfl (gT ?_)
                    refine g_sk rfl rfl (gT ?_)
                    refine g_sk rfl rfl (gT ?_)
                    refine g_sk rfl rfl (gT ?_)
                    refine g_pick rfl rfl rfl (gT ?_)
                    refine g_nil (hK _ _ _ ?_)
                    refine k_wk (σ := [52, 100, 104, 48, 80, 81, 82]) [0, 6, 1, 0, 86] rfl (by decide) rfl ?_; refine gC ?_
                    exact gI (ih0 (Go.bits .and .i64 a0 7) true q3.1 q3.2.1 q3.2.2.1 q5.1 q5.2.1 q5.2.2.1 q5.2.2.2.2.2.2.1 q5.2.2.2.2.2.2.2.1 q3.2.2.2 q5.2.2.2.1 q5.2.2.2.2.1 q5.2.2.2.2.2.1 r H)
                  · have c15b := decide_eq_false c15; try simp only [c15b, nrm]
                    refine g_fd rfl rfl fa31_2 rfl (gT ?_)
                    refine g_ldc rfl rfl ag3 sz3 rfl rfl rfl (gT ?_)
                    refine g_fd rfl rfl fa31_3 rfl (gT ?_)
                    refine g_ldc rfl rfl ag3 sz3 rfl rfl rfl (gT ?_)
                    refine g_bin rfl rfl rfl rfl rfl (gT ?_)
                    refine g_pick rfl rfl rfl (gT ?_)
                    refine g_mv rfl rfl (gT ?_)
                    rcases its H with ⟨c16, H⟩ | ⟨c16, H⟩
                    · have c16b := decide_eq_true c16; try simp only [c16b, nrm]
                      refine g_sk rfl rfl (gT ?_)
                      refine g_sk rfl rfl (gT ?_)
                      refine g_sk rfl rfl (gT ?_)
                      refine g_sk rfl rfl (gT ?_)
                      refine g_pick rfl rfl rfl (gT ?_)
                      refine g_nil (hK _ _ _ ?_)
                      refine k_wk (σ := [52, 100, 104, 48, 80, 81, 82]) [0, 6, 1, 0, 86] rfl (by decide) rfl ?_; refine gC ?_
                      exact gI (ih0 (Go.bits .and .i64 a0 7) true q3.1 q3.2.1 q3.2.2.1 q5.1 q5.2.1 q5.2.2.1 q5.2.2.2.2.2.2.1 q5.2.2.2.2.2.2.2.1 q3.2.2.2 q5.2.2.2.1 q5.2.2.2.2.1 q5.2.2.2.2.2.1 r H)
                    · have c16b := decide_eq_false c16; try simp only [c16b, nrm]
                      refine g_fd rfl rfl fa31_3 rfl (gT ?_)
                      refine g_ldc rfl rfl ag3 sz3 rfl rfl rfl (gT ?_)
                      refine g_mv rfl rfl (gT ?_)
                      refine g_bin rfl rfl rfl rfl rfl (gT ?_)
                      refine g_pick rfl rfl rfl (gT ?_)
                      refine g_nil (hK _ _ _ ?_)
                      refine k_wk (σ := [52, 100, 104, 48, 80, 81, 82]) [0, 6, 1, 0, 86] rfl (by decide) rfl ?_; refine gC ?_
                      exact gI (ih0 (Go.bits .and .i64 a0 7) (decide (q5.2.2.2.2.2.2.2.1 > (Go.bits .and .i64 a0 7))) q3.1 q3.2.1 q3.2.2.1 q5.1 q5.2.1 q5.2.2.1 q5.2.2.2.2.2.2.1 q5.2.2.2.2.2.2.2.1 q3.2.2.2 q5.2.2.2.1 q5.2.2.2.2.1 q5.2.2.2.2.2.1 r H)
                · have c14b := beq_eq_false_iff_ne.mpr c14; have c14n := bne_iff_ne.mpr c14; try simp only [c14b, c14n, nrm]
                  refine g_sk rfl rfl (gT ?_)
                  refine g_sk rfl rfl (gT ?_)
                  refine g_sk rfl rfl (gT ?_)
                  refine g_pick rfl rfl rfl (gT ?_)
                  refine g_mv rfl rfl (gT ?_)
                  refine g_sk rfl rfl (gT ?_)
                  refine g_sk rfl rfl (gT ?_)
                  refine g_sk rfl rfl (gT ?_)
                  refine g_sk rfl rfl (gT ?_)
                  refine g_sk rfl rfl (gT ?_)
                  refine g_pick rfl rfl rfl (gT ?_)
                  refine g_mv rfl rfl (gT ?_)
                  refine g_sk rfl rfl (gT ?_)
                  refine g_sk rfl rfl (gT ?_)
                  refine g_sk rfl rfl (gT ?_)
                  refine g_sk rfl rfl (gT ?_)
                  refine g_pick rfl rfl rfl (gT ?_)
                  refine g_nil (hK _ _ _ ?_)
                  refine k_wk (σ := [52, 100, 104, 48, 80, 81, 82]) [0, 6, 1, 0, 86] rfl (by decide) rfl ?_; refine gC ?_
                  exact gI (ih0 (Go.bits .and .i64 a0 7) true q3.1 q3.2.1 q3.2.2.1 q5.1 q5.2.1 q5.2.2.1 q5.2.2.2.2.2.2.1 q5.2.2.2.2.2.2.2.1 q3.2.2.2 q5.2.2.2.1 q5.2.2.2.2.1 q5.2.2.2.2.2.1 r H)
              · have c13b := beq_eq_false_iff_ne.mpr c13; have c13n := bne_iff_ne.mpr c13; try simp only [c13b, c13n, nrm]
                refine g_sk rfl rfl (gT ?_)
                refine g_sk rfl rfl (gT ?_)
                refine g_sk rfl rfl (gT ?_)
                refine g_sk rfl rfl (gT ?_)
                refine g_sk rfl rfl (gT ?_)
                refine g_pick rfl rfl rfl (gT ?_)
                refine g_mv rfl rfl (gT ?_)
                refine g_sk rfl rfl (gT ?_)
                refine g_sk rfl rfl (gT ?_)
                refine g_sk rfl rfl (gT ?_)
                refine g_pick rfl rfl rfl (gT ?_)
                refine g_mv rfl rfl (gT ?_)
                refine g_sk rfl rfl (gT ?_)
                refine g_sk rfl rfl (gT ?_)
                refine g_sk rfl rfl (gT ?_)
                refine g_sk rfl rfl (gT ?_)
                refine g_sk rfl rfl (gT ?_)
                refine g_pick rfl rfl rfl (gT ?_)
                refine g_mv rfl rfl (gT ?_)
                refine g_sk rfl rfl (gT ?_)
                refine g_sk rfl rfl (gT ?_)
                refine g_sk rfl rfl (gT ?_)
                refine g_sk rfl rfl (gT ?_)
                refine g_pick rfl rfl rfl (gT ?_)
                refine g_nil (hK _ _ _ ?_)
                refine k_wk (σ := [52, 100, 104, 48, 80, 81, 82]) [0, 6, 1, 0, 86] rfl (by decide) rfl ?_; refine gC ?_
                exact gI (ih0 (Go.bits .and .i64 a0 7) true q3.1 q3.2.1 q3.2.2.1 q5.1 q5.2.1 q5.2.2.1 q5.2.2.2.2.2.2.1 q5.2.2.2.2.2.2.2.1 q3.2.2.2 q5.2.2.2.1 q5.2.2.2.2.1 q5.2.2.2.2.2.1 r H)
            · have c12b := beq_eq_false_iff_ne.mpr c12; have c12n := bne_iff_ne.mpr c12; try simp only [c12b, c12n, nrm]
              refine g_sk rfl rfl (gT ?_)
              refine g_sk rfl rfl (gT ?_)
              refine g_sk rfl rfl (gT ?_)
              refine g_sk rfl rfl (gT ?_)
              refine g_sk rfl rfl (gT ?_)
              refine g_pick rfl rfl rfl (gT ?_)
              refine g_mv rfl rfl (gT ?_)
              refine g_sk rfl rfl (gT ?_)
              refine g_sk rfl rfl (gT ?_)
              refine g_sk rfl rfl (gT ?_)
              refine g_sk rfl rfl (gT ?_)
              refine g_sk rfl rfl (gT ?_)
              refine g_pick rfl rfl rfl (gT ?_)
              refine g_mv rfl rfl (gT ?_)
              refine g_sk rfl rfl (gT ?_)
              refine g_sk rfl rfl (gT ?_)
              refine g_sk rfl rfl (gT ?_)
              refine g_pick rfl rfl rfl (gT ?_)
              refine g_mv rfl rfl (gT ?_)
              refine g_sk rfl rfl (gT ?_)
              refine g_sk rfl rfl (gT ?_)
              refine g_sk rfl rfl (gT ?_)
              refine g_sk rfl rfl (gT ?_)
              refine g_sk rfl rfl (gT ?_)
              refine g_pick rfl rfl rfl (gT ?_)
              refine g_mv rfl rfl (gT ?_)
              refine g_sk rfl rfl (gT ?_)
              refine g_sk rfl rfl (gT ?_)
              refine g_sk rfl rfl (gT ?_)
              refine g_sk rfl rfl (gT ?_)
              refine g_pick rfl rfl rfl (gT ?_)
              refine g_nil (hK _ _ _ ?_)
              refine k_wk (σ := [52, 100, 104, 48, 80, 81, 82]) [0, 6, 1, 0, 86] rfl (by decide) rfl ?_; refine gC ?_
              exact gI (ih0 (Go.bits .and .i64 a0 7) true q3.1 q3.2.1 q3.2.2.1 q5.1 q5.2.1 q5.2.2.1 q5.2.2.2.2.2.2.1 q5.2.2.2.2.2.2.2.1 q3.2.2.2 q5.2.2.2.1 q5.2.2.2.2.1 q5.2.2.2.2.2.1 r H)
          · have c11b := beq_eq_false_iff_ne.mpr c11; have c11n := bne_iff_ne.mpr c11; try simp only [c11b, c11n, nrm]
            refine g_sk rfl rfl (gT ?_)
            refine g_sk rfl rfl (gT ?_)
            refine g_sk rfl rfl (gT ?_)
            refine g_sk rfl rfl (gT ?_)
            refine g_pick rfl rfl rfl (gT ?_)
            refine g_mv rfl rfl (gT ?_)
            refine g_sk rfl rfl (gT ?_)
            refine g_sk rfl rfl (gT ?_)
            refine g_sk rfl rfl (gT ?_)
            refine g_sk rfl rfl (gT ?_)
            refine g_sk rfl rfl (gT ?_)
            refine g_pick rfl rfl rfl (gT ?_)
            refine g_mv rfl rfl (gT ?_)
            refine g_sk rfl rfl (gT ?_)
            refine g_sk rfl rfl (gT ?_)
            refine g_sk rfl rfl (gT ?_)
            refine g_sk rfl rfl (gT ?_)
            refine g_sk rfl rfl (gT ?_)
            refine g_pick rfl rfl rfl (gT ?_)
            refine g_mv rfl rfl (gT ?_)
            refine g_sk rfl rfl (gT ?_)
            refine g_sk rfl rfl (gT ?_)
            refine g_sk rfl rfl (gT ?_)
            refine g_pick rfl rfl rfl (gT ?_)
            refine g_mv rfl rfl (gT ?_)
            refine g_sk rfl rfl (gT ?_)
            refine g_sk rfl rfl (gT ?_)
            refine g_sk rfl rfl (gT ?_)
            refine g_sk rfl rfl (gT ?_)
            refine g_sk rfl rfl (gT ?_)
            refine g_pick rfl rfl rfl (gT ?_)
            refine g_mv rfl rfl (gT ?_)
            refine g_sk rfl rfl (gT ?_)
            refine g_sk rfl rfl (gT ?_)
            refine g_sk rfl rfl (gT ?_)
            refine g_sk rfl rfl (gT ?_)
            refine g_pick rfl rfl rfl (gT ?_)
            refine g_nil (hK _ _ _ ?_)
            refine k_wk (σ := [52, 100, 104, 48, 80, 81, 82]) [0, 6, 1, 0, 86] rfl (by decide) rfl ?_; refine gC ?_
            exact gI (ih0 (Go.bits .and .i64 a0 7) true q3.1 q3.2.1 q3.2.2.1 q5.1 q5.2.1 q5.2.2.1 q5.2.2.2.2.2.2.1 q5.2.2.2.2.2.2.2.1 q3.2.2.2 q5.2.2.2.1 q5.2.2.2.2.1 q5.2.2.2.2.2.1 r H)
        · have c10b := beq_eq_false_iff_ne.mpr c10; have c10n := bne_iff_ne.mpr c10; try simp only [c10b, c10n, nrm]
          refine g_sk rfl rfl (gT ?_)
          refine g_sk rfl rfl (gT ?_)
          refine g_sk rfl rfl (gT ?_)
          refine g_sk rfl rfl (gT ?_)
          refine g_pick rfl rfl rfl (gT ?_)
          refine g_mv rfl rfl (gT ?_)
          refine g_sk rfl rfl (gT ?_)
          refine g_sk rfl rfl (gT ?_)
          refine g_sk rfl rfl (gT ?_)
          refine g_sk rfl rfl (gT ?_)
          refine g_pick rfl rfl rfl (gT ?_)
          refine g_mv rfl rfl (gT ?_)
          refine g_sk rfl rfl (gT ?_)
          refine g_sk rfl rfl (gT ?_)
          refine g_sk rfl rfl (gT ?_)
          refine g_sk rfl rfl (gT ?_)
          refine g_sk rfl rfl (gT ?_)
          refine g_pick rfl rfl rfl (gT ?_)
          refine g_mv rfl rfl (gT ?_)
          refine g_sk rfl rfl (gT ?_)
          refine g_sk rfl rfl (gT ?_)
          refine g_sk rfl rfl (gT ?_)
          refine g_sk rfl rfl (gT ?_)
          refine g_sk rfl rfl (gT ?_)
          refine g_pick rfl rfl rfl (gT ?_)
          refine g_mv rfl rfl (gT ?_)
          refine g_sk rfl rfl (gT ?_)
          refine g_sk rfl rfl (gT ?_)
          refine g_sk rfl rfl (gT ?_)
          refine g_pick rfl rfl rfl (gT ?_)
          refine g_mv rfl rfl (gT ?_)
          refine g_sk rfl rfl (gT ?_)
          refine g_sk rfl rfl (gT ?_)
          refine g_sk rfl rfl (gT ?_)
          refine g_sk rfl rfl (gT ?_)
          refine g_sk rfl rfl (gT ?_)
          refine g_pick rfl rfl rfl (gT ?_)
          refine g_mv rfl rfl (gT ?_)
          refine g_sk rfl rfl (gT ?_)
          refine g_sk rfl rfl (gT ?_)
          refine g_sk rfl rfl (gT ?_)
          refine g_sk rfl rfl (gT ?_)
          refine g_pick rfl rfl rfl (gT ?_)
          refine g_nil (hK _ _ _ ?_)
          refine k_wk (σ := [52, 100, 104, 48, 80, 81, 82]) [0, 6, 1, 0, 86] rfl (by decide) rfl ?_; refine gC ?_
          exact gI (ih0 (Go.bits .and .i64 a0 7) true q3.1 q3.2.1 q3.2.2.1 q5.1 q5.2.1 q5.2.2.1 q5.2.2.2.2.2.2.1 q5.2.2.2.2.2.2.2.1 q3.2.2.2 q5.2.2.2.1 q5.2.2.2.2.1 q5.2.2.2.2.2.1 r H)
      · have c9b : q8 = false := Bool.eq_false_iff.mpr c9; try simp only [c9b, nrm]
        refine w_cond rfl (fun _ => ?_) (fun h => Bool.noConfusion h)
        refine w_seq ?_
        refine wR fun K hK => ?_
        refine g_mv rfl rfl (gT ?_)
        refine g_bin rfl rfl rfl rfl rfl (gT ?_)
        refine g_as rfl rfl (gT ?_)
        refine g_nil (hK _ _ _ ?_)
        refine k_seq ?_
        refine w_ret ?_
        refine fin_wp (τ := []) rfl (by decide) ?_; rw [← Option.some.inj H]; simp only [Tryd.f3]; exact gF
    · have c7b : q6 = false := Bool.eq_false_iff.mpr c7; try simp only [c7b, nrm]
      refine w_cond rfl (fun _ => ?_) (fun h => Bool.noConfusion h)
      refine w_seq ?_
      refine wR fun K hK => ?_
      refine g_as rfl rfl (gT ?_)
      refine g_nil (hK _ _ _ ?_)
      refine k_seq ?_
      refine w_ret ?_
      refine fin_wp (τ := []) rfl (by decide) ?_; rw [← Option.some.inj H]; simp only [Tryd.f3]; exact gF

end Go.Proofs.YtlhpejbmjbcmaaaDoor.F
namespace Go.Proofs.YtlhpejbmjbcmaaaDoor.F
open Go Go.RowKit Go.Proofs.YtlhpejbmjbcmaaaDoorW.PrintWords
open Go.Rk hiding Rd
set_option linter.unusedVariables false
set_option maxRecDepth 100000
def sub64Entry_ : Array Value → Sem Value := fun args => do
  let (x, y, b) ← Extern.MathBitsCarry.three "Sub64" args
  pure (Extern.MathBitsCarry.pair ((x + Extern.MathBitsCarry.m64 - y - b) % Extern.MathBitsCarry.m64) (if x < y + b then 1 else 0))
theorem run_sub64_ {P : Program} (x y b : Nat) (hb : b ≤ 1) (w : World) :
    (sub64Entry_ #[.int .u64 x, .int .u64 y, .int .u64 b]).run P w =
      .ok (.tuple #[.int .u64 (((x + 18446744073709551616 - y - b) % 18446744073709551616 : Nat) : Int), .int .u64 ((if x < y + b then 1 else 0 : Nat) : Int)]) w := by
  have : b = 0 ∨ b = 1 := by omega
  rcases this with rfl | rfl <;> rfl
theorem vs3 {ι : Io} {μ : Mu} {k k' k'' : IntKind} {x y c : Int} {args' : List Value} (h : Vs ι μ [.i k x, .i k' y, .i k'' c] args') : args' = [.int k x, .int k' y, .int k'' c] := by
  obtain ⟨a, l, rfl, ha, h⟩ := h.head
  obtain ⟨b, l, rfl, hb, h⟩ := h.head
  obtain ⟨d, l, rfl, hd, h⟩ := h.head
  rw [h.nil', ha.i_inv, hb.i_inv, hd.i_inv]
theorem vr2 {ι : Io} {μ : Mu} {x y : Int} : VR ι μ (.t [.i .u64 x, .i .u64 y]) (.tuple #[.int .u64 x, .int .u64 y]) :=
  .t (cs := [.int .u64 x, .int .u64 y]) rfl fun j hj => by
    match j, hj with
    | 0, _ => exact .c .i
    | 1, _ => exact .c .i
theorem envOk : EnvOk E0 where
  mixed := by kernel_rfl
  noNG := by
    intro f fn h
    have h0 : (Tryd.prog.funcs.toList.all fun fn => !(fn.name == "runtime.NumGoroutine")) = true := by kernel_rfl
    have h1 : fn ∈ Tryd.prog.funcs.toList := by
      have h : Tryd.prog.funcs[f]? = some fn := h
      exact Array.mem_toList_iff.2 (Array.mem_of_getElem? h)
    have := List.all_eq_true.1 h0 fn h1
    simpa using this
  ext := by
    intro f fn args args' ι μ w v hf hb he hv
    simp only [E0] at he
    split at he
    · rename_i e; subst e
      unfold addX at he
      split at he
      · split at he
        · rename_i hc
          cases he
          obtain ⟨c1, c2, c3, c4⟩ := hc
          rw [vs3 hv]
          refine ⟨_, ?_, vr2⟩
          show (callFunc 58 #[_, _, _]).run Tryd.prog w = _
          rw [run_callFunc_extern Tryd.func58 (by kernel_rfl) (by kernel_rfl) (by kernel_rfl) (e := add64Entry) (by kernel_rfl), run_add64 _ _ _ c1 c2 c3 c4]
          rfl
        · cases he
      · cases he
    · split at he
      · rename_i e; subst e
        unfold subX at he
        split at he
        · split at he
          · rename_i x y c hc
            cases he
            obtain ⟨c1, c2, c5, c3, c4⟩ := hc
            rw [vs3 hv]
            obtain ⟨x, rfl⟩ := Int.eq_ofNat_of_zero_le c1
            obtain ⟨y, rfl⟩ := Int.eq_ofNat_of_zero_le c2
            obtain ⟨b, rfl⟩ := Int.eq_ofNat_of_zero_le c3
            have e1 : (((x + 18446744073709551616 - y - b) % 18446744073709551616 : Nat) : Int) = ((x : Int) - y - b) % 18446744073709551616 := by omega
            have e2 : ((if x < y + b then 1 else 0 : Nat) : Int) = if (x : Int) < y + b then 1 else 0 := by split <;> split <;> omega
            rw [← e1, ← e2]
            refine ⟨_, ?_, vr2⟩
            show (callFunc 59 #[_, _, _]).run Tryd.prog w = _
            rw [run_callFunc_extern Tryd.func59 (by kernel_rfl) (by kernel_rfl) (by kernel_rfl) (e := sub64Entry_) (by kernel_rfl), run_sub64_ x y b (by omega)]
            rfl
          · cases he
        · cases he
      · cases he
end Go.Proofs.YtlhpejbmjbcmaaaDoor.F
