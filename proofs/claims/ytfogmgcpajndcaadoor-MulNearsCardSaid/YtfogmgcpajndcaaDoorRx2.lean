/- Texts of this claim, one behind the other: the functions, and that the machine does what they say. -/
import Derived.Test.YtfogmgcpajndcaaDoorRx0
import Derived.Test.YtfogmgcpajndcaaDoorRx1
import Derived.Test.YtfogmgcpajndcaaDoorRun1
import Derived.Laws.BitsLemmas
import Derived.ArgAppend
import Derived.Lib.AppendStr
set_option linter.constructorNameAsVariable false
set_option linter.unusedSimpArgs false
set_option linter.unusedVariables false
set_option linter.unusedSectionVars false
namespace Go.Proofs.YtfogmgcpajndcaaDoor.F
open Go Go.RowKit Go.Proofs.YtfogmgcpajndcaaDoorW.PrintWords
open Go.Rk hiding Rd
set_option linter.unusedVariables false
set_option linter.unusedSimpArgs false
set_option maxRecDepth 100000
set_option maxHeartbeats 8000000 in
set_option maxRecDepth 100000 in
theorem gimballaw11_MulNears.does_l {a0 : Int} {a1 : Int} {a2 : Int} {l3 : List Int} (k : Nat) : (∀ (p_0 : Int) (q_1 : Int) (r_2 : Int) (t_70 : Bool) (h0_0 : Int) (h0_1 : Int) (h0_2 : Int) (h1_0 : Int) (h1_1 : Int) (h1_2 : Int) (h2_0 : Int) (h2_1 : Int) (h2_2 : Int) (h3 : List Int) (h4 : List Int) (h5 : List Int) (r : Bool), gimballaw11_MulNears.j0 k p_0 q_1 r_2 t_70 h0_0 h0_1 h0_2 h1_0 h1_1 h1_2 h2_0 h2_1 h2_2 h3 h4 h5 = some r → kont E0 (gimballaw11_MulNears.Q a0 a1 a2 l3 r) (frs (bodyOf Tryd.f4) [1, 1, 1, 1, 1, 1, 1, 1, 1, 1, 1, 0, 0] []) .normal ⟨[.i .i64 p_0, .i .i64 q_1, .i .i64 r_2, .u, .u, .u, .u, .u, .u, .p (some (0, 0)), .p (some (1, 0)), .u, .p (some (2, 0)), .u, .u, .u, .u, .u, .u, .u, .u, .u, .u, .u, .u, .u, .u, .u, .u, .u, .u, .u, .u, .u, .u, .u, .u, .u, .u, .u, .u, .u, .u, .u, .u, .u, .u, .u, .u, .u, .u, .u, .u, .u, .u, .u, .u, .u, .u, .u, .u, .u, .u, .u, .u, .u, .u, .u, .u, .u, .b t_70, .u, .u, .u, .u, .u, .u, .u, .u, .u, .u, .u, .u, .u, .u, .u, .u, .u, .u, .u, .u, .u, .u, .u, .u, .u, .u, .u, .u, .u, .u, .u, .u, .u, .u, .u, .u, .u, .u, .u, .u, .u, .u, .u, .u, .u, .u, .u, .u, .u, .u, .u, .u, .u, .u, .u, .u, .u, .u, .u, .u, .u, .u, .u, .u, .u], ofL [.row [.i .i64 h0_0, .i .i64 h0_1, .i .i64 h0_2, .s (some (3, 0)) h3.length] 0 0 true true none, .row [.i .i64 h1_0, .i .i64 h1_1, .i .i64 h1_2, .s (some (4, 0)) h4.length] 0 0 true true none, .row [.i .i64 h2_0, .i .i64 h2_1, .i .i64 h2_2, .s (some (5, 0)) h5.length] 0 0 true true none, .row (h3.map (V.i .u64)) 2 1 true true none, .row (h4.map (V.i .u64)) 2 1 true true none, .row (h5.map (V.i .u64)) 2 1 true true none], 6, 0⟩) ∧
    (∀ (p_0 : Int) (q_1 : Int) (r_2 : Int) (i_14 : Int) (h0_0 : Int) (h0_1 : Int) (h0_2 : Int) (h1_0 : Int) (h1_1 : Int) (h1_2 : Int) (h2_0 : Int) (h2_1 : Int) (h2_2 : Int) (h3 : List Int) (h4 : List Int) (h5 : List Int) (r : Bool), gimballaw11_MulNears.l0 k p_0 q_1 r_2 i_14 h0_0 h0_1 h0_2 h1_0 h1_1 h1_2 h2_0 h2_1 h2_2 h3 h4 h5 = some r → wk_ E0 (gimballaw11_MulNears.Q a0 a1 a2 l3 r) (frs (bodyOf Tryd.f4) [1, 1, 1, 1, 1, 1, 1, 1, 1, 1, 1, 1, 0, 1, 0] []) (sub (bodyOf Tryd.f4) [1, 1, 1, 1, 1, 1, 1, 1, 1, 1, 1, 1, 0, 1, 0]) ⟨[.i .i64 p_0, .i .i64 q_1, .i .i64 r_2, .u, .u, .u, .u, .u, .u, .p (some (0, 0)), .p (some (1, 0)), .u, .p (some (2, 0)), .u, .i .i64 i_14, .u, .u, .u, .u, .u, .u, .u, .u, .u, .u, .u, .u, .u, .u, .u, .u, .u, .u, .u, .u, .u, .u, .u, .u, .u, .u, .u, .u, .u, .u, .u, .u, .u, .u, .u, .u, .u, .u, .u, .u, .u, .u, .u, .u, .u, .u, .u, .u, .u, .u, .u, .u, .u, .u, .u, .u, .u, .u, .u, .u, .u, .u, .u, .u, .u, .u, .u, .u, .u, .u, .u, .u, .u, .u, .u, .u, .u, .u, .u, .u, .u, .u, .u, .u, .u, .u, .u, .u, .u, .u, .u, .u, .u, .u, .u, .u, .u, .u, .u, .u, .u, .u, .u, .u, .u, .u, .u, .u, .u, .u, .u, .u, .u, .u, .u, .u, .u, .u, .u, .u, .u], ofL [.row [.i .i64 h0_0, .i .i64 h0_1, .i .i64 h0_2, .s (some (3, 0)) h3.length] 0 0 true true none, .row [.i .i64 h1_0, .i .i64 h1_1, .i .i64 h1_2, .s (some (4, 0)) h4.length] 0 0 true true none, .row [.i .i64 h2_0, .i .i64 h2_1, .i .i64 h2_2, .s (some (5, 0)) h5.length] 0 0 true true none, .row (h3.map (V.i .u64)) 2 1 true true none, .row (h4.map (V.i .u64)) 2 1 true true none, .row (h5.map (V.i .u64)) 2 1 true true none], 6, 0⟩) ∧
    (∀ (p_0 : Int) (q_1 : Int) (r_2 : Int) (i_14 : Int) (k_15 : Int) (h0_0 : Int) (h0_1 : Int) (h0_2 : Int) (h1_0 : Int) (h1_1 : Int) (h1_2 : Int) (h2_0 : Int) (h2_1 : Int) (h2_2 : Int) (h3 : List Int) (h4 : List Int) (h5 : List Int) (r : Bool), gimballaw11_MulNears.l1 k p_0 q_1 r_2 i_14 k_15 h0_0 h0_1 h0_2 h1_0 h1_1 h1_2 h2_0 h2_1 h2_2 h3 h4 h5 = some r → wk_ E0 (gimballaw11_MulNears.Q a0 a1 a2 l3 r) (frs (bodyOf Tryd.f4) [1, 1, 1, 1, 1, 1, 1, 1, 1, 1, 1, 1, 0, 1, 0, 0, 1, 0, 0, 1, 0] []) (sub (bodyOf Tryd.f4) [1, 1, 1, 1, 1, 1, 1, 1, 1, 1, 1, 1, 0, 1, 0, 0, 1, 0, 0, 1, 0]) ⟨[.i .i64 p_0, .i .i64 q_1, .i .i64 r_2, .u, .u, .u, .u, .u, .u, .p (some (0, 0)), .p (some (1, 0)), .u, .p (some (2, 0)), .u, .i .i64 i_14, .i .i64 k_15, .u, .u, .u, .u, .u, .u, .u, .u, .u, .u, .u, .u, .u, .u, .u, .u, .u, .u, .u, .u, .u, .u, .u, .u, .u, .u, .u, .u, .u, .u, .u, .u, .u, .u, .u, .u, .u, .u, .u, .u, .u, .u, .u, .u, .u, .u, .u, .u, .u, .u, .u, .u, .u, .u, .u, .u, .u, .u, .u, .u, .u, .u, .u, .u, .u, .u, .u, .u, .u, .u, .u, .u, .u, .u, .u, .u, .u, .u, .u, .u, .u, .u, .u, .u, .u, .u, .u, .u, .u, .u, .u, .u, .u, .u, .u, .u, .u, .u, .u, .u, .u, .u, .u, .u, .u, .u, .u, .u, .u, .u, .u, .u, .u, .u, .u, .u, .u, .u, .u, .u], ofL [.row [.i .i64 h0_0, .i .i64 h0_1, .i .i64 h0_2, .s (some (3, 0)) h3.length] 0 0 true true none, .row [.i .i64 h1_0, .i .i64 h1_1, .i .i64 h1_2, .s (some (4, 0)) h4.length] 0 0 true true none, .row [.i .i64 h2_0, .i .i64 h2_1, .i .i64 h2_2, .s (some (5, 0)) h5.length] 0 0 true true none, .row (h3.map (V.i .u64)) 2 1 true true none, .row (h4.map (V.i .u64)) 2 1 true true none, .row (h5.map (V.i .u64)) 2 1 true true none], 6, 0⟩) ∧
    (∀ (p_0 : Int) (q_1 : Int) (r_2 : Int) (i_14 : Int) (k_15 : Int) (j_18 : Int) (h0_0 : Int) (h0_1 : Int) (h0_2 : Int) (h1_0 : Int) (h1_1 : Int) (h1_2 : Int) (h2_0 : Int) (h2_1 : Int) (h2_2 : Int) (h3_0 : Bool) (h3_1 : List Int) (h3_2 : Int) (h4_0 : Bool) (h4_1 : List Int) (h4_2 : Int) (h5 : List Int) (h6 : List Int) (h7 : List Int) (r : Bool), gimballaw11_MulNears.l2 k p_0 q_1 r_2 i_14 k_15 j_18 h0_0 h0_1 h0_2 h1_0 h1_1 h1_2 h2_0 h2_1 h2_2 h3_0 h3_1 h3_2 h4_0 h4_1 h4_2 h5 h6 h7 = some r → wk_ E0 (gimballaw11_MulNears.Q a0 a1 a2 l3 r) (frs (bodyOf Tryd.f4) [1, 1, 1, 1, 1, 1, 1, 1, 1, 1, 1, 1, 0, 1, 0, 0, 1, 0, 0, 1, 0, 0, 1, 0, 0, 1, 1, 0, 1, 0] []) (sub (bodyOf Tryd.f4) [1, 1, 1, 1, 1, 1, 1, 1, 1, 1, 1, 1, 0, 1, 0, 0, 1, 0, 0, 1, 0, 0, 1, 0, 0, 1, 1, 0, 1, 0]) ⟨[.i .i64 p_0, .i .i64 q_1, .i .i64 r_2, .u, .u, .u, .u, .u, .u, .p (some (0, 0)), .p (some (1, 0)), .u, .p (some (2, 0)), .u, .i .i64 i_14, .i .i64 k_15, .p (some (3, 0)), .p (some (4, 0)), .i .i64 j_18, .u, .u, .u, .u, .u, .u, .u, .u, .u, .u, .u, .u, .u, .u, .u, .u, .u, .u, .u, .u, .u, .u, .u, .u, .u, .u, .u, .u, .u, .u, .u, .u, .u, .u, .u, .u, .u, .u, .u, .u, .u, .u, .u, .u, .u, .u, .u, .u, .u, .u, .u, .u, .u, .u, .u, .u, .u, .u, .u, .u, .u, .u, .u, .u, .u, .u, .u, .u, .u, .u, .u, .u, .u, .u, .u, .u, .u, .u, .u, .u, .u, .u, .u, .u, .u, .u, .u, .u, .u, .u, .u, .u, .u, .u, .u, .u, .u, .u, .u, .u, .u, .u, .u, .u, .u, .u, .u, .u, .u, .u, .u, .u, .u, .u, .u, .u, .u], ofL [.row [.i .i64 h0_0, .i .i64 h0_1, .i .i64 h0_2, .s (some (5, 0)) h5.length] 0 0 true true none, .row [.i .i64 h1_0, .i .i64 h1_1, .i .i64 h1_2, .s (some (6, 0)) h6.length] 0 0 true true none, .row [.i .i64 h2_0, .i .i64 h2_1, .i .i64 h2_2, .s (some (7, 0)) h7.length] 0 0 true true none, .row [.b h3_0, .r (h3_1.map (V.i .u32)) h3_1.length true, .i .i64 h3_2] 0 0 true true none, .row [.b h4_0, .r (h4_1.map (V.i .u32)) h4_1.length true, .i .i64 h4_2] 0 0 true true none, .row (h5.map (V.i .u64)) 2 1 true true none, .row (h6.map (V.i .u64)) 2 1 true true none, .row (h7.map (V.i .u64)) 2 1 true true none], 8, 0⟩) := by
  induction k with
  | zero => exact ⟨fun _ _ _ _ _ _ _ _ _ _ _ _ _ _ _ _ r h => by simp [gimballaw11_MulNears.j0] at h, fun _ _ _ _ _ _ _ _ _ _ _ _ _ _ _ _ r h => by simp [gimballaw11_MulNears.l0] at h, fun _ _ _ _ _ _ _ _ _ _ _ _ _ _ _ _ _ r h => by simp [gimballaw11_MulNears.l1] at h, fun _ _ _ _ _ _ _ _ _ _ _ _ _ _ _ _ _ _ _ _ _ _ _ _ r h => by simp [gimballaw11_MulNears.l2] at h⟩
  | succ k ih =>
    obtain ⟨ih0, ih1, ih2, ih3⟩ := ih
    refine ⟨?_, ?_, ?_, ?_⟩
    · intro p_0 q_1 r_2 t_70 h0_0 h0_1 h0_2 h1_0 h1_1 h1_2 h2_0 h2_1 h2_2 h3 h4 h5 r H
      unfold gimballaw11_MulNears.j0 at H
      simp only [bodyOf, Tryd.f4, frs, sub, if_true, if_false, Nat.one_ne_zero]
      refine k_seq ?_
      rcases its H with ⟨c11, H⟩ | ⟨c11, H⟩
      · have c11b : t_70 = true := c11; try simp only [c11b, nrm]
        refine w_cond rfl (fun _ => ?_) (fun h => Bool.noConfusion h)
        refine w_seq ?_
        refine wR fun K hK => ?_
        refine g_as rfl rfl (gT ?_)
        refine g_nil (hK _ _ _ ?_)
        refine k_seq ?_
        refine w_ret ?_
        refine fin_wp (τ := []) rfl (by decide) ?_; rw [← Option.some.inj H]; simp only [Tryd.f4]; exact gF
      · have c11b : t_70 = false := Bool.eq_false_iff.mpr c11; try simp only [c11b, nrm]
        refine w_cond rfl (fun h => Bool.noConfusion h) (fun _ => ?_)
        refine w_skip ?_
        refine k_seq ?_
        refine w_seq ?_
        refine w_seq ?_
        refine wR fun K hK => ?_
        refine g_as rfl rfl (gT ?_)
        refine g_nil (hK _ _ _ ?_)
        refine k_seq ?_
        refine w_block ?_
        refine w_wk (σ := [0, 1, 2, 3, 4, 5]) [0, 0, 0, 6, 0, 1, 1] rfl (by decide) ?_; refine gC ?_
        exact gI (ih1 p_0 q_1 r_2 0 h0_0 h0_1 h0_2 h1_0 h1_1 h1_2 h2_0 h2_1 h2_2 h3 h4 h5 r H)
    · intro p_0 q_1 r_2 i_14 h0_0 h0_1 h0_2 h1_0 h1_1 h1_2 h2_0 h2_1 h2_2 h3 h4 h5 r H
      unfold gimballaw11_MulNears.l0 at H
      simp only [bodyOf, Tryd.f4, frs, sub, if_true, if_false, Nat.one_ne_zero]
      refine w_loop ?_
      refine w_seq ?_
      refine w_seq ?_
      refine wR fun K hK => ?_
      refine g_mv rfl rfl (gT ?_)
      refine g_mv rfl rfl (gT ?_)
      refine g_bin rfl rfl rfl rfl rfl (gT ?_)
      refine g_nil (hK _ _ _ ?_)
      refine k_seq ?_
      rcases its H with ⟨c12, H⟩ | ⟨c12, H⟩
      · have c12b := decide_eq_true c12; try simp only [c12b, nrm]
        refine w_cond rfl (fun _ => ?_) (fun h => Bool.noConfusion h)
        refine w_skip ?_
        refine k_seq ?_
        refine w_seq ?_
        refine w_block ?_
        refine w_seq ?_
        refine wR fun K hK => ?_
        refine g_as rfl rfl (gT ?_)
        refine g_nil (hK _ _ _ ?_)
        refine k_seq ?_
        refine w_block ?_
        refine w_wk (σ := [0, 1, 2, 3, 4, 5]) [0, 0, 0, 6, 0, 1, 1, 0] rfl (by decide) ?_; refine gC ?_
        exact gI (ih2 p_0 q_1 r_2 i_14 0 h0_0 h0_1 h0_2 h1_0 h1_1 h1_2 h2_0 h2_1 h2_2 h3 h4 h5 r H)
      · have c12b := decide_eq_false c12; try simp only [c12b, nrm]
        refine w_cond rfl (fun h => Bool.noConfusion h) (fun _ => ?_)
        refine w_exit rfl ?_
        refine k_seq ?_
        refine w_seq ?_
        refine wR fun K hK => ?_
        refine g_as rfl rfl (gT ?_)
        refine g_nil (hK _ _ _ ?_)
        refine k_seq ?_
        refine w_ret ?_
        refine fin_wp (τ := []) rfl (by decide) ?_; rw [← Option.some.inj H]; simp only [Tryd.f4]; exact gF
    · intro p_0 q_1 r_2 i_14 k_15 h0_0 h0_1 h0_2 h1_0 h1_1 h1_2 h2_0 h2_1 h2_2 h3 h4 h5 r H
      unfold gimballaw11_MulNears.l1 at H
      simp only [bodyOf, Tryd.f4, frs, sub, if_true, if_false, Nat.one_ne_zero]
      refine w_loop ?_
      refine w_seq ?_
      refine w_seq ?_
      refine wR fun K hK => ?_
      refine g_mv rfl rfl (gT ?_)
      refine g_mv rfl rfl (gT ?_)
      refine g_bin rfl rfl rfl rfl rfl (gT ?_)
      refine g_nil (hK _ _ _ ?_)
      refine k_seq ?_
      rcases its H with ⟨c13, H⟩ | ⟨c13, H⟩
      · have c13b := decide_eq_true c13; try simp only [c13b, nrm]
        refine w_cond rfl (fun _ => ?_) (fun h => Bool.noConfusion h)
        refine w_skip ?_
        refine k_seq ?_
        refine w_seq ?_
        refine w_block ?_
        refine w_seq ?_
        refine wR fun K hK => ?_
        refine g_bd rfl rfl zr33 Tryd.underlying33 (pl := [(0, 1), (1, 1), (2, 1)]) (by kernel_rfl) ?_; refine gB ?_
        refine g_alloc rfl rfl zr33 (gU ?_)
        refine g_st rfl rfl sz33 rfl rfl rfl (by rfl) (Nat.le_of_ble_eq_true rfl) (gU ?_)
        refine g_nil (hK _ _ _ ?_)
        refine k_seq ?_
        refine w_seq ?_
        refine wR fun K hK => ?_
        refine g_bd rfl rfl zr33 Tryd.underlying33 (pl := [(0, 1), (1, 1), (2, 1)]) (by kernel_rfl) ?_; refine gB ?_
        refine g_alloc rfl rfl zr33 (gU ?_)
        refine g_st rfl rfl sz33 rfl rfl rfl (by rfl) (Nat.le_of_ble_eq_true rfl) (gU ?_)
        refine g_nil (hK _ _ _ ?_)
        refine k_seq ?_
        refine w_seq ?_
        refine w_seq ?_
        refine wR fun K hK => ?_
        refine g_as rfl rfl (gT ?_)
        refine g_nil (hK _ _ _ ?_)
        refine k_seq ?_
        refine w_block ?_
        refine w_less (.roc 22 1 rfl rfl) ?_; simp only [nrmx, nrm, List.set_cons_zero, List.set_cons_succ, Nat.reduceAdd]
        refine w_less (.roc 34 1 rfl rfl) ?_; simp only [nrmx, nrm, List.set_cons_zero, List.set_cons_succ, Nat.reduceAdd]
        refine w_wk (σ := [0, 1, 2, 22, 34, 3, 4, 5]) [0, 0, 0, 6, 0, 1, 1, 0, 0, 0, 0] rfl (by decide) ?_; refine gC ?_
        exact gI (ih3 p_0 q_1 r_2 i_14 k_15 0 h0_0 h0_1 h0_2 h1_0 h1_1 h1_2 h2_0 h2_1 h2_2 false [] 0 false [] 0 h3 h4 h5 r H)
      · have c13b := decide_eq_false c13; try simp only [c13b, nrm]
        refine w_cond rfl (fun h => Bool.noConfusion h) (fun _ => ?_)
        refine w_exit rfl ?_
        refine k_block ?_
        refine k_seq ?_
        refine wR fun K hK => ?_
        refine g_mv rfl rfl (gT ?_)
        refine g_bin rfl rfl rfl rfl rfl (gT ?_)
        refine g_as rfl rfl (gT ?_)
        refine g_nil (hK _ _ _ ?_)
        refine k_loop ?_
        refine w_wk (σ := [0, 1, 2, 3, 4, 5]) [0, 0, 0, 6, 0, 1, 1] rfl (by decide) ?_; refine gC ?_
        exact gI (ih1 p_0 q_1 r_2 (wrap64 (i_14 + 1)) h0_0 h0_1 h0_2 h1_0 h1_1 h1_2 h2_0 h2_1 h2_2 h3 h4 h5 r H)
    · intro p_0 q_1 r_2 i_14 k_15 j_18 h0_0 h0_1 h0_2 h1_0 h1_1 h1_2 h2_0 h2_1 h2_2 h3_0 h3_1 h3_2 h4_0 h4_1 h4_2 h5 h6 h7 r H
      unfold gimballaw11_MulNears.l2 at H
      simp only [bodyOf, Tryd.f4, frs, sub, if_true, if_false, Nat.one_ne_zero]
      refine w_loop ?_
      refine w_seq ?_
      refine w_seq ?_
      refine wR fun K hK => ?_
      refine g_mv rfl rfl (gT ?_)
      refine g_mv rfl rfl (gT ?_)
      refine g_bin rfl rfl rfl rfl rfl (gT ?_)
      refine g_nil (hK _ _ _ ?_)
      refine k_seq ?_
      rcases its H with ⟨c14, H⟩ | ⟨c14, H⟩
      · have c14b := decide_eq_true c14; try simp only [c14b, nrm]
        refine w_cond rfl (fun _ => ?_) (fun h => Bool.noConfusion h)
        refine w_skip ?_
        refine k_seq ?_
        refine w_seq ?_
        refine w_block ?_
        refine w_seq ?_
        refine wR fun K hK => ?_
        refine g_lda rfl rfl ag26 sz26 rfl rfl (Nat.le_of_ble_eq_true rfl) (gT ?_)
        refine g_mv rfl rfl (gT ?_)
        refine g_mv rfl rfl (gT ?_)
        obtain ⟨q15, hq15, H⟩ := bnd H
        refine g_cs [] rfl rfl (by rfl) Tryd.func15 rfl (by decide) (mat_Matrix_At.does hq15) ⟨Nat.le_of_ble_eq_true rfl, Nat.le_of_ble_eq_true rfl⟩ ?_; refine gC ?_
        obtain ⟨q16, hq16, H⟩ := bnd H
        refine g_cs [] rfl rfl (by rfl) Tryd.func14 rfl (by decide) (dyad_Of.does hq16) ⟨Nat.le_of_ble_eq_true rfl, Nat.le_of_ble_eq_true rfl⟩ ?_; refine gC ?_
        refine g_mv rfl rfl (gT ?_)
        refine g_ext rfl rfl rfl (Nat.le_of_ble_eq_true rfl) (gT ?_)
        refine g_ext rfl rfl rfl (Nat.le_of_ble_eq_true rfl) (gT ?_)
        refine g_alloc rfl rfl zr33 (gU ?_)
        refine g_st rfl rfl sz33 rfl rfl rfl (by rfl) (Nat.le_of_ble_eq_true rfl) (gU ?_)
        refine g_as rfl rfl (gT ?_)
        refine g_nil (hK _ _ _ ?_)
        refine k_seq ?_
        refine w_seq ?_
        refine wR fun K hK => ?_
        refine g_lda rfl rfl ag26 sz26 rfl rfl (Nat.le_of_ble_eq_true rfl) (gT ?_)
        refine g_mv rfl rfl (gT ?_)
        refine g_mv rfl rfl (gT ?_)
        obtain ⟨q17, hq17, H⟩ := bnd H
        refine g_cs [] rfl rfl (by rfl) Tryd.func15 rfl (by decide) (mat_Matrix_At.does hq17) ⟨Nat.le_of_ble_eq_true rfl, Nat.le_of_ble_eq_true rfl⟩ ?_; refine gC ?_
        obtain ⟨q18, hq18, H⟩ := bnd H
        refine g_cs [] rfl rfl (by rfl) Tryd.func14 rfl (by decide) (dyad_Of.does hq18) ⟨Nat.le_of_ble_eq_true rfl, Nat.le_of_ble_eq_true rfl⟩ ?_; refine gC ?_
        refine g_mv rfl rfl (gT ?_)
        refine g_ext rfl rfl rfl (Nat.le_of_ble_eq_true rfl) (gT ?_)
        refine g_ext rfl rfl rfl (Nat.le_of_ble_eq_true rfl) (gT ?_)
        refine g_alloc rfl rfl zr33 (gU ?_)
        refine g_st rfl rfl sz33 rfl rfl rfl (by rfl) (Nat.le_of_ble_eq_true rfl) (gU ?_)
        refine g_as rfl rfl (gT ?_)
        refine g_nil (hK _ _ _ ?_)
        refine k_seq ?_
        refine w_seq ?_
        refine wD fun K hK => ?_
        refine g_lda rfl rfl ag33 sz33 rfl rfl (Nat.le_of_ble_eq_true rfl) (gT ?_)
        refine g_lda rfl rfl ag33 sz33 rfl rfl (Nat.le_of_ble_eq_true rfl) (gT ?_)
        refine g_lda rfl rfl ag33 sz33 rfl rfl (Nat.le_of_ble_eq_true rfl) (gT ?_)
        obtain ⟨q19, hq19, H⟩ := bnd H
        refine g_cs [] rfl rfl (by rfl) Tryd.func17 rfl (by decide) (dyad_Num_Mul.does hq19) ⟨Nat.le_of_ble_eq_true rfl, Nat.le_of_ble_eq_true rfl⟩ ?_; refine gC ?_
        obtain ⟨q20, hq20, H⟩ := bnd H
        refine g_cs [] rfl rfl (by rfl) Tryd.func16 rfl (by decide) (dyad_Num_Add.does hq20) ⟨Nat.le_of_ble_eq_true rfl, Nat.le_of_ble_eq_true rfl⟩ ?_; refine gC ?_
        refine g_st rfl rfl sz33 rfl rfl rfl (by rfl) (Nat.le_of_ble_eq_true rfl) (gU ?_)
        refine g_nil (hK _ _ _ (by kernel_rfl) ?_)
        refine k_seq ?_
        refine wD fun K hK => ?_
        refine g_lda rfl rfl ag33 sz33 rfl rfl (Nat.le_of_ble_eq_true rfl) (gT ?_)
        refine g_lda rfl rfl ag33 sz33 rfl rfl (Nat.le_of_ble_eq_true rfl) (gT ?_)
        refine g_lda rfl rfl ag33 sz33 rfl rfl (Nat.le_of_ble_eq_true rfl) (gT ?_)
        obtain ⟨q21, hq21, H⟩ := bnd H
        refine g_cs [] rfl rfl (by rfl) Tryd.func17 rfl (by decide) (dyad_Num_Mul.does hq21) ⟨Nat.le_of_ble_eq_true rfl, Nat.le_of_ble_eq_true rfl⟩ ?_; refine gC ?_
        obtain ⟨q22, hq22, H⟩ := bnd H
        refine g_cs [] rfl rfl (by rfl) Tryd.func18 rfl (by decide) (dyad_Num_Abs.does hq22) ⟨Nat.le_of_ble_eq_true rfl, Nat.le_of_ble_eq_true rfl⟩ ?_; refine gC ?_
        obtain ⟨q23, hq23, H⟩ := bnd H
        refine g_cs [] rfl rfl (by rfl) Tryd.func16 rfl (by decide) (dyad_Num_Add.does hq23) ⟨Nat.le_of_ble_eq_true rfl, Nat.le_of_ble_eq_true rfl⟩ ?_; refine gC ?_
        refine g_st rfl rfl sz33 rfl rfl rfl (by rfl) (Nat.le_of_ble_eq_true rfl) (gU ?_)
        refine g_nil (hK _ _ _ (by kernel_rfl) ?_)
        refine k_block ?_
        refine k_seq ?_
        refine wR fun K hK => ?_
        refine g_mv rfl rfl (gT ?_)
        refine g_bin rfl rfl rfl rfl rfl (gT ?_)
        refine g_as rfl rfl (gT ?_)
        refine g_nil (hK _ _ _ ?_)
        refine k_loop ?_
        refine w_wk (σ := [0, 1, 2, 3, 4, 5, 6, 7]) [0, 0, 0, 6, 0, 1, 1, 0, 0, 0, 0] rfl (by decide) ?_; refine gC ?_
        exact gI (ih3 p_0 q_1 r_2 i_14 k_15 (wrap64 (j_18 + 1)) h0_0 h0_1 h0_2 h1_0 h1_1 h1_2 h2_0 h2_1 h2_2 q20.1 q20.2.1 q20.2.2 q23.1 q23.2.1 q23.2.2 h5 h6 h7 r H)
      · have c14b := decide_eq_false c14; try simp only [c14b, nrm]
        refine w_cond rfl (fun h => Bool.noConfusion h) (fun _ => ?_)
        refine w_exit rfl ?_
        refine k_seq ?_
        refine w_seq ?_
        refine wR fun K hK => ?_
        refine g_lda rfl rfl ag26 sz26 rfl rfl (Nat.le_of_ble_eq_true rfl) (gT ?_)
        refine g_mv rfl rfl (gT ?_)
        refine g_mv rfl rfl (gT ?_)
        obtain ⟨q24, hq24, H⟩ := bnd H
        refine g_cs [] rfl rfl (by rfl) Tryd.func15 rfl (by decide) (mat_Matrix_At.does hq24) ⟨Nat.le_of_ble_eq_true rfl, Nat.le_of_ble_eq_true rfl⟩ ?_; refine gC ?_
        obtain ⟨q25, hq25, H⟩ := bnd H
        refine g_cs [] rfl rfl (by rfl) Tryd.func14 rfl (by decide) (dyad_Of.does hq25) ⟨Nat.le_of_ble_eq_true rfl, Nat.le_of_ble_eq_true rfl⟩ ?_; refine gC ?_
        refine g_mv rfl rfl (gT ?_)
        refine g_ext rfl rfl rfl (Nat.le_of_ble_eq_true rfl) (gT ?_)
        refine g_ext rfl rfl rfl (Nat.le_of_ble_eq_true rfl) (gT ?_)
        refine g_alloc rfl rfl zr33 (gU ?_)
        refine g_st rfl rfl sz33 rfl rfl rfl (by rfl) (Nat.le_of_ble_eq_true rfl) (gU ?_)
        refine g_as rfl rfl (gT ?_)
        refine g_nil (hK _ _ _ ?_)
        refine k_seq ?_
        refine w_seq ?_
        refine wD fun K hK => ?_
        refine g_lda rfl rfl ag33 sz33 rfl rfl (Nat.le_of_ble_eq_true rfl) (gT ?_)
        refine g_lda rfl rfl ag33 sz33 rfl rfl (Nat.le_of_ble_eq_true rfl) (gT ?_)
        obtain ⟨q26, hq26, H⟩ := bnd H
        refine g_cs [] rfl rfl (by rfl) Tryd.func19 rfl (by decide) (dyad_Num_Sub.does hq26) ⟨Nat.le_of_ble_eq_true rfl, Nat.le_of_ble_eq_true rfl⟩ ?_; refine gC ?_
        obtain ⟨q27, hq27, H⟩ := bnd H
        refine g_cs [] rfl rfl (by rfl) Tryd.func18 rfl (by decide) (dyad_Num_Abs.does hq27) ⟨Nat.le_of_ble_eq_true rfl, Nat.le_of_ble_eq_true rfl⟩ ?_; refine gC ?_
        refine g_lda rfl rfl ag33 sz33 rfl rfl (Nat.le_of_ble_eq_true rfl) (gT ?_)
        refine g_mv rfl rfl (gT ?_)
        refine g_bin rfl rfl rfl rfl rfl (gT ?_)
        obtain ⟨q28, hq28, H⟩ := bnd H
        refine g_cs [] rfl rfl (by rfl) Tryd.func8 rfl (by decide) (dyad_Int.does hq28) ⟨Nat.le_of_ble_eq_true rfl, Nat.le_of_ble_eq_true rfl⟩ ?_; refine gC ?_
        obtain ⟨q29, hq29, H⟩ := bnd H
        refine g_cs [] rfl rfl (by rfl) Tryd.func17 rfl (by decide) (dyad_Num_Mul.does hq29) ⟨Nat.le_of_ble_eq_true rfl, Nat.le_of_ble_eq_true rfl⟩ ?_; refine gC ?_
        obtain ⟨q30, hq30, H⟩ := bnd H
        refine g_cs [] rfl rfl (by rfl) Tryd.func21 rfl (by decide) (dyad_Two.does hq30) ⟨Nat.le_of_ble_eq_true rfl, Nat.le_of_ble_eq_true rfl⟩ ?_; refine gC ?_
        obtain ⟨q31, hq31, H⟩ := bnd H
        refine g_cs [] rfl rfl (by rfl) Tryd.func17 rfl (by decide) (dyad_Num_Mul.does hq31) ⟨Nat.le_of_ble_eq_true rfl, Nat.le_of_ble_eq_true rfl⟩ ?_; refine gC ?_
        obtain ⟨q32, hq32, H⟩ := bnd H
        refine g_cs [] rfl rfl (by rfl) Tryd.func20 rfl (by decide) (dyad_Num_Cmp.does hq32) ⟨Nat.le_of_ble_eq_true rfl, Nat.le_of_ble_eq_true rfl⟩ ?_; refine gC ?_
        refine g_bin rfl rfl rfl rfl rfl (gT ?_)
        refine g_nil (hK _ _ _ (by kernel_rfl) ?_)
        refine k_seq ?_
        rcases its H with ⟨c33, H⟩ | ⟨c33, H⟩
        · have c33b := decide_eq_true c33; try simp only [c33b, nrm]
          refine w_cond rfl (fun _ => ?_) (fun h => Bool.noConfusion h)
          refine w_seq ?_
          refine wR fun K hK => ?_
          refine g_as rfl rfl (gT ?_)
          refine g_nil (hK _ _ _ ?_)
          refine k_seq ?_
          refine w_ret ?_
          refine fin_wp (τ := []) rfl (by decide) ?_; rw [← Option.some.inj H]; simp only [Tryd.f4]; exact gF
        · have c33b := decide_eq_false c33; try simp only [c33b, nrm]
          refine w_cond rfl (fun h => Bool.noConfusion h) (fun _ => ?_)
          refine w_skip ?_
          refine k_block ?_
          refine k_seq ?_
          refine wR fun K hK => ?_
          refine g_mv rfl rfl (gT ?_)
          refine g_bin rfl rfl rfl rfl rfl (gT ?_)
          refine g_as rfl rfl (gT ?_)
          refine g_nil (hK _ _ _ ?_)
          refine k_loop ?_
          refine w_wk (σ := [0, 1, 2, 5, 6, 7]) [0, 0, 0, 6, 0, 1, 1, 0] rfl (by decide) ?_; refine gC ?_
          exact gI (ih2 p_0 q_1 r_2 i_14 (wrap64 (k_15 + 1)) h0_0 h0_1 h0_2 h1_0 h1_1 h1_2 h2_0 h2_1 h2_2 h5 h6 h7 r H)
set_option maxHeartbeats 8000000 in
set_option maxRecDepth 100000 in
theorem gimballaw11_MulNears.does {k : Nat} {a0 : Int} {a1 : Int} {a2 : Int} {l3 : List Int} {r : Bool} (H : gimballaw11_MulNears.f k a0 a1 a2 l3 = some r) : Do E0 (.fn 4 [.i .i64 a0, .i .i64 a1, .i .i64 a2, .r (l3.map (V.i .u64)) l3.length true] [] (.b r) []) := by
  obtain ⟨ih0, ih1, ih2, ih3⟩ := gimballaw11_MulNears.does_l (a0 := a0) (a1 := a1) (a2 := a2) (l3 := l3) k
  refine fn_wpl Tryd.func4 rfl (Q := (gimballaw11_MulNears.Q a0 a1 a2 l3 r)) (fun s h => h) ?_
  unfold gimballaw11_MulNears.f at H
  simp only [Tryd.ntmps4, List.length, List.replicate, Nat.reduceAdd, Nat.reduceSub, List.cons_append, List.nil_append]
  refine w_seq ?_
  refine wR fun K hK => ?_
  refine g_as rfl rfl (gT ?_)
  refine g_nil (hK _ _ _ ?_)
  refine k_seq ?_
  refine w_seq ?_
  refine w_seq ?_
  refine wR fun K hK => ?_
  obtain ⟨q1, hq1, H⟩ := bnd H
  refine g_cs [] rfl rfl (by rfl) Tryd.func5 rfl (by decide) (gimballaw11_head_ok.does hq1) ⟨Nat.le_of_ble_eq_true rfl, Nat.le_of_ble_eq_true rfl⟩ ?_; refine gC ?_
  refine g_un rfl rfl rfl rfl (gT ?_)
  refine g_nil (hK _ _ _ ?_)
  refine k_seq ?_
  refine w_cond rfl (fun h => Bool.noConfusion h) (fun _ => ?_)
  refine w_skip ?_
  refine k_seq ?_
  refine w_seq ?_
  refine w_seq ?_
  refine wR fun K hK => ?_
  refine g_mv rfl rfl (gT ?_)
  refine g_len_r rfl rfl Tryd.underlying24 rfl (gT ?_)
  refine g_bin rfl rfl rfl rfl rfl (gT ?_)
  refine g_nil (hK _ _ _ ?_)
  refine k_seq ?_
  rcases its H with ⟨c2, H⟩ | ⟨c2, H⟩
  · have c2b := decide_eq_true c2; try simp only [c2b, nrm]
    refine w_cond rfl (fun _ => ?_) (fun h => Bool.noConfusion h)
    refine w_seq ?_
    refine wR fun K hK => ?_
    refine g_as rfl rfl (gT ?_)
    refine g_nil (hK _ _ _ ?_)
    refine k_seq ?_
    refine w_ret ?_
    refine fin_wp (τ := []) rfl (by decide) ?_; rw [← Option.some.inj H]; simp only [Tryd.f4]; exact gF
  · have c2b := decide_eq_false c2; try simp only [c2b, nrm]
    refine w_cond rfl (fun h => Bool.noConfusion h) (fun _ => ?_)
    refine w_skip ?_
    refine k_seq ?_
    refine w_seq ?_
    refine wR fun K hK => ?_
    refine g_mv rfl rfl (gT ?_)
    refine g_bin rfl rfl rfl rfl rfl (gT ?_)
    refine g_as rfl rfl (gT ?_)
    refine g_nil (hK _ _ _ ?_)
    refine k_seq ?_
    refine w_seq ?_
    refine wR fun K hK => ?_
    refine g_mv rfl rfl (gT ?_)
    refine g_bin rfl rfl rfl rfl rfl (gT ?_)
    refine g_as rfl rfl (gT ?_)
    refine g_nil (hK _ _ _ ?_)
    refine k_seq ?_
    refine w_seq ?_
    refine wR fun K hK => ?_
    refine g_mv rfl rfl (gT ?_)
    refine g_bin rfl rfl rfl rfl rfl (gT ?_)
    refine g_as rfl rfl (gT ?_)
    refine g_nil (hK _ _ _ ?_)
    refine k_seq ?_
    refine w_seq ?_
    refine wR fun K hK => ?_
    refine g_mv rfl rfl (gT ?_)
    refine g_mv rfl rfl (gT ?_)
    refine g_mv rfl rfl (gT ?_)
    obtain ⟨q3, hq3, H⟩ := bnd H
    refine g_cs [] rfl rfl (by rfl) Tryd.func12 rfl (by decide) (gimballaw11_made.does hq3) ⟨Nat.le_of_ble_eq_true rfl, Nat.le_of_ble_eq_true rfl⟩ ?_; refine gC ?_
    refine g_alloc rfl rfl zr26 (gU ?_)
    refine g_st rfl rfl sz26 rfl rfl rfl (by rfl) (Nat.le_of_ble_eq_true rfl) (gU ?_)
    refine g_nil (hK _ _ _ ?_)
    refine k_seq ?_
    refine w_seq ?_
    refine wR fun K hK => ?_
    refine g_mv rfl rfl (gT ?_)
    refine g_mv rfl rfl (gT ?_)
    refine g_mv rfl rfl (gT ?_)
    obtain ⟨q4, hq4, H⟩ := bnd H
    refine g_cs [] rfl rfl (by rfl) Tryd.func12 rfl (by decide) (gimballaw11_made.does hq4) ⟨Nat.le_of_ble_eq_true rfl, Nat.le_of_ble_eq_true rfl⟩ ?_; refine gC ?_
    refine g_alloc rfl rfl zr26 (gU ?_)
    refine g_st rfl rfl sz26 rfl rfl rfl (by rfl) (Nat.le_of_ble_eq_true rfl) (gU ?_)
    refine g_nil (hK _ _ _ ?_)
    refine k_seq ?_
    refine w_seq ?_
    refine wR fun K hK => ?_
    refine g_bd rfl rfl zr39 Tryd.underlying39 (pl := [(0, 1)]) (by kernel_rfl) ?_; refine gB ?_
    refine g_box rfl rfl rfl (by rfl) (gU ?_)
    refine g_as rfl rfl (gT ?_)
    refine g_nil (hK _ _ _ ?_)
    refine k_seq ?_
    refine w_seq ?_
    refine wR fun K hK => ?_
    refine g_mv rfl rfl (gT ?_)
    refine g_lda rfl rfl ag26 sz26 rfl rfl (Nat.le_of_ble_eq_true rfl) (gT ?_)
    refine g_lda rfl rfl ag26 sz26 rfl rfl (Nat.le_of_ble_eq_true rfl) (gT ?_)
    obtain ⟨q5, hq5, H⟩ := bnd H
    refine g_cs [112] rfl rfl (by rfl) Tryd.func10 rfl (by decide) (mul_Gemm.does hq5) ⟨Nat.le_of_ble_eq_true rfl, Nat.le_of_ble_eq_true rfl⟩ ?_; refine gC ?_
    refine g_mv rfl rfl (gT ?_)
    refine g_ext rfl rfl rfl (Nat.le_of_ble_eq_true rfl) (gT ?_)
    refine g_ext rfl rfl rfl (Nat.le_of_ble_eq_true rfl) (gT ?_)
    refine g_alloc rfl rfl zr26 (gU ?_)
    refine g_st rfl rfl sz26 rfl rfl rfl (by rfl) (Nat.le_of_ble_eq_true rfl) (gU ?_)
    refine g_as rfl rfl (gT ?_)
    refine g_nil (hK _ _ _ ?_)
    refine k_seq ?_
    refine w_seq ?_
    refine w_seq ?_
    refine wR fun K hK => ?_
    refine g_mv rfl rfl (gT ?_)
    refine g_bin rfl rfl rfl rfl rfl (gT ?_)
    refine g_nil (hK _ _ _ ?_)
    refine k_seq ?_
    rcases its H with ⟨c6, H⟩ | ⟨c6, H⟩
    · have c6b := beq_iff_eq.mpr c6; have c6n := bne_eq_false_iff_eq.mpr c6; try simp only [c6b, c6n, nrm]
      refine w_cond rfl (fun h => Bool.noConfusion h) (fun _ => ?_)
      refine w_skip ?_
      refine k_seq ?_
      refine w_seq ?_
      refine w_seq ?_
      refine wR fun K hK => ?_
      refine g_lda rfl rfl ag26 sz26 rfl rfl (Nat.le_of_ble_eq_true rfl) (gT ?_)
      obtain ⟨q7, hq7, H⟩ := bnd H
      refine g_cs [] rfl rfl (by rfl) Tryd.func13 rfl (by decide) (mat_Matrix_Finite.does hq7) ⟨Nat.le_of_ble_eq_true rfl, Nat.le_of_ble_eq_true rfl⟩ ?_; refine gC ?_
      refine g_un rfl rfl rfl rfl (gT ?_)
      refine g_mv rfl rfl (gT ?_)
      rcases its H with ⟨c8, H⟩ | ⟨c8, H⟩
      · have c8b : q7 = true := c8; try simp only [c8b, nrm]
        refine g_lda rfl rfl ag26 sz26 rfl rfl (Nat.le_of_ble_eq_true rfl) (gT ?_)
        obtain ⟨q9, hq9, H⟩ := bnd H
        refine g_cs [] rfl rfl (by rfl) Tryd.func13 rfl (by decide) (mat_Matrix_Finite.does hq9) ⟨Nat.le_of_ble_eq_true rfl, Nat.le_of_ble_eq_true rfl⟩ ?_; refine gC ?_
        refine g_un rfl rfl rfl rfl (gT ?_)
        refine g_pick rfl rfl rfl (gT ?_)
        refine g_mv rfl rfl (gT ?_)
        rcases its H with ⟨c10, H⟩ | ⟨c10, H⟩
        · have c10b : q9 = true := c10; try simp only [c10b, nrm]
          refine g_mv rfl rfl (gT ?_)
          refine g_nc rfl rfl rfl (gT ?_)
          refine g_fd rfl rfl fa39_0 rfl (gT ?_)
          refine g_ldc rfl rfl ag29 sz29 rfl rfl rfl (gT ?_)
          refine g_bin rfl rfl rfl rfl rfl (gT ?_)
          refine g_bin rfl rfl rfl rfl rfl (gT ?_)
          refine g_pick rfl rfl rfl (gT ?_)
          refine g_nil (hK _ _ _ ?_)
          refine k_wk (σ := [76, 100, 148, 72, 96, 132]) [0, 0, 0, 6, 0, 1, 57] rfl (by decide) rfl ?_; refine gC ?_
          exact gI (ih0 (Go.bits .and .i64 a0 3) (Go.bits .and .i64 a1 7) (Go.bits .and .i64 a2 3) ((Go.bits .and .u8 q5.2.2.2.2.2 22) != 0) q3.1 q3.2.1 q3.2.2.1 q4.1 q4.2.1 q4.2.2.1 q5.1 q5.2.1 q5.2.2.1 q3.2.2.2 q4.2.2.2 q5.2.2.2.1 r H)
        · have c10b : q9 = false := Bool.eq_false_iff.mpr c10; try simp only [c10b, nrm]
          refine g_sk rfl rfl (gT ?_)
          refine g_sk rfl rfl (gT ?_)
          refine g_sk rfl rfl (gT ?_)
          refine g_sk rfl rfl (gT ?_)
          refine g_sk rfl rfl (gT ?_)
          refine g_sk rfl rfl (gT ?_)
          refine g_pick rfl rfl rfl (gT ?_)
          refine g_nil (hK _ _ _ ?_)
          refine k_wk (σ := [76, 100, 148, 72, 96, 132]) [0, 0, 0, 6, 0, 1, 57] rfl (by decide) rfl ?_; refine gC ?_
          exact gI (ih0 (Go.bits .and .i64 a0 3) (Go.bits .and .i64 a1 7) (Go.bits .and .i64 a2 3) true q3.1 q3.2.1 q3.2.2.1 q4.1 q4.2.1 q4.2.2.1 q5.1 q5.2.1 q5.2.2.1 q3.2.2.2 q4.2.2.2 q5.2.2.2.1 r H)
      · have c8b : q7 = false := Bool.eq_false_iff.mpr c8; try simp only [c8b, nrm]
        refine g_sk rfl rfl (gT ?_)
        refine g_sk rfl rfl (gT ?_)
        refine g_sk rfl rfl (gT ?_)
        refine g_pick rfl rfl rfl (gT ?_)
        refine g_mv rfl rfl (gT ?_)
        refine g_sk rfl rfl (gT ?_)
        refine g_sk rfl rfl (gT ?_)
        refine g_sk rfl rfl (gT ?_)
        refine g_sk rfl rfl (gT ?_)
        refine g_sk rfl rfl (gT ?_)
        refine g_sk rfl rfl (gT ?_)
        refine g_pick rfl rfl rfl (gT ?_)
        refine g_nil (hK _ _ _ ?_)
        refine k_wk (σ := [76, 100, 148, 72, 96, 132]) [0, 0, 0, 6, 0, 1, 57] rfl (by decide) rfl ?_; refine gC ?_
        exact gI (ih0 (Go.bits .and .i64 a0 3) (Go.bits .and .i64 a1 7) (Go.bits .and .i64 a2 3) true q3.1 q3.2.1 q3.2.2.1 q4.1 q4.2.1 q4.2.2.1 q5.1 q5.2.1 q5.2.2.1 q3.2.2.2 q4.2.2.2 q5.2.2.2.1 r H)
    · have c6b := beq_eq_false_iff_ne.mpr c6; have c6n := bne_iff_ne.mpr c6; try simp only [c6b, c6n, nrm]
      refine w_cond rfl (fun _ => ?_) (fun h => Bool.noConfusion h)
      refine w_seq ?_
      refine wR fun K hK => ?_
      refine g_as rfl rfl (gT ?_)
      refine g_nil (hK _ _ _ ?_)
      refine k_seq ?_
      refine w_ret ?_
      refine fin_wp (τ := []) rfl (by decide) ?_; rw [← Option.some.inj H]; simp only [Tryd.f4]; exact gF

end Go.Proofs.YtfogmgcpajndcaaDoor.F
namespace Go.Proofs.YtfogmgcpajndcaaDoor.F
open Go Go.RowKit Go.Proofs.YtfogmgcpajndcaaDoorW.PrintWords
open Go.Rk hiding Rd
set_option linter.unusedVariables false
set_option maxRecDepth 100000
def sub64Entry_ : Array Value → Sem Value := fun args => do
  let (x, y, b) ← Extern.MathBitsCarry.three "Sub64" args
  pure (Extern.MathBitsCarry.pair ((x + Extern.MathBitsCarry.m64 - y - b) % Extern.MathBitsCarry.m64) (if x < y + b then 1 else 0))
theorem run_sub64_ {P : Program} (x y b : Nat) (hb : b ≤ 1) (w : World) :
    (sub64Entry_ #[.int .u64 x, .int .u64 y, .int .u64 b]).run P w =
      .ok (.tuple #[.int .u64 (((x + 18446744073709551616 - y - b) % 18446744073709551616 : Nat) : Int), .int .u64 ((if x < y + b then 1 else 0 : Nat) : Int)]) w := by
  have : b = 0 ∨ b = 1 := by omega
  rcases this with rfl | rfl <;> rfl
theorem vs3 {ι : Io} {μ : Mu} {k k' k'' : IntKind} {x y c : Int} {args' : List Value} (h : Vs ι μ [.i k x, .i k' y, .i k'' c] args') : args' = [.int k x, .int k' y, .int k'' c] := by
  obtain ⟨a, l, rfl, ha, h⟩ := h.head
  obtain ⟨b, l, rfl, hb, h⟩ := h.head
  obtain ⟨d, l, rfl, hd, h⟩ := h.head
  rw [h.nil', ha.i_inv, hb.i_inv, hd.i_inv]
theorem vr2 {ι : Io} {μ : Mu} {x y : Int} : VR ι μ (.t [.i .u64 x, .i .u64 y]) (.tuple #[.int .u64 x, .int .u64 y]) :=
  .t (cs := [.int .u64 x, .int .u64 y]) rfl fun j hj => by
    match j, hj with
    | 0, _ => exact .c .i
    | 1, _ => exact .c .i
theorem envOk : EnvOk E0 where
  mixed := by kernel_rfl
  noNG := by
    intro f fn h
    have h0 : (Tryd.prog.funcs.toList.all fun fn => !(fn.name == "runtime.NumGoroutine")) = true := by kernel_rfl
    have h1 : fn ∈ Tryd.prog.funcs.toList := by
      have h : Tryd.prog.funcs[f]? = some fn := h
      exact Array.mem_toList_iff.2 (Array.mem_of_getElem? h)
    have := List.all_eq_true.1 h0 fn h1
    simpa using this
  ext := by
    intro f fn args args' ι μ w v hf hb he hv
    simp only [E0] at he
    split at he
    · rename_i e; subst e
      unfold addX at he
      split at he
      · split at he
        · rename_i hc
          cases he
          obtain ⟨c1, c2, c3, c4⟩ := hc
          rw [vs3 hv]
          refine ⟨_, ?_, vr2⟩
          show (callFunc 44 #[_, _, _]).run Tryd.prog w = _
          rw [run_callFunc_extern Tryd.func44 (by kernel_rfl) (by kernel_rfl) (by kernel_rfl) (e := add64Entry) (by kernel_rfl), run_add64 _ _ _ c1 c2 c3 c4]
          rfl
        · cases he
      · cases he
    · split at he
      · rename_i e; subst e
        unfold subX at he
        split at he
        · split at he
          · rename_i x y c hc
            cases he
            obtain ⟨c1, c2, c5, c3, c4⟩ := hc
            rw [vs3 hv]
            obtain ⟨x, rfl⟩ := Int.eq_ofNat_of_zero_le c1
            obtain ⟨y, rfl⟩ := Int.eq_ofNat_of_zero_le c2
            obtain ⟨b, rfl⟩ := Int.eq_ofNat_of_zero_le c3
            have e1 : (((x + 18446744073709551616 - y - b) % 18446744073709551616 : Nat) : Int) = ((x : Int) - y - b) % 18446744073709551616 := by omega
            have e2 : ((if x < y + b then 1 else 0 : Nat) : Int) = if (x : Int) < y + b then 1 else 0 := by split <;> split <;> omega
            rw [← e1, ← e2]
            refine ⟨_, ?_, vr2⟩
            show (callFunc 63 #[_, _, _]).run Tryd.prog w = _
            rw [run_callFunc_extern Tryd.func63 (by kernel_rfl) (by kernel_rfl) (by kernel_rfl) (e := sub64Entry_) (by kernel_rfl), run_sub64_ x y b (by omega)]
            rfl
          · cases he
        · cases he
      · cases he
end Go.Proofs.YtfogmgcpajndcaaDoor.F
