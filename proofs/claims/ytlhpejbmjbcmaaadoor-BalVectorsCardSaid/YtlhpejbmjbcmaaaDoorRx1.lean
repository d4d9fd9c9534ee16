/- Texts of this claim, one behind the other: the functions, and that the machine does what they say. -/
import Derived.Test.YtlhpejbmjbcmaaaDoorRx0
set_option linter.constructorNameAsVariable false
set_option linter.unusedSimpArgs false
set_option linter.unusedVariables false
set_option linter.unusedSectionVars false
namespace Go.Proofs.YtlhpejbmjbcmaaaDoor.F
open Go Go.RowKit Go.Proofs.YtlhpejbmjbcmaaaDoorW.PrintWords
open Go.Rk hiding Rd
set_option linter.unusedVariables false
set_option linter.unusedSimpArgs false
set_option maxRecDepth 100000
set_option maxHeartbeats 8000000 in
set_option maxRecDepth 100000 in
theorem round_Round.does_l {a0 : Bool} {a1_0 : Int} {a1_1 : Int} {a2 : Int} {a3 : Bool} (k : Nat) : (∀ (neg_0 : Bool) (exp_2 : Int) (more_3 : Bool) (drop_10 : Int) (tiny_11 : Bool) (h0_0 : Int) (h0_1 : Int) (r : Int × Int), round_Round.j0 k neg_0 exp_2 more_3 drop_10 tiny_11 h0_0 h0_1 = some r → kont E0 (round_Round.Q a0 a1_0 a1_1 a2 a3 r) (frs (bodyOf Tryd.f43) [1, 1, 1, 1, 1, 0, 1] []) .normal ⟨[.b neg_0, .u, .i .i64 exp_2, .b more_3, .u, .p (some (0, 0)), .u, .u, .u, .u, .i .i64 drop_10, .b tiny_11, .u, .u, .u, .u, .u, .u, .u, .u, .u, .u, .u, .u, .u, .u, .u, .u, .u, .u, .u, .u, .u, .u, .u, .u, .u, .u, .u, .u, .u, .u, .u, .u, .u, .u, .u, .u, .u, .u, .u, .u, .u, .u, .u, .u, .u, .u, .u, .u, .u, .u, .u, .u, .u, .u, .u, .u, .u, .u, .u, .u, .u, .u, .u, .u, .u, .u, .u, .u, .u, .u, .u, .u, .u, .u, .u, .u, .u, .u, .u, .u, .u, .u, .u, .u, .u, .u, .u, .u, .u, .u, .u, .u, .u, .u, .u, .u, .u, .u, .u, .u, .u, .u, .u, .u, .u, .u, .u, .u, .u, .u, .u, .u, .u, .u, .u, .u, .u, .u, .u, .u, .u, .u, .u, .u, .u, .u, .u, .u, .u], ofL [.row [.i .u64 h0_0, .i .u64 h0_1] 0 0 true true none], 1, 0⟩) ∧
    (∀ (neg_0 : Bool) (exp_2 : Int) (more_3 : Bool) (drop_10 : Int) (tiny_11 : Bool) (lost_12 : Bool) (half_13 : Bool) (fell_15 : Bool) (h0_0 : Int) (h0_1 : Int) (h1_0 : Int) (h1_1 : Int) (r : Int × Int), round_Round.j1 k neg_0 exp_2 more_3 drop_10 tiny_11 lost_12 half_13 fell_15 h1_0 h1_1 = some r → kont E0 (round_Round.Q a0 a1_0 a1_1 a2 a3 r) (frs (bodyOf Tryd.f43) [1, 1, 1, 1, 1, 1, 1, 0, 1, 0, 1, 1, 1, 0] []) .normal ⟨[.b neg_0, .u, .i .i64 exp_2, .b more_3, .u, .p (some (0, 0)), .u, .u, .u, .u, .i .i64 drop_10, .b tiny_11, .b lost_12, .b half_13, .p (some (1, 0)), .b fell_15, .u, .u, .u, .u, .u, .u, .u, .u, .u, .u, .u, .u, .u, .u, .u, .u, .u, .u, .u, .u, .u, .u, .u, .u, .u, .u, .u, .u, .u, .u, .u, .u, .u, .u, .u, .u, .u, .u, .u, .u, .u, .u, .u, .u, .u, .u, .u, .u, .u, .u, .u, .u, .u, .u, .u, .u, .u, .u, .u, .u, .u, .u, .u, .u, .u, .u, .u, .u, .u, .u, .u, .u, .u, .u, .u, .u, .u, .u, .u, .u, .u, .u, .u, .u, .u, .u, .u, .u, .u, .u, .u, .u, .u, .u, .u, .u, .u, .u, .u, .u, .u, .u, .u, .u, .u, .u, .u, .u, .u, .u, .u, .u, .u, .u, .u, .u, .u, .u, .u, .u, .u, .u, .u, .u, .u], ofL [.row [.i .u64 h0_0, .i .u64 h0_1] 0 0 true true none, .row [.i .u64 h1_0, .i .u64 h1_1] 0 0 true true none], 2, 0⟩) ∧
    (∀ (neg_0 : Bool) (exp_2 : Int) (drop_10 : Int) (tiny_11 : Bool) (lost_12 : Bool) (t_91 : Bool) (h0_0 : Int) (h0_1 : Int) (r : Int × Int), round_Round.j3 k neg_0 exp_2 drop_10 tiny_11 lost_12 t_91 h0_0 h0_1 = some r → kont E0 (round_Round.Q a0 a1_0 a1_1 a2 a3 r) (frs (bodyOf Tryd.f43) [1, 1, 1, 1, 1, 1, 1, 0, 1, 1, 0] []) .normal ⟨[.b neg_0, .u, .i .i64 exp_2, .u, .u, .p (some (0, 0)), .u, .u, .u, .u, .i .i64 drop_10, .b tiny_11, .b lost_12, .u, .u, .u, .u, .u, .u, .u, .u, .u, .u, .u, .u, .u, .u, .u, .u, .u, .u, .u, .u, .u, .u, .u, .u, .u, .u, .u, .u, .u, .u, .u, .u, .u, .u, .u, .u, .u, .u, .u, .u, .u, .u, .u, .u, .u, .u, .u, .u, .u, .u, .u, .u, .u, .u, .u, .u, .u, .u, .u, .u, .u, .u, .u, .u, .u, .u, .u, .u, .u, .u, .u, .u, .u, .u, .u, .u, .u, .u, .b t_91, .u, .u, .u, .u, .u, .u, .u, .u, .u, .u, .u, .u, .u, .u, .u, .u, .u, .u, .u, .u, .u, .u, .u, .u, .u, .u, .u, .u, .u, .u, .u, .u, .u, .u, .u, .u, .u, .u, .u, .u, .u, .u, .u, .u, .u, .u, .u, .u, .u], ofL [.row [.i .u64 h0_0, .i .u64 h0_1] 0 0 true true none], 1, 0⟩) ∧
    (∀ (neg_0 : Bool) (exp_2 : Int) (drop_10 : Int) (tiny_11 : Bool) (lost_12 : Bool) (t_79 : Bool) (h0_0 : Int) (h0_1 : Int) (r : Int × Int), round_Round.j2 k neg_0 exp_2 drop_10 tiny_11 lost_12 t_79 h0_0 h0_1 = some r → kont E0 (round_Round.Q a0 a1_0 a1_1 a2 a3 r) (frs (bodyOf Tryd.f43) [1, 1, 1, 1, 1, 1, 1, 0, 1, 0, 1, 1, 1, 1, 1, 0] []) .normal ⟨[.b neg_0, .u, .i .i64 exp_2, .u, .u, .p (some (0, 0)), .u, .u, .u, .u, .i .i64 drop_10, .b tiny_11, .b lost_12, .u, .u, .u, .u, .u, .u, .u, .u, .u, .u, .u, .u, .u, .u, .u, .u, .u, .u, .u, .u, .u, .u, .u, .u, .u, .u, .u, .u, .u, .u, .u, .u, .u, .u, .u, .u, .u, .u, .u, .u, .u, .u, .u, .u, .u, .u, .u, .u, .u, .u, .u, .u, .u, .u, .u, .u, .u, .u, .u, .u, .u, .u, .u, .u, .u, .u, .b t_79, .u, .u, .u, .u, .u, .u, .u, .u, .u, .u, .u, .u, .u, .u, .u, .u, .u, .u, .u, .u, .u, .u, .u, .u, .u, .u, .u, .u, .u, .u, .u, .u, .u, .u, .u, .u, .u, .u, .u, .u, .u, .u, .u, .u, .u, .u, .u, .u, .u, .u, .u, .u, .u, .u, .u, .u, .u, .u, .u, .u, .u], ofL [.row [.i .u64 h0_0, .i .u64 h0_1] 0 0 true true none], 1, 0⟩) ∧
    (∀ (neg_0 : Bool) (exp_2 : Int) (drop_10 : Int) (tiny_11 : Bool) (lost_12 : Bool) (h0_0 : Int) (h0_1 : Int) (r : Int × Int), round_Round.j4 k neg_0 exp_2 drop_10 tiny_11 lost_12 h0_0 h0_1 = some r → kont E0 (round_Round.Q a0 a1_0 a1_1 a2 a3 r) (frs (bodyOf Tryd.f43) [1, 1, 1, 1, 1, 1, 1, 0, 1] []) .normal ⟨[.b neg_0, .u, .i .i64 exp_2, .u, .u, .p (some (0, 0)), .u, .u, .u, .u, .i .i64 drop_10, .b tiny_11, .b lost_12, .u, .u, .u, .u, .u, .u, .u, .u, .u, .u, .u, .u, .u, .u, .u, .u, .u, .u, .u, .u, .u, .u, .u, .u, .u, .u, .u, .u, .u, .u, .u, .u, .u, .u, .u, .u, .u, .u, .u, .u, .u, .u, .u, .u, .u, .u, .u, .u, .u, .u, .u, .u, .u, .u, .u, .u, .u, .u, .u, .u, .u, .u, .u, .u, .u, .u, .u, .u, .u, .u, .u, .u, .u, .u, .u, .u, .u, .u, .u, .u, .u, .u, .u, .u, .u, .u, .u, .u, .u, .u, .u, .u, .u, .u, .u, .u, .u, .u, .u, .u, .u, .u, .u, .u, .u, .u, .u, .u, .u, .u, .u, .u, .u, .u, .u, .u, .u, .u, .u, .u, .u, .u, .u, .u, .u, .u, .u, .u], ofL [.row [.i .u64 h0_0, .i .u64 h0_1] 0 0 true true none], 1, 0⟩) ∧
    (∀ (neg_0 : Bool) (exp_2 : Int) (tiny_11 : Bool) (lost_12 : Bool) (m_16 : Int) (r : Int × Int), round_Round.j5 k neg_0 exp_2 tiny_11 lost_12 m_16 = some r → kont E0 (round_Round.Q a0 a1_0 a1_1 a2 a3 r) (frs (bodyOf Tryd.f43) [1, 1, 1, 1, 1, 1, 1, 1, 1, 1, 0, 1] []) .normal ⟨[.b neg_0, .u, .i .i64 exp_2, .u, .u, .u, .u, .u, .u, .u, .u, .b tiny_11, .b lost_12, .u, .u, .u, .i .u64 m_16, .u, .u, .u, .u, .u, .u, .u, .u, .u, .u, .u, .u, .u, .u, .u, .u, .u, .u, .u, .u, .u, .u, .u, .u, .u, .u, .u, .u, .u, .u, .u, .u, .u, .u, .u, .u, .u, .u, .u, .u, .u, .u, .u, .u, .u, .u, .u, .u, .u, .u, .u, .u, .u, .u, .u, .u, .u, .u, .u, .u, .u, .u, .u, .u, .u, .u, .u, .u, .u, .u, .u, .u, .u, .u, .u, .u, .u, .u, .u, .u, .u, .u, .u, .u, .u, .u, .u, .u, .u, .u, .u, .u, .u, .u, .u, .u, .u, .u, .u, .u, .u, .u, .u, .u, .u, .u, .u, .u, .u, .u, .u, .u, .u, .u, .u, .u, .u, .u, .u, .u, .u, .u, .u, .u], ofL [], 0, 0⟩) ∧
    (∀ (neg_0 : Bool) (exp_2 : Int) (m_16 : Int) (f_17 : Int) (r : Int × Int), round_Round.j6 k neg_0 exp_2 m_16 f_17 = some r → kont E0 (round_Round.Q a0 a1_0 a1_1 a2 a3 r) (frs (bodyOf Tryd.f43) [1, 1, 1, 1, 1, 1, 1, 1, 1, 1, 1, 1, 0, 1] []) .normal ⟨[.b neg_0, .u, .i .i64 exp_2, .u, .u, .u, .u, .u, .u, .u, .u, .u, .u, .u, .u, .u, .i .u64 m_16, .i .u8 f_17, .u, .u, .u, .u, .u, .u, .u, .u, .u, .u, .u, .u, .u, .u, .u, .u, .u, .u, .u, .u, .u, .u, .u, .u, .u, .u, .u, .u, .u, .u, .u, .u, .u, .u, .u, .u, .u, .u, .u, .u, .u, .u, .u, .u, .u, .u, .u, .u, .u, .u, .u, .u, .u, .u, .u, .u, .u, .u, .u, .u, .u, .u, .u, .u, .u, .u, .u, .u, .u, .u, .u, .u, .u, .u, .u, .u, .u, .u, .u, .u, .u, .u, .u, .u, .u, .u, .u, .u, .u, .u, .u, .u, .u, .u, .u, .u, .u, .u, .u, .u, .u, .u, .u, .u, .u, .u, .u, .u, .u, .u, .u, .u, .u, .u, .u, .u, .u, .u, .u, .u, .u, .u, .u], ofL [], 0, 0⟩) := by
  induction k with
  | zero => exact ⟨fun _ _ _ _ _ _ _ r h => by simp [round_Round.j0] at h, fun _ _ _ _ _ _ _ _ _ _ _ _ r h => by simp [round_Round.j1] at h, fun _ _ _ _ _ _ _ _ r h => by simp [round_Round.j3] at h, fun _ _ _ _ _ _ _ _ r h => by simp [round_Round.j2] at h, fun _ _ _ _ _ _ _ r h => by simp [round_Round.j4] at h, fun _ _ _ _ _ r h => by simp [round_Round.j5] at h, fun _ _ _ _ r h => by simp [round_Round.j6] at h⟩
  | succ k ih =>
    obtain ⟨ih0, ih1, ih2, ih3, ih4, ih5, ih6⟩ := ih
    refine ⟨?_, ?_, ?_, ?_, ?_, ?_, ?_⟩
    · intro neg_0 exp_2 more_3 drop_10 tiny_11 h0_0 h0_1 r H
      unfold round_Round.j0 at H
      simp only [bodyOf, Tryd.f43, frs, sub, if_true, if_false, Nat.one_ne_zero]
      refine k_seq ?_
      refine w_seq ?_
      refine wR fun K hK => ?_
      refine g_mv rfl rfl (gT ?_)
      refine g_as rfl rfl (gT ?_)
      refine g_nil (hK _ _ _ ?_)
      refine k_seq ?_
      refine w_seq ?_
      refine w_seq ?_
      refine wR fun K hK => ?_
      refine g_mv rfl rfl (gT ?_)
      refine g_bin rfl rfl rfl rfl rfl (gT ?_)
      refine g_nil (hK _ _ _ ?_)
      refine k_seq ?_
      rcases its H with ⟨c9, H⟩ | ⟨c9, H⟩
      · have c9b := decide_eq_true c9; try simp only [c9b, nrm]
        refine w_cond rfl (fun _ => ?_) (fun h => Bool.noConfusion h)
        refine w_seq ?_
        refine wR fun K hK => ?_
        refine g_as rfl rfl (gT ?_)
        refine g_nil (hK _ _ _ ?_)
        refine k_seq ?_
        refine w_seq ?_
        refine wR fun K hK => ?_
        refine g_lda rfl rfl ag83 sz83 rfl rfl (Nat.le_of_ble_eq_true rfl) (gT ?_)
        refine g_mv rfl rfl (gT ?_)
        obtain ⟨q10, hq10, H⟩ := bnd H
        refine g_cs [] rfl rfl (by rfl) Tryd.func51 rfl (by decide) (wide_Wide_Right.does hq10) ⟨Nat.le_of_ble_eq_true rfl, Nat.le_of_ble_eq_true rfl⟩ ?_; refine gC ?_
        refine g_mv rfl rfl (gT ?_)
        refine g_ext rfl rfl rfl (Nat.le_of_ble_eq_true rfl) (gT ?_)
        refine g_ext rfl rfl rfl (Nat.le_of_ble_eq_true rfl) (gT ?_)
        refine g_alloc rfl rfl zr83 (gU ?_)
        refine g_st rfl rfl sz83 rfl rfl rfl (by rfl) (Nat.le_of_ble_eq_true rfl) (gU ?_)
        refine g_as rfl rfl (gT ?_)
        refine g_nil (hK _ _ _ ?_)
        refine k_seq ?_
        refine w_seq ?_
        refine wR fun K hK => ?_
        refine g_lda rfl rfl ag83 sz83 rfl rfl (Nat.le_of_ble_eq_true rfl) (gT ?_)
        refine g_mv rfl rfl (gT ?_)
        refine g_mv rfl rfl (gT ?_)
        obtain ⟨q11, hq11, H⟩ := bnd H
        refine g_cs [] rfl rfl (by rfl) Tryd.func52 rfl (by decide) (round_split.does hq11) ⟨Nat.le_of_ble_eq_true rfl, Nat.le_of_ble_eq_true rfl⟩ ?_; refine gC ?_
        refine g_mv rfl rfl (gT ?_)
        refine g_ext rfl rfl rfl (Nat.le_of_ble_eq_true rfl) (gT ?_)
        refine g_ext rfl rfl rfl (Nat.le_of_ble_eq_true rfl) (gT ?_)
        refine g_as rfl rfl (gT ?_)
        refine g_as rfl rfl (gT ?_)
        refine g_nil (hK _ _ _ ?_)
        refine k_seq ?_
        refine w_seq ?_
        refine wR fun K hK => ?_
        refine g_mv rfl rfl (gT ?_)
        refine g_mv rfl rfl (gT ?_)
        rcases its H with ⟨c12, H⟩ | ⟨c12, H⟩
        · have c12b : q11.1 = true := c12; try simp only [c12b, nrm]
          refine g_sk rfl rfl (gT ?_)
          refine g_pick rfl rfl rfl (gT ?_)
          refine g_mv rfl rfl (gT ?_)
          refine g_sk rfl rfl (gT ?_)
          refine g_pick rfl rfl rfl (gT ?_)
          refine g_as rfl rfl (gT ?_)
          refine g_nil (hK _ _ _ ?_)
          refine k_wk (σ := [0, 45]) [0, 1, 0, 1, 4, 0, 0, 0, 0, 0] rfl (by decide) rfl ?_; refine gC ?_
          exact gI (ih1 neg_0 exp_2 more_3 drop_10 tiny_11 true true q11.2 h0_0 h0_1 q10.1 q10.2.1 r H)
        · have c12b : q11.1 = false := Bool.eq_false_iff.mpr c12; try simp only [c12b, nrm]
          refine g_mv rfl rfl (gT ?_)
          refine g_pick rfl rfl rfl (gT ?_)
          refine g_mv rfl rfl (gT ?_)
          rcases its H with ⟨c13, H⟩ | ⟨c13, H⟩
          · have c13b : q11.2 = true := c13; try simp only [c13b, nrm]
            refine g_sk rfl rfl (gT ?_)
            refine g_pick rfl rfl rfl (gT ?_)
            refine g_as rfl rfl (gT ?_)
            refine g_nil (hK _ _ _ ?_)
            refine k_wk (σ := [0, 45]) [0, 1, 0, 1, 4, 0, 0, 0, 0, 0] rfl (by decide) rfl ?_; refine gC ?_
            exact gI (ih1 neg_0 exp_2 more_3 drop_10 tiny_11 true false true h0_0 h0_1 q10.1 q10.2.1 r H)
          · have c13b : q11.2 = false := Bool.eq_false_iff.mpr c13; try simp only [c13b, nrm]
            refine g_mv rfl rfl (gT ?_)
            refine g_pick rfl rfl rfl (gT ?_)
            refine g_as rfl rfl (gT ?_)
            refine g_nil (hK _ _ _ ?_)
            refine k_wk (σ := [0, 45]) [0, 1, 0, 1, 4, 0, 0, 0, 0, 0] rfl (by decide) rfl ?_; refine gC ?_
            exact gI (ih1 neg_0 exp_2 more_3 drop_10 tiny_11 more_3 false false h0_0 h0_1 q10.1 q10.2.1 r H)
      · have c9b := decide_eq_false c9; try simp only [c9b, nrm]
        refine w_cond rfl (fun h => Bool.noConfusion h) (fun _ => ?_)
        refine w_seq ?_
        refine wR fun K hK => ?_
        refine g_mv rfl rfl (gT ?_)
        refine g_bin rfl rfl rfl rfl rfl (gT ?_)
        refine g_mv rfl rfl (gT ?_)
        rcases its H with ⟨c14, H⟩ | ⟨c14, H⟩
        · have c14b := decide_eq_true c14; try simp only [c14b, nrm]
          refine g_mv rfl rfl (gT ?_)
          refine g_un rfl rfl rfl rfl (gT ?_)
          refine g_pick rfl rfl rfl (gT ?_)
          refine g_nil (hK _ _ _ ?_)
          refine k_wk (σ := [0]) [0, 1, 2, 4, 0, 0, 78] rfl (by decide) rfl ?_; refine gC ?_
          exact gI (ih2 neg_0 exp_2 drop_10 tiny_11 more_3 (!more_3) h0_0 h0_1 r H)
        · have c14b := decide_eq_false c14; try simp only [c14b, nrm]
          refine g_sk rfl rfl (gT ?_)
          refine g_sk rfl rfl (gT ?_)
          refine g_pick rfl rfl rfl (gT ?_)
          refine g_nil (hK _ _ _ ?_)
          refine k_wk (σ := [0]) [0, 1, 2, 4, 0, 0, 78] rfl (by decide) rfl ?_; refine gC ?_
          exact gI (ih2 neg_0 exp_2 drop_10 tiny_11 more_3 false h0_0 h0_1 r H)
    · intro neg_0 exp_2 more_3 drop_10 tiny_11 lost_12 half_13 fell_15 h0_0 h0_1 h1_0 h1_1 r H
      unfold round_Round.j1 at H
      simp only [bodyOf, Tryd.f43, frs, sub, if_true, if_false, Nat.one_ne_zero]
      refine k_seq ?_
      refine w_seq ?_
      refine wR fun K hK => ?_
      refine g_lda rfl rfl ag83 sz83 rfl rfl (Nat.le_of_ble_eq_true rfl) (gT ?_)
      refine g_st rfl rfl sz83 rfl rfl rfl (by rfl) (Nat.le_of_ble_eq_true rfl) (gU ?_)
      refine g_nil (hK _ _ _ ?_)
      refine k_seq ?_
      refine w_seq ?_
      refine wR fun K hK => ?_
      refine g_mv rfl rfl (gT ?_)
      refine g_mv rfl rfl (gT ?_)
      rcases its H with ⟨c15, H⟩ | ⟨c15, H⟩
      · have c15b : half_13 = true := c15; try simp only [c15b, nrm]
        refine g_mv rfl rfl (gT ?_)
        refine g_mv rfl rfl (gT ?_)
        rcases its H with ⟨c16, H⟩ | ⟨c16, H⟩
        · have c16b : fell_15 = true := c16; try simp only [c16b, nrm]
          refine g_sk rfl rfl (gT ?_)
          refine g_pick rfl rfl rfl (gT ?_)
          refine g_mv rfl rfl (gT ?_)
          refine g_sk rfl rfl (gT ?_)
          refine g_sk rfl rfl (gT ?_)
          refine g_sk rfl rfl (gT ?_)
          refine g_sk rfl rfl (gT ?_)
          refine g_pick rfl rfl rfl (gT ?_)
          refine g_pick rfl rfl rfl (gT ?_)
          refine g_nil (hK _ _ _ ?_)
          refine k_wk (σ := [0]) [0, 1, 2, 4, 0, 0, 66] rfl (by decide) rfl ?_; refine gC ?_
          exact gI (ih3 neg_0 exp_2 drop_10 tiny_11 lost_12 true h1_0 h1_1 r H)
        · have c16b : fell_15 = false := Bool.eq_false_iff.mpr c16; try simp only [c16b, nrm]
          refine g_mv rfl rfl (gT ?_)
          refine g_pick rfl rfl rfl (gT ?_)
          refine g_mv rfl rfl (gT ?_)
          rcases its H with ⟨c17, H⟩ | ⟨c17, H⟩
          · have c17b : more_3 = true := c17; try simp only [c17b, nrm]
            refine g_sk rfl rfl (gT ?_)
            refine g_sk rfl rfl (gT ?_)
            refine g_sk rfl rfl (gT ?_)
            refine g_sk rfl rfl (gT ?_)
            refine g_pick rfl rfl rfl (gT ?_)
            refine g_pick rfl rfl rfl (gT ?_)
            refine g_nil (hK _ _ _ ?_)
            refine k_wk (σ := [0]) [0, 1, 2, 4, 0, 0, 66] rfl (by decide) rfl ?_; refine gC ?_
            exact gI (ih3 neg_0 exp_2 drop_10 tiny_11 lost_12 true h1_0 h1_1 r H)
          · have c17b : more_3 = false := Bool.eq_false_iff.mpr c17; try simp only [c17b, nrm]
            refine g_fd rfl rfl fa83_1 rfl (gT ?_)
            refine g_ldc rfl rfl ag23 sz23 rfl rfl rfl (gT ?_)
            refine g_bin rfl rfl rfl rfl rfl (gT ?_)
            refine g_bin rfl rfl rfl rfl rfl (gT ?_)
            refine g_pick rfl rfl rfl (gT ?_)
            refine g_pick rfl rfl rfl (gT ?_)
            refine g_nil (hK _ _ _ ?_)
            refine k_wk (σ := [0]) [0, 1, 2, 4, 0, 0, 66] rfl (by decide) rfl ?_; refine gC ?_
            exact gI (ih3 neg_0 exp_2 drop_10 tiny_11 lost_12 ((Go.bits .and .u64 h1_1 1) == 1) h1_0 h1_1 r H)
      · have c15b : half_13 = false := Bool.eq_false_iff.mpr c15; try simp only [c15b, nrm]
        refine g_sk rfl rfl (gT ?_)
        refine g_sk rfl rfl (gT ?_)
        refine g_sk rfl rfl (gT ?_)
        refine g_sk rfl rfl (gT ?_)
        refine g_sk rfl rfl (gT ?_)
        refine g_sk rfl rfl (gT ?_)
        refine g_sk rfl rfl (gT ?_)
        refine g_sk rfl rfl (gT ?_)
        refine g_sk rfl rfl (gT ?_)
        refine g_sk rfl rfl (gT ?_)
        refine g_pick rfl rfl rfl (gT ?_)
        refine g_nil (hK _ _ _ ?_)
        refine k_wk (σ := [0]) [0, 1, 2, 4, 0, 0, 66] rfl (by decide) rfl ?_; refine gC ?_
        exact gI (ih3 neg_0 exp_2 drop_10 tiny_11 lost_12 false h1_0 h1_1 r H)
    · intro neg_0 exp_2 drop_10 tiny_11 lost_12 t_91 h0_0 h0_1 r H
      unfold round_Round.j3 at H
      simp only [bodyOf, Tryd.f43, frs, sub, if_true, if_false, Nat.one_ne_zero]
      refine k_seq ?_
      rcases its H with ⟨c18, H⟩ | ⟨c18, H⟩
      · have c18b : t_91 = true := c18; try simp only [c18b, nrm]
        refine w_cond rfl (fun _ => ?_) (fun h => Bool.noConfusion h)
        refine wR fun K hK => ?_
        refine g_lda rfl rfl ag83 sz83 rfl rfl (Nat.le_of_ble_eq_true rfl) (gT ?_)
        refine g_mv rfl rfl (gT ?_)
        refine g_un rfl rfl rfl rfl (gT ?_)
        obtain ⟨q19, hq19, H⟩ := bnd H
        refine g_cs [] rfl rfl (by rfl) Tryd.func54 rfl (by decide) (wide_Wide_Left.does hq19) ⟨Nat.le_of_ble_eq_true rfl, Nat.le_of_ble_eq_true rfl⟩ ?_; refine gC ?_
        refine g_st rfl rfl sz83 rfl rfl rfl (by rfl) (Nat.le_of_ble_eq_true rfl) (gU ?_)
        refine g_nil (hK _ _ _ ?_)
        refine k_wk (σ := [0]) [0, 1, 2, 4, 0, 0] rfl (by decide) rfl ?_; refine gC ?_
        exact gI (ih4 neg_0 exp_2 drop_10 tiny_11 lost_12 q19.1 q19.2 r H)
      · have c18b : t_91 = false := Bool.eq_false_iff.mpr c18; try simp only [c18b, nrm]
        refine w_cond rfl (fun h => Bool.noConfusion h) (fun _ => ?_)
        refine w_seq ?_
        refine wR fun K hK => ?_
        refine g_mv rfl rfl (gT ?_)
        refine g_bin rfl rfl rfl rfl rfl (gT ?_)
        refine g_nil (hK _ _ _ ?_)
        refine k_seq ?_
        rcases its H with ⟨c20, H⟩ | ⟨c20, H⟩
        · have c20b := decide_eq_true c20; try simp only [c20b, nrm]
          refine w_cond rfl (fun _ => ?_) (fun h => Bool.noConfusion h)
          refine wR fun K hK => ?_
          refine g_lda rfl rfl ag83 sz83 rfl rfl (Nat.le_of_ble_eq_true rfl) (gT ?_)
          refine g_mv rfl rfl (gT ?_)
          refine g_un rfl rfl rfl rfl (gT ?_)
          obtain ⟨q21, hq21, H⟩ := bnd H
          refine g_cs [] rfl rfl (by rfl) Tryd.func54 rfl (by decide) (wide_Wide_Left.does hq21) ⟨Nat.le_of_ble_eq_true rfl, Nat.le_of_ble_eq_true rfl⟩ ?_; refine gC ?_
          refine g_st rfl rfl sz83 rfl rfl rfl (by rfl) (Nat.le_of_ble_eq_true rfl) (gU ?_)
          refine g_nil (hK _ _ _ ?_)
          refine k_wk (σ := [0]) [0, 1, 2, 4, 0, 0] rfl (by decide) rfl ?_; refine gC ?_
          exact gI (ih4 neg_0 exp_2 drop_10 tiny_11 lost_12 q21.1 q21.2 r H)
        · have c20b := decide_eq_false c20; try simp only [c20b, nrm]
          refine w_cond rfl (fun h => Bool.noConfusion h) (fun _ => ?_)
          refine w_skip ?_
          refine k_wk (σ := [0]) [0, 1, 2, 4, 0, 0] rfl (by decide) rfl ?_; refine gC ?_
          exact gI (ih4 neg_0 exp_2 drop_10 tiny_11 lost_12 h0_0 h0_1 r H)
    · intro neg_0 exp_2 drop_10 tiny_11 lost_12 t_79 h0_0 h0_1 r H
      unfold round_Round.j2 at H
      simp only [bodyOf, Tryd.f43, frs, sub, if_true, if_false, Nat.one_ne_zero]
      refine k_seq ?_
      rcases its H with ⟨c22, H⟩ | ⟨c22, H⟩
      · have c22b : t_79 = true := c22; try simp only [c22b, nrm]
        refine w_cond rfl (fun _ => ?_) (fun h => Bool.noConfusion h)
        refine wR fun K hK => ?_
        refine g_lda rfl rfl ag83 sz83 rfl rfl (Nat.le_of_ble_eq_true rfl) (gT ?_)
        refine g_bd rfl rfl zr83 Tryd.underlying83 (pl := [(0, 1), (1, 1)]) (by kernel_rfl) ?_; refine gB ?_
        obtain ⟨q23, hq23, H⟩ := bnd H
        refine g_cs [] rfl rfl (by rfl) Tryd.func53 rfl (by decide) (wide_Wide_Add.does hq23) ⟨Nat.le_of_ble_eq_true rfl, Nat.le_of_ble_eq_true rfl⟩ ?_; refine gC ?_
        refine g_mv rfl rfl (gT ?_)
        refine g_ext rfl rfl rfl (Nat.le_of_ble_eq_true rfl) (gT ?_)
        refine g_ext rfl rfl rfl (Nat.le_of_ble_eq_true rfl) (gT ?_)
        refine g_st rfl rfl sz83 rfl rfl rfl (by rfl) (Nat.le_of_ble_eq_true rfl) (gU ?_)
        refine g_nil (hK _ _ _ ?_)
        refine k_wk (σ := [0]) [0, 1, 2, 4, 0, 0] rfl (by decide) rfl ?_; refine gC ?_
        exact gI (ih4 neg_0 exp_2 drop_10 tiny_11 lost_12 q23.1 q23.2.1 r H)
      · have c22b : t_79 = false := Bool.eq_false_iff.mpr c22; try simp only [c22b, nrm]
        refine w_cond rfl (fun h => Bool.noConfusion h) (fun _ => ?_)
        refine w_skip ?_
        refine k_wk (σ := [0]) [0, 1, 2, 4, 0, 0] rfl (by decide) rfl ?_; refine gC ?_
        exact gI (ih4 neg_0 exp_2 drop_10 tiny_11 lost_12 h0_0 h0_1 r H)
    · intro neg_0 exp_2 drop_10 tiny_11 lost_12 h0_0 h0_1 r H
      unfold round_Round.j4 at H
      simp only [bodyOf, Tryd.f43, frs, sub, if_true, if_false, Nat.one_ne_zero]
      refine k_seq ?_
      refine w_seq ?_
      refine wR fun K hK => ?_
      refine g_mv rfl rfl (gT ?_)
      refine g_mv rfl rfl (gT ?_)
      refine g_bin rfl rfl rfl rfl rfl (gT ?_)
      refine g_as rfl rfl (gT ?_)
      refine g_nil (hK _ _ _ ?_)
      refine k_seq ?_
      refine w_seq ?_
      refine wR fun K hK => ?_
      refine g_fd rfl rfl fa83_1 rfl (gT ?_)
      refine g_ldc rfl rfl ag23 sz23 rfl rfl rfl (gT ?_)
      refine g_as rfl rfl (gT ?_)
      refine g_nil (hK _ _ _ ?_)
      refine k_seq ?_
      refine w_seq ?_
      refine w_seq ?_
      refine wR fun K hK => ?_
      refine g_mv rfl rfl (gT ?_)
      refine g_bin rfl rfl rfl rfl rfl (gT ?_)
      refine g_nil (hK _ _ _ ?_)
      refine k_seq ?_
      rcases its H with ⟨c24, H⟩ | ⟨c24, H⟩
      · have c24b := beq_iff_eq.mpr c24; have c24n := bne_eq_false_iff_eq.mpr c24; try simp only [c24b, c24n, nrm]
        refine w_cond rfl (fun _ => ?_) (fun h => Bool.noConfusion h)
        refine wR fun K hK => ?_
        refine g_mv rfl rfl (gT ?_)
        refine g_shrc (p := 2) rfl rfl rfl rfl (by decide) (by rfl) (gT ?_)
        refine g_mv rfl rfl (gT ?_)
        refine g_bin rfl rfl rfl rfl rfl (gT ?_)
        refine g_as rfl rfl (gT ?_)
        refine g_as rfl rfl (gT ?_)
        refine g_nil (hK _ _ _ ?_)
        refine k_wk (σ := []) [0, 1, 8, 0, 3] rfl (by decide) rfl ?_; refine gC ?_
        exact gI (ih5 neg_0 (wrap64 ((wrap64 (exp_2 + drop_10)) + 1)) tiny_11 lost_12 (h0_1 / 2) r H)
      · have c24b := beq_eq_false_iff_ne.mpr c24; have c24n := bne_iff_ne.mpr c24; try simp only [c24b, c24n, nrm]
        refine w_cond rfl (fun h => Bool.noConfusion h) (fun _ => ?_)
        refine w_skip ?_
        refine k_wk (σ := []) [0, 1, 8, 0, 3] rfl (by decide) rfl ?_; refine gC ?_
        exact gI (ih5 neg_0 (wrap64 (exp_2 + drop_10)) tiny_11 lost_12 h0_1 r H)
    · intro neg_0 exp_2 tiny_11 lost_12 m_16 r H
      unfold round_Round.j5 at H
      simp only [bodyOf, Tryd.f43, frs, sub, if_true, if_false, Nat.one_ne_zero]
      refine k_seq ?_
      refine w_seq ?_
      refine wR fun K hK => ?_
      refine g_as rfl rfl (gT ?_)
      refine g_nil (hK _ _ _ ?_)
      refine k_seq ?_
      refine w_seq ?_
      refine w_seq ?_
      refine wR fun K hK => ?_
      refine g_mv rfl rfl (gT ?_)
      refine g_nil (hK _ _ _ ?_)
      refine k_seq ?_
      rcases its H with ⟨c25, H⟩ | ⟨c25, H⟩
      · have c25b : lost_12 = true := c25; try simp only [c25b, nrm]
        refine w_cond rfl (fun _ => ?_) (fun h => Bool.noConfusion h)
        refine w_seq ?_
        refine wR fun K hK => ?_
        refine g_mv rfl rfl (gT ?_)
        refine g_bin rfl rfl rfl rfl rfl (gT ?_)
        refine g_as rfl rfl (gT ?_)
        refine g_nil (hK _ _ _ ?_)
        refine k_seq ?_
        refine w_seq ?_
        refine wR fun K hK => ?_
        refine g_mv rfl rfl (gT ?_)
        refine g_nil (hK _ _ _ ?_)
        refine k_seq ?_
        rcases its H with ⟨c26, H⟩ | ⟨c26, H⟩
        · have c26b : tiny_11 = true := c26; try simp only [c26b, nrm]
          refine w_cond rfl (fun _ => ?_) (fun h => Bool.noConfusion h)
          refine wR fun K hK => ?_
          refine g_mv rfl rfl (gT ?_)
          refine g_bin rfl rfl rfl rfl rfl (gT ?_)
          refine g_as rfl rfl (gT ?_)
          refine g_nil (hK _ _ _ ?_)
          refine k_wk (σ := []) [0, 1, 13, 0] rfl (by decide) rfl ?_; refine gC ?_
          exact gI (ih6 neg_0 exp_2 m_16 (Go.bits .or .u8 (Go.bits .or .u8 0 1) 2) r H)
        · have c26b : tiny_11 = false := Bool.eq_false_iff.mpr c26; try simp only [c26b, nrm]
          refine w_cond rfl (fun h => Bool.noConfusion h) (fun _ => ?_)
          refine w_skip ?_
          refine k_wk (σ := []) [0, 1, 13, 0] rfl (by decide) rfl ?_; refine gC ?_
          exact gI (ih6 neg_0 exp_2 m_16 (Go.bits .or .u8 0 1) r H)
      · have c25b : lost_12 = false := Bool.eq_false_iff.mpr c25; try simp only [c25b, nrm]
        refine w_cond rfl (fun h => Bool.noConfusion h) (fun _ => ?_)
        refine w_skip ?_
        refine k_wk (σ := []) [0, 1, 13, 0] rfl (by decide) rfl ?_; refine gC ?_
        exact gI (ih6 neg_0 exp_2 m_16 0 r H)
    · intro neg_0 exp_2 m_16 f_17 r H
      unfold round_Round.j6 at H
      simp only [bodyOf, Tryd.f43, frs, sub, if_true, if_false, Nat.one_ne_zero]
      refine k_seq ?_
      refine w_seq ?_
      refine w_block ?_
      refine w_seq ?_
      refine wR fun K hK => ?_
      refine g_mv rfl rfl (gT ?_)
      refine g_bin rfl rfl rfl rfl rfl (gT ?_)
      refine g_as rfl rfl (gT ?_)
      refine g_nil (hK _ _ _ ?_)
      refine k_seq ?_
      rcases its H with ⟨c27, H⟩ | ⟨c27, H⟩
      · have c27b := decide_eq_true c27; try simp only [c27b, nrm]
        refine w_cond rfl (fun _ => ?_) (fun h => Bool.noConfusion h)
        refine w_seq ?_
        refine wR fun K hK => ?_
        refine g_mv rfl rfl (gT ?_)
        refine g_mv rfl rfl (gT ?_)
        obtain ⟨q28, hq28, H⟩ := bnd H
        refine g_cs [] rfl rfl (by rfl) Tryd.func23 rfl (by decide) (word_Make.does hq28) ⟨Nat.le_of_ble_eq_true rfl, Nat.le_of_ble_eq_true rfl⟩ ?_; refine gC ?_
        refine g_mv rfl rfl (gT ?_)
        refine g_as rfl rfl (gT ?_)
        refine g_as rfl rfl (gT ?_)
        refine g_nil (hK _ _ _ ?_)
        refine k_seq ?_
        refine w_ret ?_
        refine fin_wp (τ := []) rfl (by decide) ?_; rw [← Option.some.inj H]; simp only [Tryd.f43]; exact gF
      · have c27b := decide_eq_false c27; try simp only [c27b, nrm]
        refine w_cond rfl (fun h => Bool.noConfusion h) (fun _ => ?_)
        refine w_seq ?_
        refine wR fun K hK => ?_
        refine g_mv rfl rfl (gT ?_)
        refine g_bin rfl rfl rfl rfl rfl (gT ?_)
        refine g_bin rfl rfl rfl rfl rfl (gT ?_)
        refine g_as rfl rfl (gT ?_)
        refine g_nil (hK _ _ _ ?_)
        refine k_seq ?_
        rcases its H with ⟨c29, H⟩ | ⟨c29, H⟩
        · have c29b := decide_eq_true c29; try simp only [c29b, nrm]
          refine w_cond rfl (fun _ => ?_) (fun h => Bool.noConfusion h)
          refine w_seq ?_
          refine wR fun K hK => ?_
          refine g_mv rfl rfl (gT ?_)
          obtain ⟨q30, hq30, H⟩ := bnd H
          refine g_cs [] rfl rfl (by rfl) Tryd.func23 rfl (by decide) (word_Make.does hq30) ⟨Nat.le_of_ble_eq_true rfl, Nat.le_of_ble_eq_true rfl⟩ ?_; refine gC ?_
          refine g_mv rfl rfl (gT ?_)
          refine g_bin rfl rfl rfl rfl rfl (gT ?_)
          refine g_bin rfl rfl rfl rfl rfl (gT ?_)
          refine g_as rfl rfl (gT ?_)
          refine g_as rfl rfl (gT ?_)
          refine g_nil (hK _ _ _ ?_)
          refine k_seq ?_
          refine w_ret ?_
          refine fin_wp (τ := []) rfl (by decide) ?_; rw [← Option.some.inj H]; simp only [Tryd.f43]; exact gF
        · have c29b := decide_eq_false c29; try simp only [c29b, nrm]
          refine w_cond rfl (fun h => Bool.noConfusion h) (fun _ => ?_)
          refine w_skip ?_
          refine k_block ?_
          refine k_seq ?_
          refine w_seq ?_
          refine wR fun K hK => ?_
          refine g_mv rfl rfl (gT ?_)
          refine g_mv rfl rfl (gT ?_)
          refine g_bin rfl rfl rfl rfl rfl (gT ?_)
          refine g_mv rfl rfl (gT ?_)
          obtain ⟨q31, hq31, H⟩ := bnd H
          refine g_cs [] rfl rfl (by rfl) Tryd.func23 rfl (by decide) (word_Make.does hq31) ⟨Nat.le_of_ble_eq_true rfl, Nat.le_of_ble_eq_true rfl⟩ ?_; refine gC ?_
          refine g_mv rfl rfl (gT ?_)
          refine g_as rfl rfl (gT ?_)
          refine g_as rfl rfl (gT ?_)
          refine g_nil (hK _ _ _ ?_)
          refine k_seq ?_
          refine w_ret ?_
          refine fin_wp (τ := []) rfl (by decide) ?_; rw [← Option.some.inj H]; simp only [Tryd.f43]; exact gF
set_option maxHeartbeats 8000000 in
set_option maxRecDepth 100000 in
theorem round_Round.does {k : Nat} {a0 : Bool} {a1_0 : Int} {a1_1 : Int} {a2 : Int} {a3 : Bool} {r : Int × Int} (H : round_Round.f k a0 a1_0 a1_1 a2 a3 = some r) : Do E0 (.fn 43 [.b a0, .a [.i .u64 a1_0, .i .u64 a1_1], .i .i64 a2, .b a3] [] (.t [.i .u64 r.1, .i .u8 r.2]) []) := by
  obtain ⟨ih0, ih1, ih2, ih3, ih4, ih5, ih6⟩ := round_Round.does_l (a0 := a0) (a1_0 := a1_0) (a1_1 := a1_1) (a2 := a2) (a3 := a3) k
  refine fn_wpl Tryd.func43 rfl (Q := (round_Round.Q a0 a1_0 a1_1 a2 a3 r)) (fun s h => h) ?_
  unfold round_Round.f at H
  simp only [Tryd.ntmps43, List.length, List.replicate, Nat.reduceAdd, Nat.reduceSub, List.cons_append, List.nil_append]
  refine w_seq ?_
  refine wR fun K hK => ?_
  refine g_box rfl rfl rfl (by rfl) (gU ?_)
  refine g_as rfl rfl (gT ?_)
  refine g_as rfl rfl (gT ?_)
  refine g_nil (hK _ _ _ ?_)
  refine k_seq ?_
  refine w_seq ?_
  refine wR fun K hK => ?_
  refine g_mv rfl rfl (gT ?_)
  refine g_min rfl rfl rfl rfl (m := mn _ _) rfl (gT ?_)
  refine g_max rfl rfl rfl rfl (m := mx _ _) rfl (gT ?_)
  refine g_as rfl rfl (gT ?_)
  refine g_nil (hK _ _ _ ?_)
  refine k_seq ?_
  refine w_seq ?_
  refine w_seq ?_
  refine wR fun K hK => ?_
  refine g_lda rfl rfl ag83 sz83 rfl rfl (Nat.le_of_ble_eq_true rfl) (gT ?_)
  obtain ⟨q1, hq1, H⟩ := bnd H
  refine g_cs [] rfl rfl (by rfl) Tryd.func49 rfl (by decide) (wide_Wide_Zero.does hq1) ⟨Nat.le_of_ble_eq_true rfl, Nat.le_of_ble_eq_true rfl⟩ ?_; refine gC ?_
  refine g_nil (hK _ _ _ ?_)
  refine k_seq ?_
  rcases its H with ⟨c2, H⟩ | ⟨c2, H⟩
  · have c2b : q1 = true := c2; try simp only [c2b, nrm]
    refine w_cond rfl (fun _ => ?_) (fun h => Bool.noConfusion h)
    refine w_seq ?_
    refine w_seq ?_
    refine wR fun K hK => ?_
    refine g_mv rfl rfl (gT ?_)
    refine g_un rfl rfl rfl rfl (gT ?_)
    refine g_nil (hK _ _ _ ?_)
    refine k_seq ?_
    rcases its H with ⟨c3, H⟩ | ⟨c3, H⟩
    · have c3b : a3 = true := c3; try simp only [c3b, nrm]
      refine w_cond rfl (fun h => Bool.noConfusion h) (fun _ => ?_)
      refine w_skip ?_
      refine k_seq ?_
      refine w_seq ?_
      refine wR fun K hK => ?_
      refine g_mv rfl rfl (gT ?_)
      obtain ⟨q4, hq4, H⟩ := bnd H
      refine g_cs [] rfl rfl (by rfl) Tryd.func23 rfl (by decide) (word_Make.does hq4) ⟨Nat.le_of_ble_eq_true rfl, Nat.le_of_ble_eq_true rfl⟩ ?_; refine gC ?_
      refine g_as rfl rfl (gT ?_)
      refine g_as rfl rfl (gT ?_)
      refine g_nil (hK _ _ _ ?_)
      refine k_seq ?_
      refine w_ret ?_
      refine fin_wp (τ := []) rfl (by decide) ?_; rw [← Option.some.inj H]; simp only [Tryd.f43]; exact gF
    · have c3b : a3 = false := Bool.eq_false_iff.mpr c3; try simp only [c3b, nrm]
      refine w_cond rfl (fun _ => ?_) (fun h => Bool.noConfusion h)
      refine w_seq ?_
      refine wR fun K hK => ?_
      refine g_mv rfl rfl (gT ?_)
      obtain ⟨q5, hq5, H⟩ := bnd H
      refine g_cs [] rfl rfl (by rfl) Tryd.func23 rfl (by decide) (word_Make.does hq5) ⟨Nat.le_of_ble_eq_true rfl, Nat.le_of_ble_eq_true rfl⟩ ?_; refine gC ?_
      refine g_as rfl rfl (gT ?_)
      refine g_as rfl rfl (gT ?_)
      refine g_nil (hK _ _ _ ?_)
      refine k_seq ?_
      refine w_ret ?_
      refine fin_wp (τ := []) rfl (by decide) ?_; rw [← Option.some.inj H]; simp only [Tryd.f43]; exact gF
  · have c2b : q1 = false := Bool.eq_false_iff.mpr c2; try simp only [c2b, nrm]
    refine w_cond rfl (fun h => Bool.noConfusion h) (fun _ => ?_)
    refine w_skip ?_
    refine k_seq ?_
    refine w_seq ?_
    refine wR fun K hK => ?_
    refine g_lda rfl rfl ag83 sz83 rfl rfl (Nat.le_of_ble_eq_true rfl) (gT ?_)
    obtain ⟨q6, hq6, H⟩ := bnd H
    refine g_cs [] rfl rfl (by rfl) Tryd.func50 rfl (by decide) (wide_Wide_Len.does hq6) ⟨Nat.le_of_ble_eq_true rfl, Nat.le_of_ble_eq_true rfl⟩ ?_; refine gC ?_
    refine g_bin rfl rfl rfl rfl rfl (gT ?_)
    refine g_as rfl rfl (gT ?_)
    refine g_nil (hK _ _ _ ?_)
    refine k_seq ?_
    refine w_seq ?_
    refine wR fun K hK => ?_
    refine g_mv rfl rfl (gT ?_)
    refine g_lda rfl rfl ag83 sz83 rfl rfl (Nat.le_of_ble_eq_true rfl) (gT ?_)
    obtain ⟨q7, hq7, H⟩ := bnd H
    refine g_cs [] rfl rfl (by rfl) Tryd.func50 rfl (by decide) (wide_Wide_Len.does hq7) ⟨Nat.le_of_ble_eq_true rfl, Nat.le_of_ble_eq_true rfl⟩ ?_; refine gC ?_
    refine g_bin rfl rfl rfl rfl rfl (gT ?_)
    refine g_bin rfl rfl rfl rfl rfl (gT ?_)
    refine g_as rfl rfl (gT ?_)
    refine g_nil (hK _ _ _ ?_)
    refine k_seq ?_
    refine w_seq ?_
    refine w_seq ?_
    refine wR fun K hK => ?_
    refine g_mv rfl rfl (gT ?_)
    refine g_mv rfl rfl (gT ?_)
    refine g_bin rfl rfl rfl rfl rfl (gT ?_)
    refine g_bin rfl rfl rfl rfl rfl (gT ?_)
    refine g_nil (hK _ _ _ ?_)
    refine k_seq ?_
    rcases its H with ⟨c8, H⟩ | ⟨c8, H⟩
    · have c8b := decide_eq_true c8; try simp only [c8b, nrm]
      refine w_cond rfl (fun _ => ?_) (fun h => Bool.noConfusion h)
      refine wR fun K hK => ?_
      refine g_mv rfl rfl (gT ?_)
      refine g_bin rfl rfl rfl rfl rfl (gT ?_)
      refine g_as rfl rfl (gT ?_)
      refine g_nil (hK _ _ _ ?_)
      refine k_wk (σ := [0]) [0, 1, 0, 1, 4, 0] rfl (by decide) rfl ?_; refine gC ?_
      exact gI (ih0 a0 (mx (-100000) (mn a2 100000)) a3 (wrap64 ((-1074) - (mx (-100000) (mn a2 100000)))) (decide ((wrap64 ((mx (-100000) (mn a2 100000)) + q7)) < (-1021))) a1_0 a1_1 r H)
    · have c8b := decide_eq_false c8; try simp only [c8b, nrm]
      refine w_cond rfl (fun h => Bool.noConfusion h) (fun _ => ?_)
      refine w_skip ?_
      refine k_wk (σ := [0]) [0, 1, 0, 1, 4, 0] rfl (by decide) rfl ?_; refine gC ?_
      exact gI (ih0 a0 (mx (-100000) (mn a2 100000)) a3 (wrap64 (q6 - 53)) (decide ((wrap64 ((mx (-100000) (mn a2 100000)) + q7)) < (-1021))) a1_0 a1_1 r H)

set_option maxHeartbeats 8000000 in
set_option maxRecDepth 100000 in
theorem wide_Wide_Sub.does {a0_0 : Int} {a0_1 : Int} {a1_0 : Int} {a1_1 : Int} {r : Int × Int × Bool} (H : wide_Wide_Sub.f a0_0 a0_1 a1_0 a1_1 = some r) : Do E0 (.fn 56 [.a [.i .u64 a0_0, .i .u64 a0_1], .a [.i .u64 a1_0, .i .u64 a1_1]] [] (.t [.a [.i .u64 r.1, .i .u64 r.2.1], .b r.2.2]) []) := by
  refine fn_wpl Tryd.func56 rfl (Q := (wide_Wide_Sub.Q a0_0 a0_1 a1_0 a1_1 r)) (fun s h => h) ?_
  unfold wide_Wide_Sub.f at H
  simp only [Tryd.ntmps56, List.length, List.replicate, Nat.reduceAdd, Nat.reduceSub, List.cons_append, List.nil_append]
  refine w_seq ?_
  refine wR fun K hK => ?_
  refine g_box rfl rfl rfl (by rfl) (gU ?_)
  refine g_box rfl rfl rfl (by rfl) (gU ?_)
  refine g_alloc rfl rfl zr83 (gU ?_)
  refine g_as rfl rfl (gT ?_)
  refine g_nil (hK _ _ _ ?_)
  refine k_seq ?_
  refine w_seq ?_
  refine wR fun K hK => ?_
  refine g_fd rfl rfl fa83_1 rfl (gT ?_)
  refine g_ldc rfl rfl ag23 sz23 rfl rfl rfl (gT ?_)
  refine g_fd rfl rfl fa83_1 rfl (gT ?_)
  refine g_ldc rfl rfl ag23 sz23 rfl rfl rfl (gT ?_)
  obtain ⟨q1, hq1, H⟩ := bnd H
  refine g_ex rfl rfl Tryd.func59 rfl (bits_Sub64.ext hq1) (gT ?_)
  refine g_mv rfl rfl (gT ?_)
  refine g_ext rfl rfl rfl (Nat.le_of_ble_eq_true rfl) (gT ?_)
  refine g_ext rfl rfl rfl (Nat.le_of_ble_eq_true rfl) (gT ?_)
  refine g_as rfl rfl (gT ?_)
  refine g_as rfl rfl (gT ?_)
  refine g_nil (hK _ _ _ ?_)
  refine k_seq ?_
  refine w_seq ?_
  refine wR fun K hK => ?_
  refine g_fd rfl rfl fa83_0 rfl (gT ?_)
  refine g_ldc rfl rfl ag23 sz23 rfl rfl rfl (gT ?_)
  refine g_fd rfl rfl fa83_0 rfl (gT ?_)
  refine g_ldc rfl rfl ag23 sz23 rfl rfl rfl (gT ?_)
  refine g_mv rfl rfl (gT ?_)
  obtain ⟨q2, hq2, H⟩ := bnd H
  refine g_ex rfl rfl Tryd.func59 rfl (bits_Sub64.ext hq2) (gT ?_)
  refine g_mv rfl rfl (gT ?_)
  refine g_ext rfl rfl rfl (Nat.le_of_ble_eq_true rfl) (gT ?_)
  refine g_ext rfl rfl rfl (Nat.le_of_ble_eq_true rfl) (gT ?_)
  refine g_as rfl rfl (gT ?_)
  refine g_as rfl rfl (gT ?_)
  refine g_nil (hK _ _ _ ?_)
  refine k_seq ?_
  refine w_seq ?_
  refine wR fun K hK => ?_
  refine g_mv rfl rfl (gT ?_)
  refine g_mv rfl rfl (gT ?_)
  refine g_bd rfl rfl zr83 Tryd.underlying83 (pl := [(0, 1), (1, 1)]) (by kernel_rfl) ?_; refine gB ?_
  refine g_mv rfl rfl (gT ?_)
  refine g_bin rfl rfl rfl rfl rfl (gT ?_)
  refine g_st rfl rfl sz83 rfl rfl rfl (by rfl) (Nat.le_of_ble_eq_true rfl) (gU ?_)
  refine g_as rfl rfl (gT ?_)
  refine g_nil (hK _ _ _ ?_)
  refine k_seq ?_
  refine w_ret ?_
  refine fin_wp (τ := []) rfl (by decide) ?_; rw [← Option.some.inj H]; simp only [Tryd.f56, ag83, sz83, nrm, nrmw, nrmc, nrme, nrmo, nrml, nrmb, nrmx, Nat.reduceEqDiff, Nat.reduceBEq, Nat.zero_add, Nat.add_zero, Nat.mul_one, List.length_cons, List.length_nil, List.length_map, List.length_set, List.length_replicate, List.drop_zero, List.drop_succ_cons, List.drop_nil, List.take_zero, List.take_succ_cons, List.take_nil, Nat.le_refl, if_true, if_false, Option.any_none, Option.any_some, List.contains_nil, Bool.not_false, Bool.or_true, Bool.true_or, Bool.or_false, Bool.false_or, Bool.and_true, Bool.true_and, Bool.and_self, reduceCtorEq, beq_self_eq_true, List.map_cons, List.map_nil, List.append_nil, List.nil_append, List.contains_cons, List.filter_cons, List.filter_nil, List.cons_append, Bool.false_eq_true, true_and, and_true, List.getElem_toArray, List.getElem_cons_zero, List.getElem_cons_succ, Nat.reduceAdd, Nat.reduceMul, Nat.reduceLT, Nat.reduceSub, Nat.reduceLeDiff]; try (first | rfl | exact ⟨rfl, trivial⟩ | exact ⟨rfl, rfl⟩)

set_option maxHeartbeats 8000000 in
set_option maxRecDepth 100000 in
theorem soft_Add.does_l {a0 : Int} {a1 : Int} (k : Nat) : (∀ (a_0 : Int) (b_1 : Int) (x_9 : Int) (y_10 : Int) (t_37 : Bool) (r : Int × Int), soft_Add.j0 k a_0 b_1 x_9 y_10 t_37 = some r → kont E0 (soft_Add.Q a0 a1 r) (frs (bodyOf Tryd.f48) [1, 1, 1, 0, 0, 0] []) .normal ⟨[.i .u64 a_0, .i .u64 b_1, .u, .u, .u, .u, .u, .u, .u, .i .i64 x_9, .i .i64 y_10, .u, .u, .u, .u, .u, .u, .u, .u, .u, .u, .u, .u, .u, .u, .u, .u, .u, .u, .u, .u, .u, .u, .u, .u, .u, .u, .b t_37, .u, .u, .u, .u, .u, .u, .u, .u, .u, .u, .u, .u, .u, .u, .u, .u, .u, .u, .u, .u, .u, .u, .u, .u, .u, .u, .u, .u, .u, .u, .u, .u, .u, .u, .u, .u, .u, .u, .u, .u, .u, .u, .u, .u, .u, .u, .u, .u, .u, .u, .u, .u, .u, .u, .u, .u, .u, .u, .u, .u, .u, .u, .u, .u, .u, .u, .u, .u, .u, .u, .u, .u, .u, .u, .u, .u, .u, .u, .u, .u, .u, .u, .u, .u, .u, .u, .u, .u, .u, .u, .u, .u, .u, .u, .u, .u, .u, .u, .u, .u, .u, .u, .u, .u, .u, .u, .u, .u, .u, .u, .u, .u, .u, .u, .u], ofL [], 0, 0⟩) ∧
    (∀ (a_0 : Int) (b_1 : Int) (x_9 : Int) (y_10 : Int) (t_57 : Bool) (r : Int × Int), soft_Add.j1 k a_0 b_1 x_9 y_10 t_57 = some r → kont E0 (soft_Add.Q a0 a1 r) (frs (bodyOf Tryd.f48) [1, 1, 1, 0, 0, 1, 1, 1, 1, 1, 1, 0] []) .normal ⟨[.i .u64 a_0, .i .u64 b_1, .u, .u, .u, .u, .u, .u, .u, .i .i64 x_9, .i .i64 y_10, .u, .u, .u, .u, .u, .u, .u, .u, .u, .u, .u, .u, .u, .u, .u, .u, .u, .u, .u, .u, .u, .u, .u, .u, .u, .u, .u, .u, .u, .u, .u, .u, .u, .u, .u, .u, .u, .u, .u, .u, .u, .u, .u, .u, .u, .u, .b t_57, .u, .u, .u, .u, .u, .u, .u, .u, .u, .u, .u, .u, .u, .u, .u, .u, .u, .u, .u, .u, .u, .u, .u, .u, .u, .u, .u, .u, .u, .u, .u, .u, .u, .u, .u, .u, .u, .u, .u, .u, .u, .u, .u, .u, .u, .u, .u, .u, .u, .u, .u, .u, .u, .u, .u, .u, .u, .u, .u, .u, .u, .u, .u, .u, .u, .u, .u, .u, .u, .u, .u, .u, .u, .u, .u, .u, .u, .u, .u, .u, .u, .u, .u, .u, .u, .u, .u, .u, .u, .u, .u, .u, .u, .u, .u], ofL [], 0, 0⟩) ∧
    (∀ (a_0 : Int) (b_1 : Int) (r : Int × Int), soft_Add.j2 k a_0 b_1 = some r → kont E0 (soft_Add.Q a0 a1 r) (frs (bodyOf Tryd.f48) [1, 1, 1, 1, 0, 1] []) .normal ⟨[.i .u64 a_0, .i .u64 b_1, .u, .u, .u, .u, .u, .u, .u, .u, .u, .u, .u, .u, .u, .u, .u, .u, .u, .u, .u, .u, .u, .u, .u, .u, .u, .u, .u, .u, .u, .u, .u, .u, .u, .u, .u, .u, .u, .u, .u, .u, .u, .u, .u, .u, .u, .u, .u, .u, .u, .u, .u, .u, .u, .u, .u, .u, .u, .u, .u, .u, .u, .u, .u, .u, .u, .u, .u, .u, .u, .u, .u, .u, .u, .u, .u, .u, .u, .u, .u, .u, .u, .u, .u, .u, .u, .u, .u, .u, .u, .u, .u, .u, .u, .u, .u, .u, .u, .u, .u, .u, .u, .u, .u, .u, .u, .u, .u, .u, .u, .u, .u, .u, .u, .u, .u, .u, .u, .u, .u, .u, .u, .u, .u, .u, .u, .u, .u, .u, .u, .u, .u, .u, .u, .u, .u, .u, .u, .u, .u, .u, .u, .u, .u, .u, .u, .u, .u, .u, .u, .u, .u], ofL [], 0, 0⟩) ∧
    (∀ (a_0 : Int) (e_12 : Int) (low_17 : Bool) (h0_0 : Int) (h0_1 : Int) (h1_0 : Int) (h1_1 : Int) (r : Int × Int), soft_Add.j3 k a_0 e_12 low_17 h0_0 h0_1 h1_0 h1_1 = some r → kont E0 (soft_Add.Q a0 a1 r) (frs (bodyOf Tryd.f48) [1, 1, 1, 1, 1, 1, 1, 1, 1, 1, 0, 1] []) .normal ⟨[.i .u64 a_0, .u, .u, .u, .u, .u, .u, .u, .u, .u, .u, .u, .i .i64 e_12, .u, .u, .p (some (0, 0)), .p (some (1, 0)), .b low_17, .u, .u, .u, .u, .u, .u, .u, .u, .u, .u, .u, .u, .u, .u, .u, .u, .u, .u, .u, .u, .u, .u, .u, .u, .u, .u, .u, .u, .u, .u, .u, .u, .u, .u, .u, .u, .u, .u, .u, .u, .u, .u, .u, .u, .u, .u, .u, .u, .u, .u, .u, .u, .u, .u, .u, .u, .u, .u, .u, .u, .u, .u, .u, .u, .u, .u, .u, .u, .u, .u, .u, .u, .u, .u, .u, .u, .u, .u, .u, .u, .u, .u, .u, .u, .u, .u, .u, .u, .u, .u, .u, .u, .u, .u, .u, .u, .u, .u, .u, .u, .u, .u, .u, .u, .u, .u, .u, .u, .u, .u, .u, .u, .u, .u, .u, .u, .u, .u, .u, .u, .u, .u, .u, .u, .u, .u, .u, .u, .u, .u, .u, .u, .u, .u, .u], ofL [.row [.i .u64 h0_0, .i .u64 h0_1] 0 0 true true none, .row [.i .u64 h1_0, .i .u64 h1_1] 0 0 true true none], 2, 0⟩) ∧
    (∀ (a_0 : Int) (e_12 : Int) (low_17 : Bool) (t_143 : Bool) (h0_0 : Int) (h0_1 : Int) (r : Int × Int), soft_Add.j4 k a_0 e_12 low_17 t_143 h0_0 h0_1 = some r → kont E0 (soft_Add.Q a0 a1 r) (frs (bodyOf Tryd.f48) [1, 1, 1, 1, 1, 1, 1, 1, 1, 1, 1, 1, 0, 0] []) .normal ⟨[.i .u64 a_0, .u, .u, .u, .u, .u, .u, .u, .u, .u, .u, .u, .i .i64 e_12, .u, .u, .u, .u, .b low_17, .u, .u, .p (some (0, 0)), .u, .u, .u, .u, .u, .u, .u, .u, .u, .u, .u, .u, .u, .u, .u, .u, .u, .u, .u, .u, .u, .u, .u, .u, .u, .u, .u, .u, .u, .u, .u, .u, .u, .u, .u, .u, .u, .u, .u, .u, .u, .u, .u, .u, .u, .u, .u, .u, .u, .u, .u, .u, .u, .u, .u, .u, .u, .u, .u, .u, .u, .u, .u, .u, .u, .u, .u, .u, .u, .u, .u, .u, .u, .u, .u, .u, .u, .u, .u, .u, .u, .u, .u, .u, .u, .u, .u, .u, .u, .u, .u, .u, .u, .u, .u, .u, .u, .u, .u, .u, .u, .u, .u, .u, .u, .u, .u, .u, .u, .u, .u, .u, .u, .u, .u, .u, .u, .u, .u, .u, .u, .u, .b t_143, .u, .u, .u, .u, .u, .u, .u, .u, .u], ofL [.row [.i .u64 h0_0, .i .u64 h0_1] 0 0 true true none], 1, 0⟩) := by
  induction k with
  | zero => exact ⟨fun _ _ _ _ _ r h => by simp [soft_Add.j0] at h, fun _ _ _ _ _ r h => by simp [soft_Add.j1] at h, fun _ _ r h => by simp [soft_Add.j2] at h, fun _ _ _ _ _ _ _ r h => by simp [soft_Add.j3] at h, fun _ _ _ _ _ _ r h => by simp [soft_Add.j4] at h⟩
  | succ k ih =>
    obtain ⟨ih0, ih1, ih2, ih3, ih4⟩ := ih
    refine ⟨?_, ?_, ?_, ?_, ?_⟩
    · intro a_0 b_1 x_9 y_10 t_37 r H
      unfold soft_Add.j0 at H
      simp only [bodyOf, Tryd.f48, frs, sub, if_true, if_false, Nat.one_ne_zero]
      refine k_seq ?_
      rcases its H with ⟨c7, H⟩ | ⟨c7, H⟩
      · have c7b : t_37 = true := c7; try simp only [c7b, nrm]
        refine w_cond rfl (fun _ => ?_) (fun h => Bool.noConfusion h)
        refine w_seq ?_
        refine wR fun K hK => ?_
        refine g_as rfl rfl (gT ?_)
        refine g_as rfl rfl (gT ?_)
        refine g_nil (hK _ _ _ ?_)
        refine k_seq ?_
        refine w_ret ?_
        refine fin_wp (τ := []) rfl (by decide) ?_; rw [← Option.some.inj H]; simp only [Tryd.f48]; exact gF
      · have c7b : t_37 = false := Bool.eq_false_iff.mpr c7; try simp only [c7b, nrm]
        refine w_cond rfl (fun h => Bool.noConfusion h) (fun _ => ?_)
        refine w_seq ?_
        refine wR fun K hK => ?_
        refine g_mv rfl rfl (gT ?_)
        refine g_bin rfl rfl rfl rfl rfl (gT ?_)
        refine g_as rfl rfl (gT ?_)
        refine g_nil (hK _ _ _ ?_)
        refine k_seq ?_
        rcases its H with ⟨c8, H⟩ | ⟨c8, H⟩
        · have c8b := beq_iff_eq.mpr c8; have c8n := bne_eq_false_iff_eq.mpr c8; try simp only [c8b, c8n, nrm]
          refine w_cond rfl (fun _ => ?_) (fun h => Bool.noConfusion h)
          refine w_seq ?_
          refine wR fun K hK => ?_
          refine g_mv rfl rfl (gT ?_)
          refine g_as rfl rfl (gT ?_)
          refine g_as rfl rfl (gT ?_)
          refine g_nil (hK _ _ _ ?_)
          refine k_seq ?_
          refine w_ret ?_
          refine fin_wp (τ := []) rfl (by decide) ?_; rw [← Option.some.inj H]; simp only [Tryd.f48]; exact gF
        · have c8b := beq_eq_false_iff_ne.mpr c8; have c8n := bne_iff_ne.mpr c8; try simp only [c8b, c8n, nrm]
          refine w_cond rfl (fun h => Bool.noConfusion h) (fun _ => ?_)
          refine w_seq ?_
          refine wR fun K hK => ?_
          refine g_mv rfl rfl (gT ?_)
          refine g_bin rfl rfl rfl rfl rfl (gT ?_)
          refine g_as rfl rfl (gT ?_)
          refine g_nil (hK _ _ _ ?_)
          refine k_seq ?_
          rcases its H with ⟨c9, H⟩ | ⟨c9, H⟩
          · have c9b := beq_iff_eq.mpr c9; have c9n := bne_eq_false_iff_eq.mpr c9; try simp only [c9b, c9n, nrm]
            refine w_cond rfl (fun _ => ?_) (fun h => Bool.noConfusion h)
            refine w_seq ?_
            refine wR fun K hK => ?_
            refine g_mv rfl rfl (gT ?_)
            refine g_as rfl rfl (gT ?_)
            refine g_as rfl rfl (gT ?_)
            refine g_nil (hK _ _ _ ?_)
            refine k_seq ?_
            refine w_ret ?_
            refine fin_wp (τ := []) rfl (by decide) ?_; rw [← Option.some.inj H]; simp only [Tryd.f48]; exact gF
          · have c9b := beq_eq_false_iff_ne.mpr c9; have c9n := bne_iff_ne.mpr c9; try simp only [c9b, c9n, nrm]
            refine w_cond rfl (fun h => Bool.noConfusion h) (fun _ => ?_)
            refine w_seq ?_
            refine wR fun K hK => ?_
            refine g_mv rfl rfl (gT ?_)
            refine g_bin rfl rfl rfl rfl rfl (gT ?_)
            refine g_mv rfl rfl (gT ?_)
            rcases its H with ⟨c10, H⟩ | ⟨c10, H⟩
            · have c10b := beq_iff_eq.mpr c10; have c10n := bne_eq_false_iff_eq.mpr c10; try simp only [c10b, c10n, nrm]
              refine g_mv rfl rfl (gT ?_)
              refine g_bin rfl rfl rfl rfl rfl (gT ?_)
              refine g_pick rfl rfl rfl (gT ?_)
              refine g_as rfl rfl (gT ?_)
              refine g_nil (hK _ _ _ ?_)
              refine k_wk (σ := []) [0, 0, 7, 0, 46] rfl (by decide) rfl ?_; refine gC ?_
              exact gI (ih1 a_0 b_1 x_9 y_10 (y_10 == 1) r H)
            · have c10b := beq_eq_false_iff_ne.mpr c10; have c10n := bne_iff_ne.mpr c10; try simp only [c10b, c10n, nrm]
              refine g_sk rfl rfl (gT ?_)
              refine g_sk rfl rfl (gT ?_)
              refine g_pick rfl rfl rfl (gT ?_)
              refine g_as rfl rfl (gT ?_)
              refine g_nil (hK _ _ _ ?_)
              refine k_wk (σ := []) [0, 0, 7, 0, 46] rfl (by decide) rfl ?_; refine gC ?_
              exact gI (ih1 a_0 b_1 x_9 y_10 false r H)
    · intro a_0 b_1 x_9 y_10 t_57 r H
      unfold soft_Add.j1 at H
      simp only [bodyOf, Tryd.f48, frs, sub, if_true, if_false, Nat.one_ne_zero]
      refine k_seq ?_
      rcases its H with ⟨c11, H⟩ | ⟨c11, H⟩
      · have c11b : t_57 = true := c11; try simp only [c11b, nrm]
        refine w_cond rfl (fun _ => ?_) (fun h => Bool.noConfusion h)
        refine w_seq ?_
        refine wR fun K hK => ?_
        refine g_mv rfl rfl (gT ?_)
        refine g_mv rfl rfl (gT ?_)
        refine g_bin rfl rfl rfl rfl rfl (gT ?_)
        refine g_as rfl rfl (gT ?_)
        refine g_as rfl rfl (gT ?_)
        refine g_nil (hK _ _ _ ?_)
        refine k_seq ?_
        refine w_ret ?_
        refine fin_wp (τ := []) rfl (by decide) ?_; rw [← Option.some.inj H]; simp only [Tryd.f48]; exact gF
      · have c11b : t_57 = false := Bool.eq_false_iff.mpr c11; try simp only [c11b, nrm]
        refine w_cond rfl (fun h => Bool.noConfusion h) (fun _ => ?_)
        refine w_seq ?_
        refine wR fun K hK => ?_
        refine g_mv rfl rfl (gT ?_)
        refine g_bin rfl rfl rfl rfl rfl (gT ?_)
        refine g_as rfl rfl (gT ?_)
        refine g_nil (hK _ _ _ ?_)
        refine k_seq ?_
        rcases its H with ⟨c12, H⟩ | ⟨c12, H⟩
        · have c12b := beq_iff_eq.mpr c12; have c12n := bne_eq_false_iff_eq.mpr c12; try simp only [c12b, c12n, nrm]
          refine w_cond rfl (fun _ => ?_) (fun h => Bool.noConfusion h)
          refine w_seq ?_
          refine wR fun K hK => ?_
          refine g_mv rfl rfl (gT ?_)
          refine g_as rfl rfl (gT ?_)
          refine g_as rfl rfl (gT ?_)
          refine g_nil (hK _ _ _ ?_)
          refine k_seq ?_
          refine w_ret ?_
          refine fin_wp (τ := []) rfl (by decide) ?_; rw [← Option.some.inj H]; simp only [Tryd.f48]; exact gF
        · have c12b := beq_eq_false_iff_ne.mpr c12; have c12n := bne_iff_ne.mpr c12; try simp only [c12b, c12n, nrm]
          refine w_cond rfl (fun h => Bool.noConfusion h) (fun _ => ?_)
          refine w_seq ?_
          refine wR fun K hK => ?_
          refine g_mv rfl rfl (gT ?_)
          refine g_bin rfl rfl rfl rfl rfl (gT ?_)
          refine g_as rfl rfl (gT ?_)
          refine g_nil (hK _ _ _ ?_)
          refine k_seq ?_
          rcases its H with ⟨c13, H⟩ | ⟨c13, H⟩
          · have c13b := beq_iff_eq.mpr c13; have c13n := bne_eq_false_iff_eq.mpr c13; try simp only [c13b, c13n, nrm]
            refine w_cond rfl (fun _ => ?_) (fun h => Bool.noConfusion h)
            refine w_seq ?_
            refine wR fun K hK => ?_
            refine g_mv rfl rfl (gT ?_)
            refine g_as rfl rfl (gT ?_)
            refine g_as rfl rfl (gT ?_)
            refine g_nil (hK _ _ _ ?_)
            refine k_seq ?_
            refine w_ret ?_
            refine fin_wp (τ := []) rfl (by decide) ?_; rw [← Option.some.inj H]; simp only [Tryd.f48]; exact gF
          · have c13b := beq_eq_false_iff_ne.mpr c13; have c13n := bne_iff_ne.mpr c13; try simp only [c13b, c13n, nrm]
            refine w_cond rfl (fun h => Bool.noConfusion h) (fun _ => ?_)
            refine w_skip ?_
            refine k_block ?_
            refine k_seq ?_
            refine w_seq ?_
            refine w_seq ?_
            refine wR fun K hK => ?_
            refine g_mv rfl rfl (gT ?_)
            obtain ⟨q14, hq14, H⟩ := bnd H
            refine g_cs [] rfl rfl (by rfl) Tryd.func17 rfl (by decide) (word_Abs.does hq14) ⟨Nat.le_of_ble_eq_true rfl, Nat.le_of_ble_eq_true rfl⟩ ?_; refine gC ?_
            refine g_mv rfl rfl (gT ?_)
            obtain ⟨q15, hq15, H⟩ := bnd H
            refine g_cs [] rfl rfl (by rfl) Tryd.func17 rfl (by decide) (word_Abs.does hq15) ⟨Nat.le_of_ble_eq_true rfl, Nat.le_of_ble_eq_true rfl⟩ ?_; refine gC ?_
            refine g_bin rfl rfl rfl rfl rfl (gT ?_)
            refine g_nil (hK _ _ _ ?_)
            refine k_seq ?_
            rcases its H with ⟨c16, H⟩ | ⟨c16, H⟩
            · have c16b := decide_eq_true c16; try simp only [c16b, nrm]
              refine w_cond rfl (fun _ => ?_) (fun h => Bool.noConfusion h)
              refine wR fun K hK => ?_
              refine g_mv rfl rfl (gT ?_)
              refine g_mv rfl rfl (gT ?_)
              refine g_as rfl rfl (gT ?_)
              refine g_as rfl rfl (gT ?_)
              refine g_nil (hK _ _ _ ?_)
              refine k_wk (σ := []) [0, 0] rfl (by decide) rfl ?_; refine gC ?_
              exact gI (ih2 b_1 a_0 r H)
            · have c16b := decide_eq_false c16; try simp only [c16b, nrm]
              refine w_cond rfl (fun h => Bool.noConfusion h) (fun _ => ?_)
              refine w_skip ?_
              refine k_wk (σ := []) [0, 0] rfl (by decide) rfl ?_; refine gC ?_
              exact gI (ih2 a_0 b_1 r H)
    · intro a_0 b_1 r H
      unfold soft_Add.j2 at H
      simp only [bodyOf, Tryd.f48, frs, sub, if_true, if_false, Nat.one_ne_zero]
      refine k_seq ?_
      refine w_seq ?_
      refine wR fun K hK => ?_
      refine g_mv rfl rfl (gT ?_)
      obtain ⟨q17, hq17, H⟩ := bnd H
      refine g_cs [] rfl rfl (by rfl) Tryd.func38 rfl (by decide) (word_Parts.does hq17) ⟨Nat.le_of_ble_eq_true rfl, Nat.le_of_ble_eq_true rfl⟩ ?_; refine gC ?_
      refine g_mv rfl rfl (gT ?_)
      refine g_ext rfl rfl rfl (Nat.le_of_ble_eq_true rfl) (gT ?_)
      refine g_ext rfl rfl rfl (Nat.le_of_ble_eq_true rfl) (gT ?_)
      refine g_as rfl rfl (gT ?_)
      refine g_as rfl rfl (gT ?_)
      refine g_nil (hK _ _ _ ?_)
      refine k_seq ?_
      refine w_seq ?_
      refine wR fun K hK => ?_
      refine g_mv rfl rfl (gT ?_)
      obtain ⟨q18, hq18, H⟩ := bnd H
      refine g_cs [] rfl rfl (by rfl) Tryd.func38 rfl (by decide) (word_Parts.does hq18) ⟨Nat.le_of_ble_eq_true rfl, Nat.le_of_ble_eq_true rfl⟩ ?_; refine gC ?_
      refine g_mv rfl rfl (gT ?_)
      refine g_ext rfl rfl rfl (Nat.le_of_ble_eq_true rfl) (gT ?_)
      refine g_ext rfl rfl rfl (Nat.le_of_ble_eq_true rfl) (gT ?_)
      refine g_as rfl rfl (gT ?_)
      refine g_as rfl rfl (gT ?_)
      refine g_nil (hK _ _ _ ?_)
      refine k_seq ?_
      refine w_seq ?_
      refine wR fun K hK => ?_
      refine g_mv rfl rfl (gT ?_)
      refine g_bd rfl rfl zr83 Tryd.underlying83 (pl := [(0, 1), (1, 1)]) (by kernel_rfl) ?_; refine gB ?_
      obtain ⟨q19, hq19, H⟩ := bnd H
      refine g_cs [] rfl rfl (by rfl) Tryd.func54 rfl (by decide) (wide_Wide_Left.does hq19) ⟨Nat.le_of_ble_eq_true rfl, Nat.le_of_ble_eq_true rfl⟩ ?_; refine gC ?_
      refine g_alloc rfl rfl zr83 (gU ?_)
      refine g_st rfl rfl sz83 rfl rfl rfl (by rfl) (Nat.le_of_ble_eq_true rfl) (gU ?_)
      refine g_nil (hK _ _ _ ?_)
      refine k_seq ?_
      refine w_seq ?_
      refine wR fun K hK => ?_
      refine g_mv rfl rfl (gT ?_)
      refine g_bd rfl rfl zr83 Tryd.underlying83 (pl := [(0, 1), (1, 1)]) (by kernel_rfl) ?_; refine gB ?_
      obtain ⟨q20, hq20, H⟩ := bnd H
      refine g_cs [] rfl rfl (by rfl) Tryd.func54 rfl (by decide) (wide_Wide_Left.does hq20) ⟨Nat.le_of_ble_eq_true rfl, Nat.le_of_ble_eq_true rfl⟩ ?_; refine gC ?_
      refine g_mv rfl rfl (gT ?_)
      refine g_mv rfl rfl (gT ?_)
      refine g_bin rfl rfl rfl rfl rfl (gT ?_)
      obtain ⟨q21, hq21, H⟩ := bnd H
      refine g_cs [] rfl rfl (by rfl) Tryd.func51 rfl (by decide) (wide_Wide_Right.does hq21) ⟨Nat.le_of_ble_eq_true rfl, Nat.le_of_ble_eq_true rfl⟩ ?_; refine gC ?_
      refine g_mv rfl rfl (gT ?_)
      refine g_ext rfl rfl rfl (Nat.le_of_ble_eq_true rfl) (gT ?_)
      refine g_ext rfl rfl rfl (Nat.le_of_ble_eq_true rfl) (gT ?_)
      refine g_alloc rfl rfl zr83 (gU ?_)
      refine g_st rfl rfl sz83 rfl rfl rfl (by rfl) (Nat.le_of_ble_eq_true rfl) (gU ?_)
      refine g_as rfl rfl (gT ?_)
      refine g_nil (hK _ _ _ ?_)
      refine k_seq ?_
      refine w_seq ?_
      refine w_seq ?_
      refine wR fun K hK => ?_
      refine g_mv rfl rfl (gT ?_)
      obtain ⟨q22, hq22, H⟩ := bnd H
      refine g_cs [] rfl rfl (by rfl) Tryd.func39 rfl (by decide) (word_Neg.does hq22) ⟨Nat.le_of_ble_eq_true rfl, Nat.le_of_ble_eq_true rfl⟩ ?_; refine gC ?_
      refine g_mv rfl rfl (gT ?_)
      obtain ⟨q23, hq23, H⟩ := bnd H
      refine g_cs [] rfl rfl (by rfl) Tryd.func39 rfl (by decide) (word_Neg.does hq23) ⟨Nat.le_of_ble_eq_true rfl, Nat.le_of_ble_eq_true rfl⟩ ?_; refine gC ?_
      refine g_eqb rfl rfl Tryd.underlying4 rfl rfl (gT ?_)
      refine g_nil (hK _ _ _ ?_)
      refine k_seq ?_
      rcases its H with ⟨c24, H⟩ | ⟨c24, H⟩
      · have c24b : (q22 == q23) = true := c24; try simp only [c24b, nrm]
        refine w_cond rfl (fun _ => ?_) (fun h => Bool.noConfusion h)
        refine w_seq ?_
        refine wR fun K hK => ?_
        refine g_lda rfl rfl ag83 sz83 rfl rfl (Nat.le_of_ble_eq_true rfl) (gT ?_)
        refine g_lda rfl rfl ag83 sz83 rfl rfl (Nat.le_of_ble_eq_true rfl) (gT ?_)
        obtain ⟨q25, hq25, H⟩ := bnd H
        refine g_cs [] rfl rfl (by rfl) Tryd.func53 rfl (by decide) (wide_Wide_Add.does hq25) ⟨Nat.le_of_ble_eq_true rfl, Nat.le_of_ble_eq_true rfl⟩ ?_; refine gC ?_
        refine g_mv rfl rfl (gT ?_)
        refine g_ext rfl rfl rfl (Nat.le_of_ble_eq_true rfl) (gT ?_)
        refine g_ext rfl rfl rfl (Nat.le_of_ble_eq_true rfl) (gT ?_)
        refine g_alloc rfl rfl zr83 (gU ?_)
        refine g_st rfl rfl sz83 rfl rfl rfl (by rfl) (Nat.le_of_ble_eq_true rfl) (gU ?_)
        refine g_as rfl rfl (gT ?_)
        refine g_nil (hK _ _ _ ?_)
        refine k_seq ?_
        refine w_seq ?_
        refine wD fun K hK => ?_
        refine g_mv rfl rfl (gT ?_)
        obtain ⟨q26, hq26, H⟩ := bnd H
        refine g_cs [] rfl rfl (by rfl) Tryd.func39 rfl (by decide) (word_Neg.does hq26) ⟨Nat.le_of_ble_eq_true rfl, Nat.le_of_ble_eq_true rfl⟩ ?_; refine gC ?_
        refine g_lda rfl rfl ag83 sz83 rfl rfl (Nat.le_of_ble_eq_true rfl) (gT ?_)
        refine g_mv rfl rfl (gT ?_)
        refine g_bin rfl rfl rfl rfl rfl (gT ?_)
        refine g_mv rfl rfl (gT ?_)
        obtain ⟨q27, hq27, H⟩ := bnd H
        refine g_cs [] rfl rfl (by rfl) Tryd.func43 rfl (by decide) (round_Round.does hq27) ⟨Nat.le_of_ble_eq_true rfl, Nat.le_of_ble_eq_true rfl⟩ ?_; refine gC ?_
        refine g_ext rfl rfl rfl (Nat.le_of_ble_eq_true rfl) (gT ?_)
        refine g_ext rfl rfl rfl (Nat.le_of_ble_eq_true rfl) (gT ?_)
        refine g_as rfl rfl (gT ?_)
        refine g_as rfl rfl (gT ?_)
        refine g_nil (hK _ _ _ (by kernel_rfl) ?_)
        refine k_seq ?_
        refine w_ret ?_
        refine fin_wp (τ := []) rfl (by decide) ?_; rw [← Option.some.inj H]; simp only [Tryd.f48]; exact gF
      · have c24b : (q22 == q23) = false := Bool.eq_false_iff.mpr c24; try simp only [c24b, nrm]
        refine w_cond rfl (fun h => Bool.noConfusion h) (fun _ => ?_)
        refine w_skip ?_
        refine k_seq ?_
        refine w_seq ?_
        refine w_seq ?_
        refine wR fun K hK => ?_
        refine g_mv rfl rfl (gT ?_)
        refine g_nil (hK _ _ _ ?_)
        refine k_seq ?_
        rcases its H with ⟨c28, H⟩ | ⟨c28, H⟩
        · have c28b : q21.2.2 = true := c28; try simp only [c28b, nrm]
          refine w_cond rfl (fun _ => ?_) (fun h => Bool.noConfusion h)
          refine wR fun K hK => ?_
          refine g_lda rfl rfl ag83 sz83 rfl rfl (Nat.le_of_ble_eq_true rfl) (gT ?_)
          refine g_bd rfl rfl zr83 Tryd.underlying83 (pl := [(0, 1), (1, 1)]) (by kernel_rfl) ?_; refine gB ?_
          obtain ⟨q29, hq29, H⟩ := bnd H
          refine g_cs [] rfl rfl (by rfl) Tryd.func53 rfl (by decide) (wide_Wide_Add.does hq29) ⟨Nat.le_of_ble_eq_true rfl, Nat.le_of_ble_eq_true rfl⟩ ?_; refine gC ?_
          refine g_mv rfl rfl (gT ?_)
          refine g_ext rfl rfl rfl (Nat.le_of_ble_eq_true rfl) (gT ?_)
          refine g_ext rfl rfl rfl (Nat.le_of_ble_eq_true rfl) (gT ?_)
          refine g_st rfl rfl sz83 rfl rfl rfl (by rfl) (Nat.le_of_ble_eq_true rfl) (gU ?_)
          refine g_nil (hK _ _ _ ?_)
          refine k_wk (σ := [68, 116]) [0, 11, 2, 0, 0] rfl (by decide) rfl ?_; refine gC ?_
          exact gI (ih3 a_0 q17.2 true q19.1 q19.2 q29.1 q29.2.1 r H)
        · have c28b : q21.2.2 = false := Bool.eq_false_iff.mpr c28; try simp only [c28b, nrm]
          refine w_cond rfl (fun h => Bool.noConfusion h) (fun _ => ?_)
          refine w_skip ?_
          refine k_wk (σ := [68, 116]) [0, 11, 2, 0, 0] rfl (by decide) rfl ?_; refine gC ?_
          exact gI (ih3 a_0 q17.2 false q19.1 q19.2 q21.1 q21.2.1 r H)
    · intro a_0 e_12 low_17 h0_0 h0_1 h1_0 h1_1 r H
      unfold soft_Add.j3 at H
      simp only [bodyOf, Tryd.f48, frs, sub, if_true, if_false, Nat.one_ne_zero]
      refine k_seq ?_
      refine w_seq ?_
      refine wR fun K hK => ?_
      refine g_lda rfl rfl ag83 sz83 rfl rfl (Nat.le_of_ble_eq_true rfl) (gT ?_)
      refine g_lda rfl rfl ag83 sz83 rfl rfl (Nat.le_of_ble_eq_true rfl) (gT ?_)
      obtain ⟨q30, hq30, H⟩ := bnd H
      refine g_cs [] rfl rfl (by rfl) Tryd.func56 rfl (by decide) (wide_Wide_Sub.does hq30) ⟨Nat.le_of_ble_eq_true rfl, Nat.le_of_ble_eq_true rfl⟩ ?_; refine gC ?_
      refine g_mv rfl rfl (gT ?_)
      refine g_ext rfl rfl rfl (Nat.le_of_ble_eq_true rfl) (gT ?_)
      refine g_ext rfl rfl rfl (Nat.le_of_ble_eq_true rfl) (gT ?_)
      refine g_alloc rfl rfl zr83 (gU ?_)
      refine g_st rfl rfl sz83 rfl rfl rfl (by rfl) (Nat.le_of_ble_eq_true rfl) (gU ?_)
      refine g_as rfl rfl (gT ?_)
      refine g_nil (hK _ _ _ ?_)
      refine k_seq ?_
      refine w_seq ?_
      refine w_seq ?_
      refine wR fun K hK => ?_
      refine g_lda rfl rfl ag83 sz83 rfl rfl (Nat.le_of_ble_eq_true rfl) (gT ?_)
      obtain ⟨q31, hq31, H⟩ := bnd H
      refine g_cs [] rfl rfl (by rfl) Tryd.func49 rfl (by decide) (wide_Wide_Zero.does hq31) ⟨Nat.le_of_ble_eq_true rfl, Nat.le_of_ble_eq_true rfl⟩ ?_; refine gC ?_
      refine g_mv rfl rfl (gT ?_)
      rcases its H with ⟨c32, H⟩ | ⟨c32, H⟩
      · have c32b : q31 = true := c32; try simp only [c32b, nrm]
        refine g_mv rfl rfl (gT ?_)
        refine g_un rfl rfl rfl rfl (gT ?_)
        refine g_pick rfl rfl rfl (gT ?_)
        refine g_nil (hK _ _ _ ?_)
        refine k_wk (σ := [26]) [0, 11, 4, 2, 122] rfl (by decide) rfl ?_; refine gC ?_
        exact gI (ih4 a_0 e_12 low_17 (!low_17) q30.1 q30.2.1 r H)
      · have c32b : q31 = false := Bool.eq_false_iff.mpr c32; try simp only [c32b, nrm]
        refine g_sk rfl rfl (gT ?_)
        refine g_sk rfl rfl (gT ?_)
        refine g_pick rfl rfl rfl (gT ?_)
        refine g_nil (hK _ _ _ ?_)
        refine k_wk (σ := [26]) [0, 11, 4, 2, 122] rfl (by decide) rfl ?_; refine gC ?_
        exact gI (ih4 a_0 e_12 low_17 false q30.1 q30.2.1 r H)
    · intro a_0 e_12 low_17 t_143 h0_0 h0_1 r H
      unfold soft_Add.j4 at H
      simp only [bodyOf, Tryd.f48, frs, sub, if_true, if_false, Nat.one_ne_zero]
      refine k_seq ?_
      rcases its H with ⟨c33, H⟩ | ⟨c33, H⟩
      · have c33b : t_143 = true := c33; try simp only [c33b, nrm]
        refine w_cond rfl (fun _ => ?_) (fun h => Bool.noConfusion h)
        refine w_seq ?_
        refine wR fun K hK => ?_
        refine g_as rfl rfl (gT ?_)
        refine g_as rfl rfl (gT ?_)
        refine g_nil (hK _ _ _ ?_)
        refine k_seq ?_
        refine w_ret ?_
        refine fin_wp (τ := []) rfl (by decide) ?_; rw [← Option.some.inj H]; simp only [Tryd.f48]; exact gF
      · have c33b : t_143 = false := Bool.eq_false_iff.mpr c33; try simp only [c33b, nrm]
        refine w_cond rfl (fun h => Bool.noConfusion h) (fun _ => ?_)
        refine w_skip ?_
        refine k_seq ?_
        refine w_seq ?_
        refine wD fun K hK => ?_
        refine g_mv rfl rfl (gT ?_)
        obtain ⟨q34, hq34, H⟩ := bnd H
        refine g_cs [] rfl rfl (by rfl) Tryd.func39 rfl (by decide) (word_Neg.does hq34) ⟨Nat.le_of_ble_eq_true rfl, Nat.le_of_ble_eq_true rfl⟩ ?_; refine gC ?_
        refine g_lda rfl rfl ag83 sz83 rfl rfl (Nat.le_of_ble_eq_true rfl) (gT ?_)
        refine g_mv rfl rfl (gT ?_)
        refine g_bin rfl rfl rfl rfl rfl (gT ?_)
        refine g_mv rfl rfl (gT ?_)
        obtain ⟨q35, hq35, H⟩ := bnd H
        refine g_cs [] rfl rfl (by rfl) Tryd.func43 rfl (by decide) (round_Round.does hq35) ⟨Nat.le_of_ble_eq_true rfl, Nat.le_of_ble_eq_true rfl⟩ ?_; refine gC ?_
        refine g_ext rfl rfl rfl (Nat.le_of_ble_eq_true rfl) (gT ?_)
        refine g_ext rfl rfl rfl (Nat.le_of_ble_eq_true rfl) (gT ?_)
        refine g_as rfl rfl (gT ?_)
        refine g_as rfl rfl (gT ?_)
        refine g_nil (hK _ _ _ (by kernel_rfl) ?_)
        refine k_seq ?_
        refine w_ret ?_
        refine fin_wp (τ := []) rfl (by decide) ?_; rw [← Option.some.inj H]; simp only [Tryd.f48]; exact gF
set_option maxHeartbeats 8000000 in
set_option maxRecDepth 100000 in
theorem soft_Add.does {k : Nat} {a0 : Int} {a1 : Int} {r : Int × Int} (H : soft_Add.f k a0 a1 = some r) : Do E0 (.fn 48 [.i .u64 a0, .i .u64 a1] [] (.t [.i .u64 r.1, .i .u8 r.2]) []) := by
  obtain ⟨ih0, ih1, ih2, ih3, ih4⟩ := soft_Add.does_l (a0 := a0) (a1 := a1) k
  refine fn_wpl Tryd.func48 rfl (Q := (soft_Add.Q a0 a1 r)) (fun s h => h) ?_
  unfold soft_Add.f at H
  simp only [Tryd.ntmps48, List.length, List.replicate, Nat.reduceAdd, Nat.reduceSub, List.cons_append, List.nil_append]
  refine w_seq ?_
  refine wR fun K hK => ?_
  refine g_as rfl rfl (gT ?_)
  refine g_as rfl rfl (gT ?_)
  refine g_nil (hK _ _ _ ?_)
  refine k_seq ?_
  refine w_seq ?_
  refine w_seq ?_
  refine wR fun K hK => ?_
  refine g_mv rfl rfl (gT ?_)
  refine g_mv rfl rfl (gT ?_)
  refine g_bsl (k := .u64) (xs := [a0, a1]) rfl rfl Tryd.underlying22 sz23 zr23 (by decide) rfl rfl rfl (gU ?_)
  obtain ⟨q1, hq1, H⟩ := bnd H
  refine g_cs [] rfl rfl (by rfl) Tryd.func55 rfl (by decide) (soft_nan.does hq1) ⟨Nat.le_of_ble_eq_true rfl, Nat.le_of_ble_eq_true rfl⟩ ?_; refine gC ?_
  refine g_mv rfl rfl (gT ?_)
  refine g_ext rfl rfl rfl (Nat.le_of_ble_eq_true rfl) (gT ?_)
  refine g_ext rfl rfl rfl (Nat.le_of_ble_eq_true rfl) (gT ?_)
  refine g_ext rfl rfl rfl (Nat.le_of_ble_eq_true rfl) (gT ?_)
  refine g_as rfl rfl (gT ?_)
  refine g_as rfl rfl (gT ?_)
  refine g_as rfl rfl (gT ?_)
  refine g_nil (hK _ _ _ ?_)
  refine k_seq ?_
  refine w_seq ?_
  refine wR fun K hK => ?_
  refine g_mv rfl rfl (gT ?_)
  refine g_nil (hK _ _ _ ?_)
  refine k_seq ?_
  rcases its H with ⟨c2, H⟩ | ⟨c2, H⟩
  · have c2b : q1.2.2 = true := c2; try simp only [c2b, nrm]
    refine w_cond rfl (fun _ => ?_) (fun h => Bool.noConfusion h)
    refine w_seq ?_
    refine wR fun K hK => ?_
    refine g_mv rfl rfl (gT ?_)
    refine g_mv rfl rfl (gT ?_)
    refine g_as rfl rfl (gT ?_)
    refine g_as rfl rfl (gT ?_)
    refine g_nil (hK _ _ _ ?_)
    refine k_seq ?_
    refine w_ret ?_
    refine fin_wp (τ := []) rfl (by decide) ?_; rw [← Option.some.inj H]; simp only [Tryd.f48]; exact gF
  · have c2b : q1.2.2 = false := Bool.eq_false_iff.mpr c2; try simp only [c2b, nrm]
    refine w_cond rfl (fun h => Bool.noConfusion h) (fun _ => ?_)
    refine w_skip ?_
    refine k_seq ?_
    refine w_seq ?_
    refine wR fun K hK => ?_
    refine g_mv rfl rfl (gT ?_)
    obtain ⟨q3, hq3, H⟩ := bnd H
    refine g_cs [] rfl rfl (by rfl) Tryd.func36 rfl (by decide) (word_Kind.does hq3) ⟨Nat.le_of_ble_eq_true rfl, Nat.le_of_ble_eq_true rfl⟩ ?_; refine gC ?_
    refine g_mv rfl rfl (gT ?_)
    obtain ⟨q4, hq4, H⟩ := bnd H
    refine g_cs [] rfl rfl (by rfl) Tryd.func36 rfl (by decide) (word_Kind.does hq4) ⟨Nat.le_of_ble_eq_true rfl, Nat.le_of_ble_eq_true rfl⟩ ?_; refine gC ?_
    refine g_as rfl rfl (gT ?_)
    refine g_as rfl rfl (gT ?_)
    refine g_nil (hK _ _ _ ?_)
    refine k_seq ?_
    refine w_seq ?_
    refine w_block ?_
    refine w_seq ?_
    refine wR fun K hK => ?_
    refine g_mv rfl rfl (gT ?_)
    refine g_bin rfl rfl rfl rfl rfl (gT ?_)
    refine g_mv rfl rfl (gT ?_)
    rcases its H with ⟨c5, H⟩ | ⟨c5, H⟩
    · have c5b := beq_iff_eq.mpr c5; have c5n := bne_eq_false_iff_eq.mpr c5; try simp only [c5b, c5n, nrm]
      refine g_mv rfl rfl (gT ?_)
      refine g_bin rfl rfl rfl rfl rfl (gT ?_)
      refine g_pick rfl rfl rfl (gT ?_)
      refine g_mv rfl rfl (gT ?_)
      rcases its H with ⟨c6, H⟩ | ⟨c6, H⟩
      · have c6b := beq_iff_eq.mpr c6; have c6n := bne_eq_false_iff_eq.mpr c6; try simp only [c6b, c6n, nrm]
        refine g_mv rfl rfl (gT ?_)
        refine g_mv rfl rfl (gT ?_)
        refine g_bin rfl rfl rfl rfl rfl (gT ?_)
        refine g_pick rfl rfl rfl (gT ?_)
        refine g_as rfl rfl (gT ?_)
        refine g_nil (hK _ _ _ ?_)
        refine k_wk (σ := []) [0, 0, 7, 0, 26] rfl (by decide) rfl ?_; refine gC ?_
        exact gI (ih0 a0 a1 q3 q4 (a0 != a1) r H)
      · have c6b := beq_eq_false_iff_ne.mpr c6; have c6n := bne_iff_ne.mpr c6; try simp only [c6b, c6n, nrm]
        refine g_sk rfl rfl (gT ?_)
        refine g_sk rfl rfl (gT ?_)
        refine g_sk rfl rfl (gT ?_)
        refine g_pick rfl rfl rfl (gT ?_)
        refine g_as rfl rfl (gT ?_)
        refine g_nil (hK _ _ _ ?_)
        refine k_wk (σ := []) [0, 0, 7, 0, 26] rfl (by decide) rfl ?_; refine gC ?_
        exact gI (ih0 a0 a1 q3 q4 false r H)
    · have c5b := beq_eq_false_iff_ne.mpr c5; have c5n := bne_iff_ne.mpr c5; try simp only [c5b, c5n, nrm]
      refine g_sk rfl rfl (gT ?_)
      refine g_sk rfl rfl (gT ?_)
      refine g_pick rfl rfl rfl (gT ?_)
      refine g_mv rfl rfl (gT ?_)
      refine g_sk rfl rfl (gT ?_)
      refine g_sk rfl rfl (gT ?_)
      refine g_sk rfl rfl (gT ?_)
      refine g_pick rfl rfl rfl (gT ?_)
      refine g_as rfl rfl (gT ?_)
      refine g_nil (hK _ _ _ ?_)
      refine k_wk (σ := []) [0, 0, 7, 0, 26] rfl (by decide) rfl ?_; refine gC ?_
      exact gI (ih0 a0 a1 q3 q4 false r H)

set_option maxHeartbeats 8000000 in
set_option maxRecDepth 100000 in
theorem soft_Calc_note.does {s0_0 : Int} {a1 : Int} {a2 : Int} {r : Int × Int} (H : soft_Calc_note.f s0_0 a1 a2 = some r) : Do E0 (.fn 47 [.p (some (0, 0)), .i .u64 a1, .i .u8 a2] [.row [.i .u8 s0_0] 0 0 true false none] (.i .u64 r.1) [.row [.i .u8 r.2] 0 0 true false none]) := by
  refine fn_wpl Tryd.func47 rfl (Q := (soft_Calc_note.Q s0_0 a1 a2 r)) (fun s h => h) ?_
  unfold soft_Calc_note.f at H
  simp only [Tryd.ntmps47, List.length, List.replicate, Nat.reduceAdd, Nat.reduceSub, List.cons_append, List.nil_append]
  refine w_seq ?_
  refine wR fun K hK => ?_
  refine g_as rfl rfl (gT ?_)
  refine g_nil (hK _ _ _ ?_)
  refine k_seq ?_
  refine w_seq ?_
  refine w_seq ?_
  refine wR fun K hK => ?_
  refine g_mv rfl rfl (gT ?_)
  refine g_same rfl rfl (c := .b true) (by simp only [nrm]; simp only [binV, sameV, V.same, Go.Rk.Rd.of, Go.Rk.Rd.bind, Tryd.underlying85]; rfl) (gT ?_)
  refine g_nil (hK _ _ _ ?_)
  refine k_seq ?_
  refine w_cond rfl (fun _ => ?_) (fun h => Bool.noConfusion h)
  refine wR fun K hK => ?_
  refine g_mv rfl rfl (gT ?_)
  refine g_nc rfl rfl rfl (gT ?_)
  refine g_fd rfl rfl fa75_0 rfl (gT ?_)
  refine g_ldc rfl rfl ag49 sz49 rfl rfl rfl (gT ?_)
  refine g_mv rfl rfl (gT ?_)
  refine g_bin rfl rfl rfl rfl rfl (gT ?_)
  refine g_nc rfl rfl rfl (gT ?_)
  refine g_fd rfl rfl fa75_0 rfl (gT ?_)
  refine g_st rfl rfl sz49 rfl rfl rfl (by rfl) (Nat.le_of_ble_eq_true rfl) (gU ?_)
  refine g_nil (hK _ _ _ ?_)
  refine k_seq ?_
  refine w_seq ?_
  refine wR fun K hK => ?_
  refine g_mv rfl rfl (gT ?_)
  refine g_as rfl rfl (gT ?_)
  refine g_nil (hK _ _ _ ?_)
  refine k_seq ?_
  refine w_ret ?_
  refine fin_wp (τ := [0]) rfl (by decide) ?_; rw [← Option.some.inj H]; simp only [Tryd.f47]; exact gF

set_option maxHeartbeats 8000000 in
set_option maxRecDepth 100000 in
theorem soft_Calc_Add.does {k : Nat} {s0_0 : Int} {a1 : Int} {a2 : Int} {r : Int × Int} (H : soft_Calc_Add.f k s0_0 a1 a2 = some r) : Do E0 (.fn 37 [.p (some (0, 0)), .i .u64 a1, .i .u64 a2] [.row [.i .u8 s0_0] 0 0 true false none] (.i .u64 r.1) [.row [.i .u8 r.2] 0 0 true false none]) := by
  refine fn_wpl Tryd.func37 rfl (Q := (soft_Calc_Add.Q s0_0 a1 a2 r)) (fun s h => h) ?_
  unfold soft_Calc_Add.f at H
  simp only [Tryd.ntmps37, List.length, List.replicate, Nat.reduceAdd, Nat.reduceSub, List.cons_append, List.nil_append]
  refine w_seq ?_
  refine wR fun K hK => ?_
  refine g_as rfl rfl (gT ?_)
  refine g_nil (hK _ _ _ ?_)
  refine k_seq ?_
  refine w_seq ?_
  refine wR fun K hK => ?_
  refine g_mv rfl rfl (gT ?_)
  refine g_mv rfl rfl (gT ?_)
  refine g_mv rfl rfl (gT ?_)
  obtain ⟨q1, hq1, H⟩ := bnd H
  refine g_cs [] rfl rfl (by rfl) Tryd.func48 rfl (by decide) (soft_Add.does hq1) ⟨Nat.le_of_ble_eq_true rfl, Nat.le_of_ble_eq_true rfl⟩ ?_; refine gC ?_
  refine g_ext rfl rfl rfl (Nat.le_of_ble_eq_true rfl) (gT ?_)
  refine g_ext rfl rfl rfl (Nat.le_of_ble_eq_true rfl) (gT ?_)
  obtain ⟨q2, hq2, H⟩ := bnd H
  refine g_cs [0] rfl rfl (by rfl) Tryd.func47 rfl (by decide) (soft_Calc_note.does hq2) ⟨Nat.le_of_ble_eq_true rfl, Nat.le_of_ble_eq_true rfl⟩ ?_; refine gC ?_
  refine g_as rfl rfl (gT ?_)
  refine g_nil (hK _ _ _ ?_)
  refine k_seq ?_
  refine w_ret ?_
  refine fin_wp (τ := [0]) rfl (by decide) ?_; rw [← Option.some.inj H]; simp only [Tryd.f37]; exact gF

set_option maxHeartbeats 8000000 in
set_option maxRecDepth 100000 in
theorem more_Scale.does_l {a0 : Int} {a1 : Int} (k : Nat) : (∀ (a_0 : Int) (n_1 : Int) (t_14 : Bool) (r : Int × Int), more_Scale.j0 k a_0 n_1 t_14 = some r → kont E0 (more_Scale.Q a0 a1 r) (frs (bodyOf Tryd.f33) [1, 0, 1, 0, 1, 1, 0, 1] []) .normal ⟨[.i .u64 a_0, .i .i64 n_1, .u, .u, .u, .u, .u, .u, .u, .u, .u, .u, .u, .u, .b t_14, .u, .u, .u, .u, .u, .u, .u, .u, .u, .u, .u, .u, .u, .u, .u, .u, .u, .u, .u, .u], ofL [], 0, 0⟩) := by
  induction k with
  | zero => exact fun _ _ _ r h => by simp [more_Scale.j0] at h
  | succ k ih =>
    have ih0 := ih
    refine ?_
    · intro a_0 n_1 t_14 r H
      unfold more_Scale.j0 at H
      simp only [bodyOf, Tryd.f33, frs, sub, if_true, if_false, Nat.one_ne_zero]
      refine k_seq ?_
      rcases its H with ⟨c6, H⟩ | ⟨c6, H⟩
      · have c6b : t_14 = true := c6; try simp only [c6b, nrm]
        refine w_cond rfl (fun _ => ?_) (fun h => Bool.noConfusion h)
        refine w_seq ?_
        refine wR fun K hK => ?_
        refine g_mv rfl rfl (gT ?_)
        refine g_as rfl rfl (gT ?_)
        refine g_as rfl rfl (gT ?_)
        refine g_nil (hK _ _ _ ?_)
        refine k_seq ?_
        refine w_ret ?_
        refine fin_wp (τ := []) rfl (by decide) ?_; rw [← Option.some.inj H]; simp only [Tryd.f33]; exact gF
      · have c6b : t_14 = false := Bool.eq_false_iff.mpr c6; try simp only [c6b, nrm]
        refine w_cond rfl (fun h => Bool.noConfusion h) (fun _ => ?_)
        refine w_skip ?_
        refine k_block ?_
        refine k_seq ?_
        refine w_seq ?_
        refine wR fun K hK => ?_
        refine g_mv rfl rfl (gT ?_)
        obtain ⟨q7, hq7, H⟩ := bnd H
        refine g_cs [] rfl rfl (by rfl) Tryd.func38 rfl (by decide) (word_Parts.does hq7) ⟨Nat.le_of_ble_eq_true rfl, Nat.le_of_ble_eq_true rfl⟩ ?_; refine gC ?_
        refine g_mv rfl rfl (gT ?_)
        refine g_ext rfl rfl rfl (Nat.le_of_ble_eq_true rfl) (gT ?_)
        refine g_ext rfl rfl rfl (Nat.le_of_ble_eq_true rfl) (gT ?_)
        refine g_as rfl rfl (gT ?_)
        refine g_as rfl rfl (gT ?_)
        refine g_nil (hK _ _ _ ?_)
        refine k_seq ?_
        refine w_seq ?_
        refine wR fun K hK => ?_
        refine g_mv rfl rfl (gT ?_)
        obtain ⟨q8, hq8, H⟩ := bnd H
        refine g_cs [] rfl rfl (by rfl) Tryd.func39 rfl (by decide) (word_Neg.does hq8) ⟨Nat.le_of_ble_eq_true rfl, Nat.le_of_ble_eq_true rfl⟩ ?_; refine gC ?_
        refine g_mv rfl rfl (gT ?_)
        refine g_bd rfl rfl zr83 Tryd.underlying83 (pl := [(0, 1), (1, 1)]) (by kernel_rfl) ?_; refine gB ?_
        refine g_mv rfl rfl (gT ?_)
        refine g_mv rfl rfl (gT ?_)
        refine g_min rfl rfl rfl rfl (m := mn _ _) rfl (gT ?_)
        refine g_max rfl rfl rfl rfl (m := mx _ _) rfl (gT ?_)
        refine g_bin rfl rfl rfl rfl rfl (gT ?_)
        obtain ⟨q9, hq9, H⟩ := bnd H
        refine g_cs [] rfl rfl (by rfl) Tryd.func43 rfl (by decide) (round_Round.does hq9) ⟨Nat.le_of_ble_eq_true rfl, Nat.le_of_ble_eq_true rfl⟩ ?_; refine gC ?_
        refine g_ext rfl rfl rfl (Nat.le_of_ble_eq_true rfl) (gT ?_)
        refine g_ext rfl rfl rfl (Nat.le_of_ble_eq_true rfl) (gT ?_)
        refine g_as rfl rfl (gT ?_)
        refine g_as rfl rfl (gT ?_)
        refine g_nil (hK _ _ _ ?_)
        refine k_seq ?_
        refine w_ret ?_
        refine fin_wp (τ := []) rfl (by decide) ?_; rw [← Option.some.inj H]; simp only [Tryd.f33]; exact gF
set_option maxHeartbeats 8000000 in
set_option maxRecDepth 100000 in
theorem more_Scale.does {k : Nat} {a0 : Int} {a1 : Int} {r : Int × Int} (H : more_Scale.f k a0 a1 = some r) : Do E0 (.fn 33 [.i .u64 a0, .i .i64 a1] [] (.t [.i .u64 r.1, .i .u8 r.2]) []) := by
  obtain ih0 := more_Scale.does_l (a0 := a0) (a1 := a1) k
  refine fn_wpl Tryd.func33 rfl (Q := (more_Scale.Q a0 a1 r)) (fun s h => h) ?_
  unfold more_Scale.f at H
  simp only [Tryd.ntmps33, List.length, List.replicate, Nat.reduceAdd, Nat.reduceSub, List.cons_append, List.nil_append]
  refine w_seq ?_
  refine wR fun K hK => ?_
  refine g_as rfl rfl (gT ?_)
  refine g_as rfl rfl (gT ?_)
  refine g_nil (hK _ _ _ ?_)
  refine k_seq ?_
  refine w_seq ?_
  refine w_seq ?_
  refine wR fun K hK => ?_
  refine g_mv rfl rfl (gT ?_)
  obtain ⟨q1, hq1, H⟩ := bnd H
  refine g_cs [] rfl rfl (by rfl) Tryd.func36 rfl (by decide) (word_Kind.does hq1) ⟨Nat.le_of_ble_eq_true rfl, Nat.le_of_ble_eq_true rfl⟩ ?_; refine gC ?_
  refine g_nil (hK _ _ _ ?_)
  refine k_seq ?_
  refine w_block ?_
  refine w_seq ?_
  refine wR fun K hK => ?_
  refine g_bin rfl rfl rfl rfl rfl (gT ?_)
  refine g_as rfl rfl (gT ?_)
  refine g_nil (hK _ _ _ ?_)
  refine k_seq ?_
  rcases its H with ⟨c2, H⟩ | ⟨c2, H⟩
  · have c2b := beq_iff_eq.mpr c2; have c2n := bne_eq_false_iff_eq.mpr c2; try simp only [c2b, c2n, nrm]
    refine w_cond rfl (fun _ => ?_) (fun h => Bool.noConfusion h)
    refine w_seq ?_
    refine w_seq ?_
    refine wR fun K hK => ?_
    refine g_mv rfl rfl (gT ?_)
    obtain ⟨q3, hq3, H⟩ := bnd H
    refine g_cs [] rfl rfl (by rfl) Tryd.func42 rfl (by decide) (word_Signals.does hq3) ⟨Nat.le_of_ble_eq_true rfl, Nat.le_of_ble_eq_true rfl⟩ ?_; refine gC ?_
    refine g_nil (hK _ _ _ ?_)
    refine k_seq ?_
    rcases its H with ⟨c4, H⟩ | ⟨c4, H⟩
    · have c4b : q3 = true := c4; try simp only [c4b, nrm]
      refine w_cond rfl (fun _ => ?_) (fun h => Bool.noConfusion h)
      refine w_seq ?_
      refine wR fun K hK => ?_
      refine g_as rfl rfl (gT ?_)
      refine g_as rfl rfl (gT ?_)
      refine g_nil (hK _ _ _ ?_)
      refine k_seq ?_
      refine w_ret ?_
      refine fin_wp (τ := []) rfl (by decide) ?_; rw [← Option.some.inj H]; simp only [Tryd.f33]; exact gF
    · have c4b : q3 = false := Bool.eq_false_iff.mpr c4; try simp only [c4b, nrm]
      refine w_cond rfl (fun h => Bool.noConfusion h) (fun _ => ?_)
      refine w_skip ?_
      refine k_seq ?_
      refine w_seq ?_
      refine wR fun K hK => ?_
      refine g_as rfl rfl (gT ?_)
      refine g_as rfl rfl (gT ?_)
      refine g_nil (hK _ _ _ ?_)
      refine k_seq ?_
      refine w_ret ?_
      refine fin_wp (τ := []) rfl (by decide) ?_; rw [← Option.some.inj H]; simp only [Tryd.f33]; exact gF
  · have c2b := beq_eq_false_iff_ne.mpr c2; have c2n := bne_iff_ne.mpr c2; try simp only [c2b, c2n, nrm]
    refine w_cond rfl (fun h => Bool.noConfusion h) (fun _ => ?_)
    refine w_seq ?_
    refine w_seq ?_
    refine wR fun K hK => ?_
    refine g_bin rfl rfl rfl rfl rfl (gT ?_)
    refine g_as rfl rfl (gT ?_)
    refine g_nil (hK _ _ _ ?_)
    refine k_seq ?_
    rcases its H with ⟨c5, H⟩ | ⟨c5, H⟩
    · have c5b := beq_iff_eq.mpr c5; have c5n := bne_eq_false_iff_eq.mpr c5; try simp only [c5b, c5n, nrm]
      refine w_cond rfl (fun _ => ?_) (fun h => Bool.noConfusion h)
      refine w_skip ?_
      refine k_wk (σ := []) [0, 0, 12] rfl (by decide) rfl ?_; refine gC ?_
      exact gI (ih0 a0 a1 true r H)
    · have c5b := beq_eq_false_iff_ne.mpr c5; have c5n := bne_iff_ne.mpr c5; try simp only [c5b, c5n, nrm]
      refine w_cond rfl (fun h => Bool.noConfusion h) (fun _ => ?_)
      refine wR fun K hK => ?_
      refine g_bin rfl rfl rfl rfl rfl (gT ?_)
      refine g_as rfl rfl (gT ?_)
      refine g_nil (hK _ _ _ ?_)
      refine k_wk (σ := []) [0, 0, 12] rfl (by decide) rfl ?_; refine gC ?_
      exact gI (ih0 a0 a1 (q1 == 1) r H)

theorem bal_Balance_level.len_l (k : Nat) : (∀ (i_2 : Int) (col_8 : Int) (row_9 : Int) (k_10 : Int) (h0_0 : Int) (h0_1 : Int) (h1 : List Int) (h2 : List Int) (h3 : List Int) (h4_0 : Int) (h4_1 : Int) (h4_2 : Int) (h5 : Int) (r : Bool × Int × Int × (List Int) × (List Int) × (List Int)), bal_Balance_level.l0 k i_2 col_8 row_9 k_10 h0_0 h0_1 h1 h2 h3 h4_0 h4_1 h4_2 h5 = some r → r.2.2.2.1.length = h1.length ∧ r.2.2.2.2.1.length = h2.length ∧ r.2.2.2.2.2.length = h3.length) ∧
    (∀ (i_2 : Int) (col_8 : Int) (row_9 : Int) (t_55 : Bool) (h0_0 : Int) (h0_1 : Int) (h1 : List Int) (h2 : List Int) (h3 : List Int) (h4_0 : Int) (h4_1 : Int) (h4_2 : Int) (r : Bool × Int × Int × (List Int) × (List Int) × (List Int)), bal_Balance_level.j1 k i_2 col_8 row_9 t_55 h0_0 h0_1 h1 h2 h3 h4_0 h4_1 h4_2 = some r → r.2.2.2.1.length = h1.length ∧ r.2.2.2.2.1.length = h2.length ∧ r.2.2.2.2.2.length = h3.length) ∧
    (∀ (i_2 : Int) (p_11 : Int) (all_13 : Int) (t_86 : Int) (t_87 : Int) (h0_0 : Int) (h0_1 : Int) (h1 : List Int) (h2 : List Int) (h3 : List Int) (h4_1 : Int) (h4_2 : Int) (h5_0 : Int) (h5_1 : Int) (h5_2 : Int) (h6 : List Int) (r : Bool × Int × Int × (List Int) × (List Int) × (List Int)), bal_Balance_level.l1 k i_2 p_11 all_13 t_86 t_87 h0_0 h0_1 h1 h2 h3 h4_1 h4_2 h5_0 h5_1 h5_2 h6 = some r → r.2.2.2.1.length = h1.length ∧ r.2.2.2.2.1.length = h2.length ∧ r.2.2.2.2.2.length = h3.length) := by
  induction k with
  | zero => exact ⟨fun _ _ _ _ _ _ _ _ _ _ _ _ _ r h => by simp [bal_Balance_level.l0] at h, fun _ _ _ _ _ _ _ _ _ _ _ _ r h => by simp [bal_Balance_level.j1] at h, fun _ _ _ _ _ _ _ _ _ _ _ _ _ _ _ _ r h => by simp [bal_Balance_level.l1] at h⟩
  | succ k ih =>
    obtain ⟨ih0, ih1, ih2⟩ := ih
    refine ⟨?_, ?_, ?_⟩
    · intro i_2 col_8 row_9 k_10 h0_0 h0_1 h1 h2 h3 h4_0 h4_1 h4_2 h5 r H
      unfold bal_Balance_level.l0 at H
      rcases its H with ⟨c1, H⟩ | ⟨c1, H⟩
      · skip
        rcases its H with ⟨c2, H⟩ | ⟨c2, H⟩
        · skip
          have ih_ := ih0 i_2 col_8 row_9 (wrap64 (k_10 + 1)) h0_0 h0_1 h1 h2 h3 h4_0 h4_1 h4_2 h5 r H; first | exact ih_ | omega | (simp only [List.length_set, List.length_append, List.length_replicate] at ih_ ⊢; omega)
        · skip
          obtain ⟨q3, hq3, H⟩ := bnd H
          obtain ⟨q4, hq4, H⟩ := bnd H
          obtain ⟨q5, hq5, H⟩ := bnd H
          obtain ⟨q6, hq6, H⟩ := bnd H
          obtain ⟨q7, hq7, H⟩ := bnd H
          obtain ⟨q8, hq8, H⟩ := bnd H
          have ih_ := ih0 i_2 q5.1 q8.1 (wrap64 (k_10 + 1)) h0_0 h0_1 h1 h2 h3 h4_0 h4_1 h4_2 q8.2 r H; first | exact ih_ | omega | (simp only [List.length_set, List.length_append, List.length_replicate] at ih_ ⊢; omega)
      · skip
        obtain ⟨q9, hq9, H⟩ := bnd H
        rcases its H with ⟨c10, H⟩ | ⟨c10, H⟩
        · skip
          obtain ⟨q11, hq11, H⟩ := bnd H
          have ih_ := ih1 i_2 col_8 row_9 (q11 != 3) h0_0 h0_1 h1 h2 h3 h4_0 h4_1 h4_2 r H; first | exact ih_ | omega | (simp only [List.length_set, List.length_append, List.length_replicate] at ih_ ⊢; omega)
        · skip
          have ih_ := ih1 i_2 col_8 row_9 true h0_0 h0_1 h1 h2 h3 h4_0 h4_1 h4_2 r H; first | exact ih_ | omega | (simp only [List.length_set, List.length_append, List.length_replicate] at ih_ ⊢; omega)
    · intro i_2 col_8 row_9 t_55 h0_0 h0_1 h1 h2 h3 h4_0 h4_1 h4_2 r H
      unfold bal_Balance_level.j1 at H
      rcases its H with ⟨c12, H⟩ | ⟨c12, H⟩
      · skip
        have hr_ := Option.some.inj H; clear H; subst hr_; (repeat' apply And.intro) <;> first | rfl | omega | (simp only [List.length_set, cpy_len]; done) | (simp only [List.length_set, cpy_len]; omega)
      · skip
        obtain ⟨q13, hq13, H⟩ := bnd H
        obtain ⟨q14, hq14, H⟩ := bnd H
        obtain ⟨c15, H⟩ := it1 H
        obtain ⟨c16, H⟩ := it1 H
        rcases its H with ⟨c17, H⟩ | ⟨c17, H⟩
        · skip
          have hr_ := Option.some.inj H; clear H; subst hr_; (repeat' apply And.intro) <;> first | rfl | omega | (simp only [List.length_set, cpy_len]; done) | (simp only [List.length_set, cpy_len]; omega)
        · skip
          obtain ⟨q18, hq18, H⟩ := bnd H
          have ih_ := ih2 i_2 (mx (wrap64 ((-200) - (rd h3 i_2))) (mn (wrap64 (Int.tdiv (wrap64 (q13 - q14)) 2)) (wrap64 (200 - (rd h3 i_2))))) 0 h4_0 0 h0_0 h0_1 h1 h2 h3 h4_1 h4_2 q18.1 q18.2.1 q18.2.2.1 q18.2.2.2 r H; first | exact ih_ | omega | (simp only [List.length_set, List.length_append, List.length_replicate] at ih_ ⊢; omega)
    · intro i_2 p_11 all_13 t_86 t_87 h0_0 h0_1 h1 h2 h3 h4_1 h4_2 h5_0 h5_1 h5_2 h6 r H
      unfold bal_Balance_level.l1 at H
      rcases its H with ⟨c19, H⟩ | ⟨c19, H⟩
      · skip
        rcases its H with ⟨c20, H⟩ | ⟨c20, H⟩
        · skip
          have ih_ := ih2 i_2 p_11 all_13 t_86 (wrap64 (t_87 + 1)) h0_0 h0_1 h1 h2 h3 h4_1 h4_2 h5_0 h5_1 h5_2 h6 r H; first | exact ih_ | omega | (simp only [List.length_set, List.length_append, List.length_replicate] at ih_ ⊢; omega)
        · skip
          obtain ⟨q21, hq21, H⟩ := bnd H
          obtain ⟨q22, hq22, H⟩ := bnd H
          obtain ⟨q23, hq23, H⟩ := bnd H
          obtain ⟨q24, hq24, H⟩ := bnd H
          obtain ⟨q25, hq25, H⟩ := bnd H
          have zq25_0 := mat_Matrix_Set.len hq25
          (try simp only [List.length_set, List.length_replicate, List.length_append, List.length_cons, List.length_nil, Nat.zero_add] at zq25_0)
          obtain ⟨q26, hq26, H⟩ := bnd H
          have zq26_0 := mat_Matrix_Set.len hq26
          (try simp only [List.length_set, List.length_replicate, List.length_append, List.length_cons, List.length_nil, Nat.zero_add] at zq26_0)
          have ih_ := ih2 i_2 p_11 (Go.bits .or .u8 all_13 (Go.bits .or .u8 q22.2 q24.2)) t_86 (wrap64 (t_87 + 1)) h0_0 h0_1 h1 h2 h3 h4_1 h4_2 h5_0 h5_1 h5_2 q26 r H; first | exact ih_ | omega | (simp only [List.length_set, List.length_append, List.length_replicate] at ih_ ⊢; omega)
      · skip
        rcases its H with ⟨c27, H⟩ | ⟨c27, H⟩
        · skip
          obtain ⟨c28, H⟩ := it1 H
          obtain ⟨c29, H⟩ := it1 H
          have hr_ := Option.some.inj H; clear H; subst hr_; (repeat' apply And.intro) <;> first | rfl | omega | (simp only [List.length_set, cpy_len]; done) | (simp only [List.length_set, cpy_len]; omega)
        · skip
          have hr_ := Option.some.inj H; clear H; subst hr_; (repeat' apply And.intro) <;> first | rfl | omega | (simp only [List.length_set, cpy_len]; done) | (simp only [List.length_set, cpy_len]; omega)
theorem bal_Balance_level.len {k : Nat} {l0_0 : List Int} {l0_1 : List Int} {s0_2 : Int} {s0_3 : Int} {a1_0 : Int} {a1_1 : Int} {a1_2 : Int} {l1_3 : List Int} {a2 : Int} {r : Bool × Int × Int × (List Int) × (List Int) × (List Int)} (H : bal_Balance_level.f k l0_0 l0_1 s0_2 s0_3 a1_0 a1_1 a1_2 l1_3 a2 = some r) : r.2.2.2.1.length = l1_3.length ∧ r.2.2.2.2.1.length = l0_0.length ∧ r.2.2.2.2.2.length = l0_1.length := by
  obtain ⟨ih0, ih1, ih2⟩ := bal_Balance_level.len_l k
  unfold bal_Balance_level.f at H
  have ih_ := ih0 a2 0 0 s0_2 s0_2 s0_3 l1_3 l0_0 l0_1 a1_0 a1_1 a1_2 0 r H; first | exact ih_ | omega | (simp only [List.length_set, List.length_append, List.length_replicate] at ih_ ⊢; omega)
set_option maxHeartbeats 8000000 in
set_option maxRecDepth 100000 in
theorem bal_Balance_level.does_l {l0_0 : List Int} {l0_1 : List Int} {s0_2 : Int} {s0_3 : Int} {a1_0 : Int} {a1_1 : Int} {a1_2 : Int} {l1_3 : List Int} {a2 : Int} (k : Nat) : (∀ (i_2 : Int) (col_8 : Int) (row_9 : Int) (k_10 : Int) (h0_0 : Int) (h0_1 : Int) (h1 : List Int) (h2 : List Int) (h3 : List Int) (h4_0 : Int) (h4_1 : Int) (h4_2 : Int) (h5 : Int) (r : Bool × Int × Int × (List Int) × (List Int) × (List Int)), bal_Balance_level.l0 k i_2 col_8 row_9 k_10 h0_0 h0_1 h1 h2 h3 h4_0 h4_1 h4_2 h5 = some r → wk_ E0 (bal_Balance_level.Q l0_0 l0_1 s0_2 s0_3 a1_0 a1_1 a1_2 l1_3 a2 r) (frs (bodyOf Tryd.f27) [1, 1, 1, 0, 1, 0] []) (sub (bodyOf Tryd.f27) [1, 1, 1, 0, 1, 0]) ⟨[.p (some (0, 0)), .u, .i .i64 i_2, .u, .p (some (4, 0)), .u, .u, .p (some (5, 0)), .i .u64 col_8, .i .u64 row_9, .i .i64 k_10, .u, .u, .u, .u, .u, .u, .u, .u, .u, .u, .u, .u, .u, .u, .u, .u, .u, .u, .u, .u, .u, .u, .u, .u, .u, .u, .u, .u, .u, .u, .u, .u, .u, .u, .u, .u, .u, .u, .u, .u, .u, .u, .u, .u, .u, .u, .u, .u, .u, .u, .u, .u, .u, .u, .u, .u, .u, .u, .u, .u, .u, .u, .u, .u, .u, .u, .u, .u, .u, .u, .u, .u, .u, .u, .u, .u, .u, .u, .u, .u, .u, .u, .u, .u, .u, .u, .u, .u, .u, .u, .u, .u, .u, .u, .u, .u, .u, .u, .u, .u, .u, .u, .u, .u, .u, .u, .u, .u, .u, .u, .u, .u, .u, .u, .u, .u, .u, .u, .u, .u, .u, .u, .u, .u, .u, .u, .u, .u, .u, .u, .u, .u, .u, .u], ofL [.row [.s (some (2, 0)) h2.length, .s (some (3, 0)) h3.length, .i .i64 h0_0, .i .i64 h0_1] 0 0 true false none, .row (h1.map (V.i .u64)) 2 1 true false none, .row (h2.map (V.i .i64)) 2 1 true false none, .row (h3.map (V.i .i64)) 2 1 true false none, .row [.i .i64 h4_0, .i .i64 h4_1, .i .i64 h4_2, .s (some (1, 0)) h1.length] 0 0 true true none, .row [.i .u8 h5] 0 0 true true none], 6, 4⟩) ∧
    (∀ (i_2 : Int) (col_8 : Int) (row_9 : Int) (t_55 : Bool) (h0_0 : Int) (h0_1 : Int) (h1 : List Int) (h2 : List Int) (h3 : List Int) (h4_0 : Int) (h4_1 : Int) (h4_2 : Int) (r : Bool × Int × Int × (List Int) × (List Int) × (List Int)), bal_Balance_level.j1 k i_2 col_8 row_9 t_55 h0_0 h0_1 h1 h2 h3 h4_0 h4_1 h4_2 = some r → kont E0 (bal_Balance_level.Q l0_0 l0_1 s0_2 s0_3 a1_0 a1_1 a1_2 l1_3 a2 r) (frs (bodyOf Tryd.f27) [1, 1, 1, 1, 0, 0] []) .normal ⟨[.p (some (0, 0)), .u, .i .i64 i_2, .u, .p (some (4, 0)), .u, .u, .u, .i .u64 col_8, .i .u64 row_9, .u, .u, .u, .u, .u, .u, .u, .u, .u, .u, .u, .u, .u, .u, .u, .u, .u, .u, .u, .u, .u, .u, .u, .u, .u, .u, .u, .u, .u, .u, .u, .u, .u, .u, .u, .u, .u, .u, .u, .u, .u, .u, .u, .u, .u, .b t_55, .u, .u, .u, .u, .u, .u, .u, .u, .u, .u, .u, .u, .u, .u, .u, .u, .u, .u, .u, .u, .u, .u, .u, .u, .u, .u, .u, .u, .u, .u, .u, .u, .u, .u, .u, .u, .u, .u, .u, .u, .u, .u, .u, .u, .u, .u, .u, .u, .u, .u, .u, .u, .u, .u, .u, .u, .u, .u, .u, .u, .u, .u, .u, .u, .u, .u, .u, .u, .u, .u, .u, .u, .u, .u, .u, .u, .u, .u, .u, .u, .u, .u, .u, .u, .u, .u, .u, .u, .u], ofL [.row [.s (some (2, 0)) h2.length, .s (some (3, 0)) h3.length, .i .i64 h0_0, .i .i64 h0_1] 0 0 true false none, .row (h1.map (V.i .u64)) 2 1 true false none, .row (h2.map (V.i .i64)) 2 1 true false none, .row (h3.map (V.i .i64)) 2 1 true false none, .row [.i .i64 h4_0, .i .i64 h4_1, .i .i64 h4_2, .s (some (1, 0)) h1.length] 0 0 true true none], 5, 4⟩) ∧
    (∀ (i_2 : Int) (p_11 : Int) (all_13 : Int) (t_86 : Int) (t_87 : Int) (h0_0 : Int) (h0_1 : Int) (h1 : List Int) (h2 : List Int) (h3 : List Int) (h4_1 : Int) (h4_2 : Int) (h5_0 : Int) (h5_1 : Int) (h5_2 : Int) (h6 : List Int) (r : Bool × Int × Int × (List Int) × (List Int) × (List Int)), bal_Balance_level.l1 k i_2 p_11 all_13 t_86 t_87 h0_0 h0_1 h1 h2 h3 h4_1 h4_2 h5_0 h5_1 h5_2 h6 = some r → wk_ E0 (bal_Balance_level.Q l0_0 l0_1 s0_2 s0_3 a1_0 a1_1 a1_2 l1_3 a2 r) (frs (bodyOf Tryd.f27) [1, 1, 1, 1, 1, 1, 1, 1, 1, 1, 0, 1, 0] []) (sub (bodyOf Tryd.f27) [1, 1, 1, 1, 1, 1, 1, 1, 1, 1, 0, 1, 0]) ⟨[.p (some (0, 0)), .u, .i .i64 i_2, .u, .p (some (4, 0)), .u, .u, .u, .u, .u, .u, .i .i64 p_11, .p (some (5, 0)), .i .u8 all_13, .u, .u, .u, .u, .u, .u, .u, .u, .u, .u, .u, .u, .u, .u, .u, .u, .u, .u, .u, .u, .u, .u, .u, .u, .u, .u, .u, .u, .u, .u, .u, .u, .u, .u, .u, .u, .u, .u, .u, .u, .u, .u, .u, .u, .u, .u, .u, .u, .u, .u, .u, .u, .u, .u, .u, .u, .u, .u, .u, .u, .u, .u, .u, .u, .u, .u, .u, .u, .u, .u, .u, .u, .i .i64 t_86, .i .i64 t_87, .u, .u, .u, .u, .u, .u, .u, .u, .u, .u, .u, .u, .u, .u, .u, .u, .u, .u, .u, .u, .u, .u, .u, .u, .u, .u, .u, .u, .u, .u, .u, .u, .u, .u, .u, .u, .u, .u, .u, .u, .u, .u, .u, .u, .u, .u, .u, .u, .u, .u, .u, .u, .u, .u, .u, .u, .u], ofL [.row [.s (some (2, 0)) h2.length, .s (some (3, 0)) h3.length, .i .i64 h0_0, .i .i64 h0_1] 0 0 true false none, .row (h1.map (V.i .u64)) 2 1 true false none, .row (h2.map (V.i .i64)) 2 1 true false none, .row (h3.map (V.i .i64)) 2 1 true false none, .row [.i .i64 t_86, .i .i64 h4_1, .i .i64 h4_2, .s (some (1, 0)) h1.length] 0 0 true true none, .row [.i .i64 h5_0, .i .i64 h5_1, .i .i64 h5_2, .s (some (6, 0)) h6.length] 0 0 true true none, .row (h6.map (V.i .u64)) 2 1 true true none], 7, 4⟩) := by
  induction k with
  | zero => exact ⟨fun _ _ _ _ _ _ _ _ _ _ _ _ _ r h => by simp [bal_Balance_level.l0] at h, fun _ _ _ _ _ _ _ _ _ _ _ _ r h => by simp [bal_Balance_level.j1] at h, fun _ _ _ _ _ _ _ _ _ _ _ _ _ _ _ _ r h => by simp [bal_Balance_level.l1] at h⟩
  | succ k ih =>
    obtain ⟨ih0, ih1, ih2⟩ := ih
    refine ⟨?_, ?_, ?_⟩
    · intro i_2 col_8 row_9 k_10 h0_0 h0_1 h1 h2 h3 h4_0 h4_1 h4_2 h5 r H
      unfold bal_Balance_level.l0 at H
      simp only [bodyOf, Tryd.f27, frs, sub, if_true, if_false, Nat.one_ne_zero]
      refine w_loop ?_
      refine w_seq ?_
      refine w_seq ?_
      refine wR fun K hK => ?_
      refine g_mv rfl rfl (gT ?_)
      refine g_mv rfl rfl (gT ?_)
      refine g_nc rfl rfl rfl (gT ?_)
      refine g_fd rfl rfl fa31_3 rfl (gT ?_)
      refine g_ldc rfl rfl ag3 sz3 rfl rfl rfl (gT ?_)
      refine g_bin rfl rfl rfl rfl rfl (gT ?_)
      refine g_nil (hK _ _ _ ?_)
      refine k_seq ?_
      rcases its H with ⟨c1, H⟩ | ⟨c1, H⟩
      · have c1b := decide_eq_true c1; try simp only [c1b, nrm]
        refine w_cond rfl (fun _ => ?_) (fun h => Bool.noConfusion h)
        refine w_skip ?_
        refine k_seq ?_
        refine w_seq ?_
        refine w_block ?_
        refine w_seq ?_
        refine wR fun K hK => ?_
        refine g_mv rfl rfl (gT ?_)
        refine g_mv rfl rfl (gT ?_)
        refine g_bin rfl rfl rfl rfl rfl (gT ?_)
        refine g_nil (hK _ _ _ ?_)
        refine k_seq ?_
        rcases its H with ⟨c2, H⟩ | ⟨c2, H⟩
        · have c2b := beq_iff_eq.mpr c2; have c2n := bne_eq_false_iff_eq.mpr c2; try simp only [c2b, c2n, nrm]
          refine w_cond rfl (fun h => Bool.noConfusion h) (fun _ => ?_)
          refine w_skip ?_
          refine k_block ?_
          refine k_seq ?_
          refine wR fun K hK => ?_
          refine g_mv rfl rfl (gT ?_)
          refine g_bin rfl rfl rfl rfl rfl (gT ?_)
          refine g_as rfl rfl (gT ?_)
          refine g_nil (hK _ _ _ ?_)
          refine k_loop ?_
          refine w_wk (σ := [0, 1, 2, 3, 4, 5]) [0, 1, 1, 2, 0, 0, 0] rfl (by decide) ?_; refine gC ?_
          exact gI (ih0 i_2 col_8 row_9 (wrap64 (k_10 + 1)) h0_0 h0_1 h1 h2 h3 h4_0 h4_1 h4_2 h5 r H)
        · have c2b := beq_eq_false_iff_ne.mpr c2; have c2n := bne_iff_ne.mpr c2; try simp only [c2b, c2n, nrm]
          refine w_cond rfl (fun _ => ?_) (fun h => Bool.noConfusion h)
          refine wD fun K hK => ?_
          refine g_mv rfl rfl (gT ?_)
          refine g_lda rfl rfl ag26 sz26 rfl rfl (Nat.le_of_ble_eq_true rfl) (gT ?_)
          refine g_mv rfl rfl (gT ?_)
          refine g_mv rfl rfl (gT ?_)
          obtain ⟨q3, hq3, H⟩ := bnd H
          refine g_cs [] rfl rfl (by rfl) Tryd.func12 rfl (by decide) (mat_Matrix_At.does hq3) ⟨Nat.le_of_ble_eq_true rfl, Nat.le_of_ble_eq_true rfl⟩ ?_; refine gC ?_
          obtain ⟨q4, hq4, H⟩ := bnd H
          refine g_cs [] rfl rfl (by rfl) Tryd.func17 rfl (by decide) (word_Abs.does hq4) ⟨Nat.le_of_ble_eq_true rfl, Nat.le_of_ble_eq_true rfl⟩ ?_; refine gC ?_
          obtain ⟨q5, hq5, H⟩ := bnd H
          refine g_cs [5] rfl rfl (by rfl) Tryd.func37 rfl (by decide) (soft_Calc_Add.does hq5) ⟨Nat.le_of_ble_eq_true rfl, Nat.le_of_ble_eq_true rfl⟩ ?_; refine gC ?_
          refine g_mv rfl rfl (gT ?_)
          refine g_lda rfl rfl ag26 sz26 rfl rfl (Nat.le_of_ble_eq_true rfl) (gT ?_)
          refine g_mv rfl rfl (gT ?_)
          refine g_mv rfl rfl (gT ?_)
          obtain ⟨q6, hq6, H⟩ := bnd H
          refine g_cs [] rfl rfl (by rfl) Tryd.func12 rfl (by decide) (mat_Matrix_At.does hq6) ⟨Nat.le_of_ble_eq_true rfl, Nat.le_of_ble_eq_true rfl⟩ ?_; refine gC ?_
          obtain ⟨q7, hq7, H⟩ := bnd H
          refine g_cs [] rfl rfl (by rfl) Tryd.func17 rfl (by decide) (word_Abs.does hq7) ⟨Nat.le_of_ble_eq_true rfl, Nat.le_of_ble_eq_true rfl⟩ ?_; refine gC ?_
          obtain ⟨q8, hq8, H⟩ := bnd H
          refine g_cs [5] rfl rfl (by rfl) Tryd.func37 rfl (by decide) (soft_Calc_Add.does hq8) ⟨Nat.le_of_ble_eq_true rfl, Nat.le_of_ble_eq_true rfl⟩ ?_; refine gC ?_
          refine g_as rfl rfl (gT ?_)
          refine g_as rfl rfl (gT ?_)
          refine g_nil (hK _ _ _ (by kernel_rfl) ?_)
          refine k_block ?_
          refine k_seq ?_
          refine wR fun K hK => ?_
          refine g_mv rfl rfl (gT ?_)
          refine g_bin rfl rfl rfl rfl rfl (gT ?_)
          refine g_as rfl rfl (gT ?_)
          refine g_nil (hK _ _ _ ?_)
          refine k_loop ?_
          refine w_wk (σ := [0, 1, 2, 3, 4, 5]) [0, 1, 1, 2, 0, 0, 0] rfl (by decide) ?_; refine gC ?_
          exact gI (ih0 i_2 q5.1 q8.1 (wrap64 (k_10 + 1)) h0_0 h0_1 h1 h2 h3 h4_0 h4_1 h4_2 q8.2 r H)
      · have c1b := decide_eq_false c1; try simp only [c1b, nrm]
        refine w_cond rfl (fun h => Bool.noConfusion h) (fun _ => ?_)
        refine w_exit rfl ?_
        refine k_seq ?_
        refine w_seq ?_
        refine w_seq ?_
        refine wR fun K hK => ?_
        refine g_mv rfl rfl (gT ?_)
        obtain ⟨q9, hq9, H⟩ := bnd H
        refine g_cs [] rfl rfl (by rfl) Tryd.func36 rfl (by decide) (word_Kind.does hq9) ⟨Nat.le_of_ble_eq_true rfl, Nat.le_of_ble_eq_true rfl⟩ ?_; refine gC ?_
        refine g_bin rfl rfl rfl rfl rfl (gT ?_)
        refine g_mv rfl rfl (gT ?_)
        rcases its H with ⟨c10, H⟩ | ⟨c10, H⟩
        · have c10b := beq_iff_eq.mpr c10; have c10n := bne_eq_false_iff_eq.mpr c10; try simp only [c10b, c10n, nrm]
          refine g_mv rfl rfl (gT ?_)
          obtain ⟨q11, hq11, H⟩ := bnd H
          refine g_cs [] rfl rfl (by rfl) Tryd.func36 rfl (by decide) (word_Kind.does hq11) ⟨Nat.le_of_ble_eq_true rfl, Nat.le_of_ble_eq_true rfl⟩ ?_; refine gC ?_
          refine g_bin rfl rfl rfl rfl rfl (gT ?_)
          refine g_pick rfl rfl rfl (gT ?_)
          refine g_nil (hK _ _ _ ?_)
          refine k_wk (σ := [0, 1, 2, 3, 4]) [0, 1, 1, 3, 0, 45] rfl (by decide) rfl ?_; refine gC ?_
          exact gI (ih1 i_2 col_8 row_9 (q11 != 3) h0_0 h0_1 h1 h2 h3 h4_0 h4_1 h4_2 r H)
        · have c10b := beq_eq_false_iff_ne.mpr c10; have c10n := bne_iff_ne.mpr c10; try simp only [c10b, c10n, nrm]
          refine g_sk rfl rfl (gT ?_)
          refine g_sk rfl rfl (gT ?_)
          refine g_sk rfl rfl (gT ?_)
          refine g_pick rfl rfl rfl (gT ?_)
          refine g_nil (hK _ _ _ ?_)
          refine k_wk (σ := [0, 1, 2, 3, 4]) [0, 1, 1, 3, 0, 45] rfl (by decide) rfl ?_; refine gC ?_
          exact gI (ih1 i_2 col_8 row_9 true h0_0 h0_1 h1 h2 h3 h4_0 h4_1 h4_2 r H)
    · intro i_2 col_8 row_9 t_55 h0_0 h0_1 h1 h2 h3 h4_0 h4_1 h4_2 r H
      unfold bal_Balance_level.j1 at H
      simp only [bodyOf, Tryd.f27, frs, sub, if_true, if_false, Nat.one_ne_zero]
      refine k_seq ?_
      rcases its H with ⟨c12, H⟩ | ⟨c12, H⟩
      · have c12b : t_55 = true := c12; try simp only [c12b, nrm]
        refine w_cond rfl (fun _ => ?_) (fun h => Bool.noConfusion h)
        refine w_seq ?_
        refine wR fun K hK => ?_
        refine g_as rfl rfl (gT ?_)
        refine g_nil (hK _ _ _ ?_)
        refine k_seq ?_
        refine w_ret ?_
        refine fin_wp (τ := [0, 1, 2, 3]) rfl (by decide) ?_; rw [← Option.some.inj H]; simp only [Tryd.f27]; exact gF
      · have c12b : t_55 = false := Bool.eq_false_iff.mpr c12; try simp only [c12b, nrm]
        refine w_cond rfl (fun h => Bool.noConfusion h) (fun _ => ?_)
        refine w_skip ?_
        refine k_seq ?_
        refine w_seq ?_
        refine wR fun K hK => ?_
        refine g_mv rfl rfl (gT ?_)
        obtain ⟨q13, hq13, H⟩ := bnd H
        refine g_cs [] rfl rfl (by rfl) Tryd.func30 rfl (by decide) (word_Exp.does hq13) ⟨Nat.le_of_ble_eq_true rfl, Nat.le_of_ble_eq_true rfl⟩ ?_; refine gC ?_
        refine g_mv rfl rfl (gT ?_)
        obtain ⟨q14, hq14, H⟩ := bnd H
        refine g_cs [] rfl rfl (by rfl) Tryd.func30 rfl (by decide) (word_Exp.does hq14) ⟨Nat.le_of_ble_eq_true rfl, Nat.le_of_ble_eq_true rfl⟩ ?_; refine gC ?_
        refine g_bin rfl rfl rfl rfl rfl (gT ?_)
        refine g_quo rfl rfl rfl rfl (by first | assumption | omega) (gT ?_)
        refine g_as rfl rfl (gT ?_)
        refine g_nil (hK _ _ _ ?_)
        refine k_seq ?_
        refine w_seq ?_
        refine wD fun K hK => ?_
        refine g_mv rfl rfl (gT ?_)
        refine g_nc rfl rfl rfl (gT ?_)
        refine g_fd rfl rfl fa31_1 rfl (gT ?_)
        refine g_ldc rfl rfl ag29 sz29 rfl rfl rfl (gT ?_)
        refine g_mv rfl rfl (gT ?_)
        obtain ⟨c15, H⟩ := it1 H
        obtain ⟨c16, H⟩ := it1 H
        refine g_ixo rfl rfl Tryd.underlying29 sz3 rfl rfl (by first | assumption | omega) (by first | assumption | omega | (simp only [List.length_set, List.length_replicate] at *; omega)) (gT ?_)
        refine g_ldo rfl rfl ag3 sz3 rfl rfl (by first | assumption | omega | (simp only [List.length_set, List.length_replicate] at *; omega)) (gT ?_)
        refine g_bin rfl rfl rfl rfl rfl (gT ?_)
        refine g_mv rfl rfl (gT ?_)
        refine g_mv rfl rfl (gT ?_)
        refine g_nc rfl rfl rfl (gT ?_)
        refine g_fd rfl rfl fa31_1 rfl (gT ?_)
        refine g_ldc rfl rfl ag29 sz29 rfl rfl rfl (gT ?_)
        refine g_mv rfl rfl (gT ?_)
        refine g_ixo rfl rfl Tryd.underlying29 sz3 rfl rfl (by first | assumption | omega) (by first | assumption | omega | (simp only [List.length_set, List.length_replicate] at *; omega)) (gT ?_)
        refine g_ldo rfl rfl ag3 sz3 rfl rfl (by first | assumption | omega | (simp only [List.length_set, List.length_replicate] at *; omega)) (gT ?_)
        refine g_bin rfl rfl rfl rfl rfl (gT ?_)
        refine g_min rfl rfl rfl rfl (m := mn _ _) rfl (gT ?_)
        refine g_max rfl rfl rfl rfl (m := mx _ _) rfl (gT ?_)
        refine g_as rfl rfl (gT ?_)
        refine g_nil (hK _ _ _ (by kernel_rfl) ?_)
        refine k_seq ?_
        refine w_seq ?_
        refine w_seq ?_
        refine wR fun K hK => ?_
        refine g_mv rfl rfl (gT ?_)
        refine g_bin rfl rfl rfl rfl rfl (gT ?_)
        refine g_nil (hK _ _ _ ?_)
        refine k_seq ?_
        rcases its H with ⟨c17, H⟩ | ⟨c17, H⟩
        · have c17b := beq_iff_eq.mpr c17; have c17n := bne_eq_false_iff_eq.mpr c17; try simp only [c17b, c17n, nrm]
          refine w_cond rfl (fun _ => ?_) (fun h => Bool.noConfusion h)
          refine w_seq ?_
          refine wR fun K hK => ?_
          refine g_as rfl rfl (gT ?_)
          refine g_nil (hK _ _ _ ?_)
          refine k_seq ?_
          refine w_ret ?_
          refine fin_wp (τ := [0, 1, 2, 3]) rfl (by decide) ?_; rw [← Option.some.inj H]; simp only [Tryd.f27]; exact gF
        · have c17b := beq_eq_false_iff_ne.mpr c17; have c17n := bne_iff_ne.mpr c17; try simp only [c17b, c17n, nrm]
          refine w_cond rfl (fun h => Bool.noConfusion h) (fun _ => ?_)
          refine w_skip ?_
          refine k_seq ?_
          refine w_seq ?_
          refine wR fun K hK => ?_
          refine g_lda rfl rfl ag26 sz26 rfl rfl (Nat.le_of_ble_eq_true rfl) (gT ?_)
          obtain ⟨q18, hq18, H⟩ := bnd H
          refine g_cs [] rfl rfl (by rfl) Tryd.func7 rfl (by decide) (mat_Matrix_Clone.does hq18) ⟨Nat.le_of_ble_eq_true rfl, Nat.le_of_ble_eq_true rfl⟩ ?_; refine gC ?_
          refine g_alloc rfl rfl zr26 (gU ?_)
          refine g_st rfl rfl sz26 rfl rfl rfl (by rfl) (Nat.le_of_ble_eq_true rfl) (gU ?_)
          refine g_nil (hK _ _ _ ?_)
          refine k_seq ?_
          refine w_seq ?_
          refine wR fun K hK => ?_
          refine g_as rfl rfl (gT ?_)
          refine g_nil (hK _ _ _ ?_)
          refine k_seq ?_
          refine w_seq ?_
          refine w_seq ?_
          refine wR fun K hK => ?_
          refine g_fd rfl rfl fa26_0 rfl (gT ?_)
          refine g_ldc rfl rfl ag3 sz3 rfl rfl rfl (gT ?_)
          refine g_mv rfl rfl (gT ?_)
          refine g_nil (hK _ _ _ ?_)
          refine k_seq ?_
          refine w_block ?_
          refine w_wk (σ := [0, 1, 2, 3, 4, 129, 125]) [0, 1, 1, 6, 0, 0, 72, 0] rfl (by decide) ?_; refine gC ?_
          exact gI (ih2 i_2 (mx (wrap64 ((-200) - (rd h3 i_2))) (mn (wrap64 (Int.tdiv (wrap64 (q13 - q14)) 2)) (wrap64 (200 - (rd h3 i_2))))) 0 h4_0 0 h0_0 h0_1 h1 h2 h3 h4_1 h4_2 q18.1 q18.2.1 q18.2.2.1 q18.2.2.2 r H)
    · intro i_2 p_11 all_13 t_86 t_87 h0_0 h0_1 h1 h2 h3 h4_1 h4_2 h5_0 h5_1 h5_2 h6 r H
      unfold bal_Balance_level.l1 at H
      simp only [bodyOf, Tryd.f27, frs, sub, if_true, if_false, Nat.one_ne_zero]
      refine w_loop ?_
      refine w_seq ?_
      refine wR fun K hK => ?_
      refine g_bin rfl rfl rfl rfl rfl (gT ?_)
      refine g_nil (hK _ _ _ ?_)
      refine k_seq ?_
      refine w_seq ?_
      rcases its H with ⟨c19, H⟩ | ⟨c19, H⟩
      · have c19b := decide_eq_true c19; try simp only [c19b, nrm]
        refine w_cond rfl (fun _ => ?_) (fun h => Bool.noConfusion h)
        refine w_skip ?_
        refine k_seq ?_
        refine w_seq ?_
        refine w_block ?_
        refine w_seq ?_
        refine wR fun K hK => ?_
        refine g_mv rfl rfl (gT ?_)
        refine g_as rfl rfl (gT ?_)
        refine g_nil (hK _ _ _ ?_)
        refine k_seq ?_
        refine w_seq ?_
        refine wR fun K hK => ?_
        refine g_mv rfl rfl (gT ?_)
        refine g_mv rfl rfl (gT ?_)
        refine g_bin rfl rfl rfl rfl rfl (gT ?_)
        refine g_nil (hK _ _ _ ?_)
        refine k_seq ?_
        rcases its H with ⟨c20, H⟩ | ⟨c20, H⟩
        · have c20b := beq_iff_eq.mpr c20; have c20n := bne_eq_false_iff_eq.mpr c20; try simp only [c20b, c20n, nrm]
          refine w_cond rfl (fun h => Bool.noConfusion h) (fun _ => ?_)
          refine w_skip ?_
          refine k_block ?_
          refine k_seq ?_
          refine wR fun K hK => ?_
          refine g_bin rfl rfl rfl rfl rfl (gT ?_)
          refine g_mv rfl rfl (gT ?_)
          refine g_nil (hK _ _ _ ?_)
          refine k_loop ?_
          refine w_wk (σ := [0, 1, 2, 3, 4, 5, 6]) [0, 1, 1, 6, 0, 0, 72, 0] rfl (by decide) ?_; refine gC ?_
          exact gI (ih2 i_2 p_11 all_13 t_86 (wrap64 (t_87 + 1)) h0_0 h0_1 h1 h2 h3 h4_1 h4_2 h5_0 h5_1 h5_2 h6 r H)
        · have c20b := beq_eq_false_iff_ne.mpr c20; have c20n := bne_iff_ne.mpr c20; try simp only [c20b, c20n, nrm]
          refine w_cond rfl (fun _ => ?_) (fun h => Bool.noConfusion h)
          refine w_seq ?_
          refine wR fun K hK => ?_
          refine g_lda rfl rfl ag26 sz26 rfl rfl (Nat.le_of_ble_eq_true rfl) (gT ?_)
          refine g_mv rfl rfl (gT ?_)
          refine g_mv rfl rfl (gT ?_)
          obtain ⟨q21, hq21, H⟩ := bnd H
          refine g_cs [] rfl rfl (by rfl) Tryd.func12 rfl (by decide) (mat_Matrix_At.does hq21) ⟨Nat.le_of_ble_eq_true rfl, Nat.le_of_ble_eq_true rfl⟩ ?_; refine gC ?_
          refine g_mv rfl rfl (gT ?_)
          obtain ⟨q22, hq22, H⟩ := bnd H
          refine g_cs [] rfl rfl (by rfl) Tryd.func33 rfl (by decide) (more_Scale.does hq22) ⟨Nat.le_of_ble_eq_true rfl, Nat.le_of_ble_eq_true rfl⟩ ?_; refine gC ?_
          refine g_mv rfl rfl (gT ?_)
          refine g_ext rfl rfl rfl (Nat.le_of_ble_eq_true rfl) (gT ?_)
          refine g_ext rfl rfl rfl (Nat.le_of_ble_eq_true rfl) (gT ?_)
          refine g_as rfl rfl (gT ?_)
          refine g_as rfl rfl (gT ?_)
          refine g_nil (hK _ _ _ ?_)
          refine k_seq ?_
          refine w_seq ?_
          refine wR fun K hK => ?_
          refine g_lda rfl rfl ag26 sz26 rfl rfl (Nat.le_of_ble_eq_true rfl) (gT ?_)
          refine g_mv rfl rfl (gT ?_)
          refine g_mv rfl rfl (gT ?_)
          obtain ⟨q23, hq23, H⟩ := bnd H
          refine g_cs [] rfl rfl (by rfl) Tryd.func12 rfl (by decide) (mat_Matrix_At.does hq23) ⟨Nat.le_of_ble_eq_true rfl, Nat.le_of_ble_eq_true rfl⟩ ?_; refine gC ?_
          refine g_mv rfl rfl (gT ?_)
          refine g_un rfl rfl rfl rfl (gT ?_)
          obtain ⟨q24, hq24, H⟩ := bnd H
          refine g_cs [] rfl rfl (by rfl) Tryd.func33 rfl (by decide) (more_Scale.does hq24) ⟨Nat.le_of_ble_eq_true rfl, Nat.le_of_ble_eq_true rfl⟩ ?_; refine gC ?_
          refine g_mv rfl rfl (gT ?_)
          refine g_ext rfl rfl rfl (Nat.le_of_ble_eq_true rfl) (gT ?_)
          refine g_ext rfl rfl rfl (Nat.le_of_ble_eq_true rfl) (gT ?_)
          refine g_as rfl rfl (gT ?_)
          refine g_as rfl rfl (gT ?_)
          refine g_nil (hK _ _ _ ?_)
          refine k_seq ?_
          refine w_seq ?_
          refine wR fun K hK => ?_
          refine g_lda rfl rfl ag26 sz26 rfl rfl (Nat.le_of_ble_eq_true rfl) (gT ?_)
          refine g_mv rfl rfl (gT ?_)
          refine g_mv rfl rfl (gT ?_)
          refine g_mv rfl rfl (gT ?_)
          obtain ⟨q25, hq25, H⟩ := bnd H
          have zq25_0 := mat_Matrix_Set.len hq25
          (try simp only [List.length_set, List.length_replicate, List.length_append, List.length_cons, List.length_nil, Nat.zero_add] at zq25_0)
          refine g_cs [6] rfl rfl (by rfl) Tryd.func22 rfl (by decide) (mat_Matrix_Set.does hq25) ⟨Nat.le_of_ble_eq_true rfl, Nat.le_of_ble_eq_true rfl⟩ ?_; simp only [nrm, nrmw, nrmc, nrme, nrmo, nrml, nrmb, nrmx, Nat.reduceEqDiff, Nat.reduceBEq, Nat.zero_add, Nat.add_zero, Nat.mul_one, List.length_cons, List.length_nil, List.length_map, List.length_set, List.length_replicate, List.drop_zero, List.drop_succ_cons, List.drop_nil, List.take_zero, List.take_succ_cons, List.take_nil, Nat.le_refl, if_true, if_false, Option.any_none, Option.any_some, List.contains_nil, Bool.not_false, Bool.or_true, Bool.true_or, Bool.or_false, Bool.false_or, Bool.and_true, Bool.true_and, Bool.and_self, reduceCtorEq, beq_self_eq_true, List.map_cons, List.map_nil, List.append_nil, List.nil_append, List.contains_cons, List.filter_cons, List.filter_nil, List.cons_append, Bool.false_eq_true, true_and, and_true, List.getElem_toArray, List.getElem_cons_zero, List.getElem_cons_succ, Nat.reduceAdd, Nat.reduceMul, Nat.reduceLT, Nat.reduceSub, Nat.reduceLeDiff, ← zq25_0]
          refine g_nil (hK _ _ _ ?_)
          refine k_seq ?_
          refine w_seq ?_
          refine wR fun K hK => ?_
          refine g_lda rfl rfl ag26 sz26 rfl rfl (Nat.le_of_ble_eq_true rfl) (gT ?_)
          refine g_mv rfl rfl (gT ?_)
          refine g_mv rfl rfl (gT ?_)
          refine g_mv rfl rfl (gT ?_)
          obtain ⟨q26, hq26, H⟩ := bnd H
          have zq26_0 := mat_Matrix_Set.len hq26
          (try simp only [List.length_set, List.length_replicate, List.length_append, List.length_cons, List.length_nil, Nat.zero_add] at zq26_0)
          refine g_cs [6] rfl rfl (by rfl) Tryd.func22 rfl (by decide) (mat_Matrix_Set.does hq26) ⟨Nat.le_of_ble_eq_true rfl, Nat.le_of_ble_eq_true rfl⟩ ?_; simp only [nrm, nrmw, nrmc, nrme, nrmo, nrml, nrmb, nrmx, Nat.reduceEqDiff, Nat.reduceBEq, Nat.zero_add, Nat.add_zero, Nat.mul_one, List.length_cons, List.length_nil, List.length_map, List.length_set, List.length_replicate, List.drop_zero, List.drop_succ_cons, List.drop_nil, List.take_zero, List.take_succ_cons, List.take_nil, Nat.le_refl, if_true, if_false, Option.any_none, Option.any_some, List.contains_nil, Bool.not_false, Bool.or_true, Bool.true_or, Bool.or_false, Bool.false_or, Bool.and_true, Bool.true_and, Bool.and_self, reduceCtorEq, beq_self_eq_true, List.map_cons, List.map_nil, List.append_nil, List.nil_append, List.contains_cons, List.filter_cons, List.filter_nil, List.cons_append, Bool.false_eq_true, true_and, and_true, List.getElem_toArray, List.getElem_cons_zero, List.getElem_cons_succ, Nat.reduceAdd, Nat.reduceMul, Nat.reduceLT, Nat.reduceSub, Nat.reduceLeDiff, ← zq26_0]
          refine g_nil (hK _ _ _ ?_)
          refine k_seq ?_
          refine wR fun K hK => ?_
          refine g_mv rfl rfl (gT ?_)
          refine g_mv rfl rfl (gT ?_)
          refine g_mv rfl rfl (gT ?_)
          refine g_bin rfl rfl rfl rfl rfl (gT ?_)
          refine g_bin rfl rfl rfl rfl rfl (gT ?_)
          refine g_as rfl rfl (gT ?_)
          refine g_nil (hK _ _ _ ?_)
          refine k_block ?_
          refine k_seq ?_
          refine wR fun K hK => ?_
          refine g_bin rfl rfl rfl rfl rfl (gT ?_)
          refine g_mv rfl rfl (gT ?_)
          refine g_nil (hK _ _ _ ?_)
          refine k_loop ?_
          refine w_wk (σ := [0, 1, 2, 3, 4, 5, 6]) [0, 1, 1, 6, 0, 0, 72, 0] rfl (by decide) ?_; refine gC ?_
          exact gI (ih2 i_2 p_11 (Go.bits .or .u8 all_13 (Go.bits .or .u8 q22.2 q24.2)) t_86 (wrap64 (t_87 + 1)) h0_0 h0_1 h1 h2 h3 h4_1 h4_2 h5_0 h5_1 h5_2 q26 r H)
      · have c19b := decide_eq_false c19; try simp only [c19b, nrm]
        refine w_cond rfl (fun h => Bool.noConfusion h) (fun _ => ?_)
        refine w_exit rfl ?_
        refine k_seq ?_
        refine w_seq ?_
        refine w_seq ?_
        refine wR fun K hK => ?_
        refine g_mv rfl rfl (gT ?_)
        refine g_bin rfl rfl rfl rfl rfl (gT ?_)
        refine g_nil (hK _ _ _ ?_)
        refine k_seq ?_
        rcases its H with ⟨c27, H⟩ | ⟨c27, H⟩
        · have c27b := beq_iff_eq.mpr c27; have c27n := bne_eq_false_iff_eq.mpr c27; try simp only [c27b, c27n, nrm]
          refine w_cond rfl (fun h => Bool.noConfusion h) (fun _ => ?_)
          refine w_skip ?_
          refine k_seq ?_
          refine w_seq ?_
          refine wR fun K hK => ?_
          refine g_fd rfl rfl fa26_3 rfl (gT ?_)
          refine g_ldc rfl rfl ag22 sz22 rfl rfl rfl (gT ?_)
          refine g_fd rfl rfl fa26_3 rfl (gT ?_)
          refine g_ldc rfl rfl ag22 sz22 rfl rfl rfl (gT ?_)
          refine g_cp rfl rfl Tryd.underlying22 sz23 rfl rfl rfl rfl rfl rfl (gU ?_)
          refine g_nil (hK _ _ _ ?_)
          refine k_seq ?_
          refine w_seq ?_
          refine wR fun K hK => ?_
          refine g_mv rfl rfl (gT ?_)
          refine g_nc rfl rfl rfl (gT ?_)
          refine g_fd rfl rfl fa31_1 rfl (gT ?_)
          refine g_ldc rfl rfl ag29 sz29 rfl rfl rfl (gT ?_)
          refine g_mv rfl rfl (gT ?_)
          obtain ⟨c28, H⟩ := it1 H
          obtain ⟨c29, H⟩ := it1 H
          refine g_ixo rfl rfl Tryd.underlying29 sz3 rfl rfl (by first | assumption | omega) (by first | assumption | omega | (simp only [List.length_set, List.length_replicate] at *; omega)) (gT ?_)
          refine g_ldo rfl rfl ag3 sz3 rfl rfl (by first | assumption | omega | (simp only [List.length_set, List.length_replicate] at *; omega)) (gT ?_)
          refine g_mv rfl rfl (gT ?_)
          refine g_bin rfl rfl rfl rfl rfl (gT ?_)
          refine g_ixo rfl rfl Tryd.underlying29 sz3 rfl rfl (by first | assumption | omega) (by first | assumption | omega | (simp only [List.length_set, List.length_replicate] at *; omega)) (gT ?_)
          refine g_st rfl rfl sz3 rfl rfl rfl (by rfl) (by simp only [List.length_map, List.length_set, List.length_replicate]; first | assumption | omega) (gU ?_)
          refine g_nil (hK _ _ _ ?_)
          refine k_seq ?_
          refine w_seq ?_
          refine wR fun K hK => ?_
          refine g_as rfl rfl (gT ?_)
          refine g_nil (hK _ _ _ ?_)
          refine k_seq ?_
          refine w_ret ?_
          refine fin_wp (τ := [0, 1, 2, 3]) rfl (by decide) ?_; rw [← Option.some.inj H]; simp only [Tryd.f27]; exact gF
        · have c27b := beq_eq_false_iff_ne.mpr c27; have c27n := bne_iff_ne.mpr c27; try simp only [c27b, c27n, nrm]
          refine w_cond rfl (fun _ => ?_) (fun h => Bool.noConfusion h)
          refine w_seq ?_
          refine wR fun K hK => ?_
          refine g_as rfl rfl (gT ?_)
          refine g_nil (hK _ _ _ ?_)
          refine k_seq ?_
          refine w_ret ?_
          refine fin_wp (τ := [0, 1, 2, 3]) rfl (by decide) ?_; rw [← Option.some.inj H]; simp only [Tryd.f27]; exact gF
set_option maxHeartbeats 8000000 in
set_option maxRecDepth 100000 in
theorem bal_Balance_level.does {k : Nat} {l0_0 : List Int} {l0_1 : List Int} {s0_2 : Int} {s0_3 : Int} {a1_0 : Int} {a1_1 : Int} {a1_2 : Int} {l1_3 : List Int} {a2 : Int} {r : Bool × Int × Int × (List Int) × (List Int) × (List Int)} (H : bal_Balance_level.f k l0_0 l0_1 s0_2 s0_3 a1_0 a1_1 a1_2 l1_3 a2 = some r) : Do E0 (.fn 27 [.p (some (0, 0)), .a [.i .i64 a1_0, .i .i64 a1_1, .i .i64 a1_2, .s (some (1, 0)) l1_3.length], .i .i64 a2] [.row [.s (some (2, 0)) l0_0.length, .s (some (3, 0)) l0_1.length, .i .i64 s0_2, .i .i64 s0_3] 0 0 true false none, .row (l1_3.map (V.i .u64)) 2 1 true false none, .row (l0_0.map (V.i .i64)) 2 1 true false none, .row (l0_1.map (V.i .i64)) 2 1 true false none] (.b r.1) [.row [.s (some (2, 0)) r.2.2.2.2.1.length, .s (some (3, 0)) r.2.2.2.2.2.length, .i .i64 r.2.1, .i .i64 r.2.2.1] 0 0 true false none, .row (r.2.2.2.1.map (V.i .u64)) 2 1 true false none, .row (r.2.2.2.2.1.map (V.i .i64)) 2 1 true false none, .row (r.2.2.2.2.2.map (V.i .i64)) 2 1 true false none]) := by
  obtain ⟨ih0, ih1, ih2⟩ := bal_Balance_level.does_l (l0_0 := l0_0) (l0_1 := l0_1) (s0_2 := s0_2) (s0_3 := s0_3) (a1_0 := a1_0) (a1_1 := a1_1) (a1_2 := a1_2) (l1_3 := l1_3) (a2 := a2) k
  refine fn_wpl Tryd.func27 rfl (Q := (bal_Balance_level.Q l0_0 l0_1 s0_2 s0_3 a1_0 a1_1 a1_2 l1_3 a2 r)) (fun s h => h) ?_
  unfold bal_Balance_level.f at H
  simp only [Tryd.ntmps27, List.length, List.replicate, Nat.reduceAdd, Nat.reduceSub, List.cons_append, List.nil_append]
  refine w_seq ?_
  refine wR fun K hK => ?_
  refine g_box rfl rfl rfl (by rfl) (gU ?_)
  refine g_as rfl rfl (gT ?_)
  refine g_nil (hK _ _ _ ?_)
  refine k_seq ?_
  refine w_seq ?_
  refine wR fun K hK => ?_
  refine g_alloc rfl rfl zr75 (gU ?_)
  refine g_nil (hK _ _ _ ?_)
  refine k_seq ?_
  refine w_seq ?_
  refine wR fun K hK => ?_
  refine g_as rfl rfl (gT ?_)
  refine g_as rfl rfl (gT ?_)
  refine g_nil (hK _ _ _ ?_)
  refine k_seq ?_
  refine w_seq ?_
  refine w_seq ?_
  refine wR fun K hK => ?_
  refine g_mv rfl rfl (gT ?_)
  refine g_nc rfl rfl rfl (gT ?_)
  refine g_fd rfl rfl fa31_2 rfl (gT ?_)
  refine g_ldc rfl rfl ag3 sz3 rfl rfl rfl (gT ?_)
  refine g_as rfl rfl (gT ?_)
  refine g_nil (hK _ _ _ ?_)
  refine k_seq ?_
  refine w_block ?_
  refine w_wk (σ := [0, 1, 2, 3, 4, 12]) [0, 1, 1, 2, 0, 0, 0] rfl (by decide) ?_; refine gC ?_
  exact gI (ih0 a2 0 0 s0_2 s0_2 s0_3 l1_3 l0_0 l0_1 a1_0 a1_1 a1_2 0 r H)

set_option maxHeartbeats 8000000 in
set_option maxRecDepth 100000 in
theorem bal_Of.does_l {a0_0 : Int} {a0_1 : Int} {a0_2 : Int} {l0_3 : List Int} (k : Nat) : (∀ (t_23 : Bool) (h0_0 : Int) (h0_1 : Int) (h0_2 : Int) (h0_3 : List Int) (h1_0 : Int) (r : Int × Int × Int × (List Int) × (List Int) × (List Int) × Int × Int × Int), bal_Of.j0 k t_23 h0_0 h0_1 h0_2 h0_3 = some r → kont E0 (bal_Of.Q a0_0 a0_1 a0_2 l0_3 r) (frs (bodyOf Tryd.f8) [1, 0, 0, 0] []) .normal ⟨[.u, .p (some (0, 0)), .p (some (1, 0)), .p (some (2, 0)), .u, .u, .u, .u, .u, .u, .u, .u, .u, .u, .u, .u, .u, .u, .u, .u, .u, .u, .u, .b t_23, .u, .u, .u, .u, .u, .u, .u, .u, .u, .u, .u, .u, .u, .u, .u, .u, .u, .u, .u, .u, .u, .u, .u, .u, .u, .u, .u, .u, .u, .u, .u, .u, .u, .u, .u, .u, .u, .u, .u, .u, .u, .u, .u, .u, .u, .u, .u, .u, .u, .u, .u, .u, .u, .u, .u, .u, .u, .u, .u, .u, .u, .u, .u, .u, .u, .u, .u, .u, .u, .u, .u, .u, .u, .u, .u, .u, .u, .u, .u, .u, .u, .u, .u, .u, .u, .u, .u, .u, .u, .u, .u, .u, .u, .u, .u], ofL [.row [.i .i64 h0_0, .i .i64 h0_1, .i .i64 h0_2, .r (h0_3.map (V.i .u64)) h0_3.length true] 0 0 true true none, .row [.i .i64 h1_0, .i .i64 h1_0, .i .i64 h1_0, .s none 0] 0 0 true true none, .row [.s none 0, .s none 0, .i .i64 h1_0, .i .i64 h1_0] 0 0 true true none], 3, 0⟩) ∧
    (∀ (t_41 : Int) (t_42 : Int) (h0_0 : Int) (h2_0 : Int) (h2_1 : Int) (h2_2 : Int) (h3_0 : Int) (h4 : List Int) (h5 : List Int) (h6 : List Int) (r : Int × Int × Int × (List Int) × (List Int) × (List Int) × Int × Int × Int), bal_Of.l0 k t_41 t_42 h2_0 h2_1 h2_2 h3_0 h4 h5 h6 = some r → wk_ E0 (bal_Of.Q a0_0 a0_1 a0_2 l0_3 r) (frs (bodyOf Tryd.f8) [1, 0, 1, 1, 1, 1, 1, 0, 1, 0] []) (sub (bodyOf Tryd.f8) [1, 0, 1, 1, 1, 1, 1, 0, 1, 0]) ⟨[.u, .u, .p (some (0, 0)), .p (some (1, 0)), .u, .u, .p (some (2, 0)), .p (some (3, 0)), .u, .u, .u, .u, .u, .u, .u, .u, .u, .u, .u, .u, .u, .u, .u, .u, .u, .u, .u, .u, .u, .u, .u, .u, .u, .u, .u, .u, .u, .u, .u, .u, .u, .i .i64 t_41, .i .i64 t_42, .u, .u, .u, .u, .u, .u, .u, .u, .u, .u, .u, .u, .u, .u, .u, .u, .u, .u, .u, .u, .u, .u, .u, .u, .u, .u, .u, .u, .u, .u, .u, .u, .u, .u, .u, .u, .u, .u, .u, .u, .u, .u, .u, .u, .u, .u, .u, .u, .u, .u, .u, .u, .u, .u, .u, .u, .u, .u, .u, .u, .u, .u, .u, .u, .u, .u, .u, .u, .u, .u, .u, .u, .u, .u, .u, .u], ofL [.row [.i .i64 h0_0, .i .i64 h0_0, .i .i64 h0_0, .s none 0] 0 0 true true none, .row [.s none 0, .s none 0, .i .i64 h0_0, .i .i64 h0_0] 0 0 true true none, .row [.i .i64 h2_0, .i .i64 h2_1, .i .i64 h2_2, .s (some (4, 0)) h4.length] 0 0 true true none, .row [.s (some (5, 0)) h5.length, .s (some (6, 0)) h6.length, .i .i64 h3_0, .i .i64 t_41] 0 0 true true none, .row (h4.map (V.i .u64)) 2 1 true true none, .row (h5.map (V.i .i64)) 2 1 true true none, .row (h6.map (V.i .i64)) 2 1 true true none], 7, 0⟩) ∧
    (∀ (h0_0 : Int) (h2_0 : Int) (h2_1 : Int) (h2_2 : Int) (h3_0 : Int) (h3_1 : Int) (h4 : List Int) (h5 : List Int) (h6 : List Int) (r : Int × Int × Int × (List Int) × (List Int) × (List Int) × Int × Int × Int), bal_Of.l1 k h2_0 h2_1 h2_2 h3_0 h3_1 h4 h5 h6 = some r → wk_ E0 (bal_Of.Q a0_0 a0_1 a0_2 l0_3 r) (frs (bodyOf Tryd.f8) [1, 0, 1, 1, 1, 1, 1, 1, 1, 0, 0] []) (sub (bodyOf Tryd.f8) [1, 0, 1, 1, 1, 1, 1, 1, 1, 0, 0]) ⟨[.u, .u, .p (some (0, 0)), .p (some (1, 0)), .u, .u, .p (some (2, 0)), .p (some (3, 0)), .u, .u, .u, .u, .u, .u, .u, .u, .u, .u, .u, .u, .u, .u, .u, .u, .u, .u, .u, .u, .u, .u, .u, .u, .u, .u, .u, .u, .u, .u, .u, .u, .u, .u, .u, .u, .u, .u, .u, .u, .u, .u, .u, .u, .u, .u, .u, .u, .u, .u, .u, .u, .u, .u, .u, .u, .u, .u, .u, .u, .u, .u, .u, .u, .u, .u, .u, .u, .u, .u, .u, .u, .u, .u, .u, .u, .u, .u, .u, .u, .u, .u, .u, .u, .u, .u, .u, .u, .u, .u, .u, .u, .u, .u, .u, .u, .u, .u, .u, .u, .u, .u, .u, .u, .u, .u, .u, .u, .u, .u, .u], ofL [.row [.i .i64 h0_0, .i .i64 h0_0, .i .i64 h0_0, .s none 0] 0 0 true true none, .row [.s none 0, .s none 0, .i .i64 h0_0, .i .i64 h0_0] 0 0 true true none, .row [.i .i64 h2_0, .i .i64 h2_1, .i .i64 h2_2, .s (some (4, 0)) h4.length] 0 0 true true none, .row [.s (some (5, 0)) h5.length, .s (some (6, 0)) h6.length, .i .i64 h3_0, .i .i64 h3_1] 0 0 true true none, .row (h4.map (V.i .u64)) 2 1 true true none, .row (h5.map (V.i .i64)) 2 1 true true none, .row (h6.map (V.i .i64)) 2 1 true true none], 7, 0⟩) ∧
    (∀ (i_9 : Int) (h0_0 : Int) (h2_0 : Int) (h2_1 : Int) (h2_2 : Int) (h3_0 : Int) (h3_1 : Int) (h4 : List Int) (h5 : List Int) (h6 : List Int) (r : Int × Int × Int × (List Int) × (List Int) × (List Int) × Int × Int × Int), bal_Of.l2 k i_9 h2_0 h2_1 h2_2 h3_0 h3_1 h4 h5 h6 = some r → wk_ E0 (bal_Of.Q a0_0 a0_1 a0_2 l0_3 r) (frs (bodyOf Tryd.f8) [1, 0, 1, 1, 1, 1, 1, 1, 1, 0, 0, 0, 0, 0, 1, 0] []) (sub (bodyOf Tryd.f8) [1, 0, 1, 1, 1, 1, 1, 1, 1, 0, 0, 0, 0, 0, 1, 0]) ⟨[.u, .u, .p (some (0, 0)), .p (some (1, 0)), .u, .u, .p (some (2, 0)), .p (some (3, 0)), .u, .i .i64 i_9, .u, .u, .u, .u, .u, .u, .u, .u, .u, .u, .u, .u, .u, .u, .u, .u, .u, .u, .u, .u, .u, .u, .u, .u, .u, .u, .u, .u, .u, .u, .u, .u, .u, .u, .u, .u, .u, .u, .u, .u, .u, .u, .u, .u, .u, .u, .u, .u, .u, .u, .u, .u, .u, .u, .u, .u, .u, .u, .u, .u, .u, .u, .u, .u, .u, .u, .u, .u, .u, .u, .u, .u, .u, .u, .u, .u, .u, .u, .u, .u, .u, .u, .u, .u, .u, .u, .u, .u, .u, .u, .u, .u, .u, .u, .u, .u, .u, .u, .u, .u, .u, .u, .u, .u, .u, .u, .u, .u, .u], ofL [.row [.i .i64 h0_0, .i .i64 h0_0, .i .i64 h0_0, .s none 0] 0 0 true true none, .row [.s none 0, .s none 0, .i .i64 h0_0, .i .i64 h0_0] 0 0 true true none, .row [.i .i64 h2_0, .i .i64 h2_1, .i .i64 h2_2, .s (some (4, 0)) h4.length] 0 0 true true none, .row [.s (some (5, 0)) h5.length, .s (some (6, 0)) h6.length, .i .i64 h3_0, .i .i64 h3_1] 0 0 true true none, .row (h4.map (V.i .u64)) 2 1 true true none, .row (h5.map (V.i .i64)) 2 1 true true none, .row (h6.map (V.i .i64)) 2 1 true true none], 7, 0⟩) ∧
    (∀ (h0_0 : Int) (h2_0 : Int) (h2_1 : Int) (h2_2 : Int) (h3_0 : Int) (h3_1 : Int) (h4 : List Int) (h5 : List Int) (h6 : List Int) (r : Int × Int × Int × (List Int) × (List Int) × (List Int) × Int × Int × Int), bal_Of.l3 k h2_0 h2_1 h2_2 h3_0 h3_1 h4 h5 h6 = some r → wk_ E0 (bal_Of.Q a0_0 a0_1 a0_2 l0_3 r) (frs (bodyOf Tryd.f8) [1, 0, 1, 1, 1, 1, 1, 1, 1, 1, 1, 0, 0] []) (sub (bodyOf Tryd.f8) [1, 0, 1, 1, 1, 1, 1, 1, 1, 1, 1, 0, 0]) ⟨[.u, .u, .p (some (0, 0)), .p (some (1, 0)), .u, .u, .p (some (2, 0)), .p (some (3, 0)), .u, .u, .u, .u, .u, .u, .u, .u, .u, .u, .u, .u, .u, .u, .u, .u, .u, .u, .u, .u, .u, .u, .u, .u, .u, .u, .u, .u, .u, .u, .u, .u, .u, .u, .u, .u, .u, .u, .u, .u, .u, .u, .u, .u, .u, .u, .u, .u, .u, .u, .u, .u, .u, .u, .u, .u, .u, .u, .u, .u, .u, .u, .u, .u, .u, .u, .u, .u, .u, .u, .u, .u, .u, .u, .u, .u, .u, .u, .u, .u, .u, .u, .u, .u, .u, .u, .u, .u, .u, .u, .u, .u, .u, .u, .u, .u, .u, .u, .u, .u, .u, .u, .u, .u, .u, .u, .u, .u, .u, .u, .u], ofL [.row [.i .i64 h0_0, .i .i64 h0_0, .i .i64 h0_0, .s none 0] 0 0 true true none, .row [.s none 0, .s none 0, .i .i64 h0_0, .i .i64 h0_0] 0 0 true true none, .row [.i .i64 h2_0, .i .i64 h2_1, .i .i64 h2_2, .s (some (4, 0)) h4.length] 0 0 true true none, .row [.s (some (5, 0)) h5.length, .s (some (6, 0)) h6.length, .i .i64 h3_0, .i .i64 h3_1] 0 0 true true none, .row (h4.map (V.i .u64)) 2 1 true true none, .row (h5.map (V.i .i64)) 2 1 true true none, .row (h6.map (V.i .i64)) 2 1 true true none], 7, 0⟩) ∧
    (∀ (i_10 : Int) (h0_0 : Int) (h2_0 : Int) (h2_1 : Int) (h2_2 : Int) (h3_0 : Int) (h3_1 : Int) (h4 : List Int) (h5 : List Int) (h6 : List Int) (r : Int × Int × Int × (List Int) × (List Int) × (List Int) × Int × Int × Int), bal_Of.l4 k i_10 h2_0 h2_1 h2_2 h3_0 h3_1 h4 h5 h6 = some r → wk_ E0 (bal_Of.Q a0_0 a0_1 a0_2 l0_3 r) (frs (bodyOf Tryd.f8) [1, 0, 1, 1, 1, 1, 1, 1, 1, 1, 1, 0, 0, 0, 0, 0, 1, 0] []) (sub (bodyOf Tryd.f8) [1, 0, 1, 1, 1, 1, 1, 1, 1, 1, 1, 0, 0, 0, 0, 0, 1, 0]) ⟨[.u, .u, .p (some (0, 0)), .p (some (1, 0)), .u, .u, .p (some (2, 0)), .p (some (3, 0)), .u, .u, .i .i64 i_10, .u, .u, .u, .u, .u, .u, .u, .u, .u, .u, .u, .u, .u, .u, .u, .u, .u, .u, .u, .u, .u, .u, .u, .u, .u, .u, .u, .u, .u, .u, .u, .u, .u, .u, .u, .u, .u, .u, .u, .u, .u, .u, .u, .u, .u, .u, .u, .u, .u, .u, .u, .u, .u, .u, .u, .u, .u, .u, .u, .u, .u, .u, .u, .u, .u, .u, .u, .u, .u, .u, .u, .u, .u, .u, .u, .u, .u, .u, .u, .u, .u, .u, .u, .u, .u, .u, .u, .u, .u, .u, .u, .u, .u, .u, .u, .u, .u, .u, .u, .u, .u, .u, .u, .u, .u, .u, .u, .u], ofL [.row [.i .i64 h0_0, .i .i64 h0_0, .i .i64 h0_0, .s none 0] 0 0 true true none, .row [.s none 0, .s none 0, .i .i64 h0_0, .i .i64 h0_0] 0 0 true true none, .row [.i .i64 h2_0, .i .i64 h2_1, .i .i64 h2_2, .s (some (4, 0)) h4.length] 0 0 true true none, .row [.s (some (5, 0)) h5.length, .s (some (6, 0)) h6.length, .i .i64 h3_0, .i .i64 h3_1] 0 0 true true none, .row (h4.map (V.i .u64)) 2 1 true true none, .row (h5.map (V.i .i64)) 2 1 true true none, .row (h6.map (V.i .i64)) 2 1 true true none], 7, 0⟩) ∧
    (∀ (again_11 : Bool) (round_12 : Int) (h0_0 : Int) (h2_0 : Int) (h2_1 : Int) (h2_2 : Int) (h3_0 : Int) (h3_1 : Int) (h4 : List Int) (h5 : List Int) (h6 : List Int) (r : Int × Int × Int × (List Int) × (List Int) × (List Int) × Int × Int × Int), bal_Of.l5 k again_11 round_12 h2_0 h2_1 h2_2 h3_0 h3_1 h4 h5 h6 = some r → wk_ E0 (bal_Of.Q a0_0 a0_1 a0_2 l0_3 r) (frs (bodyOf Tryd.f8) [1, 0, 1, 1, 1, 1, 1, 1, 1, 1, 1, 1, 0, 1, 0] []) (sub (bodyOf Tryd.f8) [1, 0, 1, 1, 1, 1, 1, 1, 1, 1, 1, 1, 0, 1, 0]) ⟨[.u, .u, .p (some (0, 0)), .p (some (1, 0)), .u, .u, .p (some (2, 0)), .p (some (3, 0)), .u, .u, .u, .b again_11, .i .i64 round_12, .u, .u, .u, .u, .u, .u, .u, .u, .u, .u, .u, .u, .u, .u, .u, .u, .u, .u, .u, .u, .u, .u, .u, .u, .u, .u, .u, .u, .u, .u, .u, .u, .u, .u, .u, .u, .u, .u, .u, .u, .u, .u, .u, .u, .u, .u, .u, .u, .u, .u, .u, .u, .u, .u, .u, .u, .u, .u, .u, .u, .u, .u, .u, .u, .u, .u, .u, .u, .u, .u, .u, .u, .u, .u, .u, .u, .u, .u, .u, .u, .u, .u, .u, .u, .u, .u, .u, .u, .u, .u, .u, .u, .u, .u, .u, .u, .u, .u, .u, .u, .u, .u, .u, .u, .u, .u], ofL [.row [.i .i64 h0_0, .i .i64 h0_0, .i .i64 h0_0, .s none 0] 0 0 true true none, .row [.s none 0, .s none 0, .i .i64 h0_0, .i .i64 h0_0] 0 0 true true none, .row [.i .i64 h2_0, .i .i64 h2_1, .i .i64 h2_2, .s (some (4, 0)) h4.length] 0 0 true true none, .row [.s (some (5, 0)) h5.length, .s (some (6, 0)) h6.length, .i .i64 h3_0, .i .i64 h3_1] 0 0 true true none, .row (h4.map (V.i .u64)) 2 1 true true none, .row (h5.map (V.i .i64)) 2 1 true true none, .row (h6.map (V.i .i64)) 2 1 true true none], 7, 0⟩) ∧
    (∀ (round_12 : Int) (t_100 : Bool) (h0_0 : Int) (h2_0 : Int) (h2_1 : Int) (h2_2 : Int) (h3_0 : Int) (h3_1 : Int) (h4 : List Int) (h5 : List Int) (h6 : List Int) (r : Int × Int × Int × (List Int) × (List Int) × (List Int) × Int × Int × Int), bal_Of.j7 k round_12 t_100 h2_0 h2_1 h2_2 h3_0 h3_1 h4 h5 h6 = some r → kont E0 (bal_Of.Q a0_0 a0_1 a0_2 l0_3 r) (frs (bodyOf Tryd.f8) [1, 0, 1, 1, 1, 1, 1, 1, 1, 1, 1, 1, 0, 1, 0, 0, 0, 0] []) .normal ⟨[.u, .u, .p (some (0, 0)), .p (some (1, 0)), .u, .u, .p (some (2, 0)), .p (some (3, 0)), .u, .u, .u, .u, .i .i64 round_12, .u, .u, .u, .u, .u, .u, .u, .u, .u, .u, .u, .u, .u, .u, .u, .u, .u, .u, .u, .u, .u, .u, .u, .u, .u, .u, .u, .u, .u, .u, .u, .u, .u, .u, .u, .u, .u, .u, .u, .u, .u, .u, .u, .u, .u, .u, .u, .u, .u, .u, .u, .u, .u, .u, .u, .u, .u, .u, .u, .u, .u, .u, .u, .u, .u, .u, .u, .u, .u, .u, .u, .u, .u, .u, .u, .u, .u, .u, .u, .u, .u, .u, .u, .u, .u, .u, .u, .b t_100, .u, .u, .u, .u, .u, .u, .u, .u, .u, .u, .u, .u, .u, .u, .u, .u, .u, .u], ofL [.row [.i .i64 h0_0, .i .i64 h0_0, .i .i64 h0_0, .s none 0] 0 0 true true none, .row [.s none 0, .s none 0, .i .i64 h0_0, .i .i64 h0_0] 0 0 true true none, .row [.i .i64 h2_0, .i .i64 h2_1, .i .i64 h2_2, .s (some (4, 0)) h4.length] 0 0 true true none, .row [.s (some (5, 0)) h5.length, .s (some (6, 0)) h6.length, .i .i64 h3_0, .i .i64 h3_1] 0 0 true true none, .row (h4.map (V.i .u64)) 2 1 true true none, .row (h5.map (V.i .i64)) 2 1 true true none, .row (h6.map (V.i .i64)) 2 1 true true none], 7, 0⟩) ∧
    (∀ (again_11 : Bool) (round_12 : Int) (i_13 : Int) (h0_0 : Int) (h2_0 : Int) (h2_1 : Int) (h2_2 : Int) (h3_0 : Int) (h3_1 : Int) (h4 : List Int) (h5 : List Int) (h6 : List Int) (r : Int × Int × Int × (List Int) × (List Int) × (List Int) × Int × Int × Int), bal_Of.l6 k again_11 round_12 i_13 h2_0 h2_1 h2_2 h3_0 h3_1 h4 h5 h6 = some r → wk_ E0 (bal_Of.Q a0_0 a0_1 a0_2 l0_3 r) (frs (bodyOf Tryd.f8) [1, 0, 1, 1, 1, 1, 1, 1, 1, 1, 1, 1, 0, 1, 0, 0, 1, 0, 0, 1, 1, 0] []) (sub (bodyOf Tryd.f8) [1, 0, 1, 1, 1, 1, 1, 1, 1, 1, 1, 1, 0, 1, 0, 0, 1, 0, 0, 1, 1, 0]) ⟨[.u, .u, .p (some (0, 0)), .p (some (1, 0)), .u, .u, .p (some (2, 0)), .p (some (3, 0)), .u, .u, .u, .b again_11, .i .i64 round_12, .i .i64 i_13, .u, .u, .u, .u, .u, .u, .u, .u, .u, .u, .u, .u, .u, .u, .u, .u, .u, .u, .u, .u, .u, .u, .u, .u, .u, .u, .u, .u, .u, .u, .u, .u, .u, .u, .u, .u, .u, .u, .u, .u, .u, .u, .u, .u, .u, .u, .u, .u, .u, .u, .u, .u, .u, .u, .u, .u, .u, .u, .u, .u, .u, .u, .u, .u, .u, .u, .u, .u, .u, .u, .u, .u, .u, .u, .u, .u, .u, .u, .u, .u, .u, .u, .u, .u, .u, .u, .u, .u, .u, .u, .u, .u, .u, .u, .u, .u, .u, .u, .u, .u, .u, .u, .u, .u, .u], ofL [.row [.i .i64 h0_0, .i .i64 h0_0, .i .i64 h0_0, .s none 0] 0 0 true true none, .row [.s none 0, .s none 0, .i .i64 h0_0, .i .i64 h0_0] 0 0 true true none, .row [.i .i64 h2_0, .i .i64 h2_1, .i .i64 h2_2, .s (some (4, 0)) h4.length] 0 0 true true none, .row [.s (some (5, 0)) h5.length, .s (some (6, 0)) h6.length, .i .i64 h3_0, .i .i64 h3_1] 0 0 true true none, .row (h4.map (V.i .u64)) 2 1 true true none, .row (h5.map (V.i .i64)) 2 1 true true none, .row (h6.map (V.i .i64)) 2 1 true true none], 7, 0⟩) := by
  induction k with
  | zero => exact ⟨fun _ _ _ _ _ _ r h => by simp [bal_Of.j0] at h, fun _ _ _ _ _ _ _ _ _ _ r h => by simp [bal_Of.l0] at h, fun _ _ _ _ _ _ _ _ _ r h => by simp [bal_Of.l1] at h, fun _ _ _ _ _ _ _ _ _ _ r h => by simp [bal_Of.l2] at h, fun _ _ _ _ _ _ _ _ _ r h => by simp [bal_Of.l3] at h, fun _ _ _ _ _ _ _ _ _ _ r h => by simp [bal_Of.l4] at h, fun _ _ _ _ _ _ _ _ _ _ _ r h => by simp [bal_Of.l5] at h, fun _ _ _ _ _ _ _ _ _ _ _ r h => by simp [bal_Of.j7] at h, fun _ _ _ _ _ _ _ _ _ _ _ _ r h => by simp [bal_Of.l6] at h⟩
  | succ k ih =>
    obtain ⟨ih0, ih1, ih2, ih3, ih4, ih5, ih6, ih7, ih8⟩ := ih
    refine ⟨?_, ?_, ?_, ?_, ?_, ?_, ?_, ?_, ?_⟩
    · intro t_23 h0_0 h0_1 h0_2 h0_3 h1_0 r H
      unfold bal_Of.j0 at H
      simp only [bodyOf, Tryd.f8, frs, sub, if_true, if_false, Nat.one_ne_zero]
      refine k_seq ?_
      rcases its H with ⟨c3, H⟩ | ⟨c3, H⟩
      · have c3b : t_23 = true := c3; try simp only [c3b, nrm]
        refine w_cond rfl (fun _ => ?_) (fun h => Bool.noConfusion h)
        refine w_seq ?_
        refine wR fun K hK => ?_
        refine g_bd rfl rfl zr26 Tryd.underlying26 (pl := [(0, 1), (1, 1), (2, 1), (3, 1)]) (by kernel_rfl) ?_; refine gB ?_
        refine g_bd rfl rfl zr31 Tryd.underlying31 (pl := [(0, 1), (1, 1), (2, 1), (3, 1)]) (by kernel_rfl) ?_; refine gB ?_
        refine g_st rfl rfl sz26 rfl rfl rfl (by rfl) (Nat.le_of_ble_eq_true rfl) (gU ?_)
        refine g_st rfl rfl sz31 rfl rfl rfl (by rfl) (Nat.le_of_ble_eq_true rfl) (gU ?_)
        refine g_as rfl rfl (gT ?_)
        refine g_nil (hK _ _ _ ?_)
        refine k_seq ?_
        refine w_less (.cell 1 3 2 1 rfl rfl) ?_; simp only [nrmx, nrm, List.set_cons_zero, List.set_cons_succ, Nat.reduceAdd]
        refine w_less (.cell 2 0 2 1 rfl rfl) ?_; simp only [nrmx, nrm, List.set_cons_zero, List.set_cons_succ, Nat.reduceAdd]
        refine w_less (.cell 2 1 2 1 rfl rfl) ?_; simp only [nrmx, nrm, List.set_cons_zero, List.set_cons_succ, Nat.reduceAdd]
        refine w_ret ?_
        refine fin_wp (τ := [23, 24, 25]) rfl (by decide) ?_; rw [← Option.some.inj H]; simp only [Tryd.f8, ag26, sz26, ag31, sz31, nrm, nrmw, nrmc, nrme, nrmo, nrml, nrmb, nrmx, Nat.reduceEqDiff, Nat.reduceBEq, Nat.zero_add, Nat.add_zero, Nat.mul_one, List.length_cons, List.length_nil, List.length_map, List.length_set, List.length_replicate, List.drop_zero, List.drop_succ_cons, List.drop_nil, List.take_zero, List.take_succ_cons, List.take_nil, Nat.le_refl, if_true, if_false, Option.any_none, Option.any_some, List.contains_nil, Bool.not_false, Bool.or_true, Bool.true_or, Bool.or_false, Bool.false_or, Bool.and_true, Bool.true_and, Bool.and_self, reduceCtorEq, beq_self_eq_true, List.map_cons, List.map_nil, List.append_nil, List.nil_append, List.contains_cons, List.filter_cons, List.filter_nil, List.cons_append, Bool.false_eq_true, true_and, and_true, List.getElem_toArray, List.getElem_cons_zero, List.getElem_cons_succ, Nat.reduceAdd, Nat.reduceMul, Nat.reduceLT, Nat.reduceSub, Nat.reduceLeDiff]; try (first | rfl | exact ⟨rfl, trivial⟩ | exact ⟨rfl, rfl⟩)
      · have c3b : t_23 = false := Bool.eq_false_iff.mpr c3; try simp only [c3b, nrm]
        refine w_cond rfl (fun h => Bool.noConfusion h) (fun _ => ?_)
        refine w_skip ?_
        refine k_seq ?_
        refine w_seq ?_
        refine w_seq ?_
        refine wR fun K hK => ?_
        refine g_lda rfl rfl ag26 sz26 rfl rfl (Nat.le_of_ble_eq_true rfl) (gT ?_)
        obtain ⟨q4, hq4, H⟩ := bnd H
        refine g_cs [] rfl rfl (by rfl) Tryd.func10 rfl (by decide) (mat_Matrix_Finite.does hq4) ⟨Nat.le_of_ble_eq_true rfl, Nat.le_of_ble_eq_true rfl⟩ ?_; refine gC ?_
        refine g_un rfl rfl rfl rfl (gT ?_)
        refine g_nil (hK _ _ _ ?_)
        refine k_seq ?_
        rcases its H with ⟨c5, H⟩ | ⟨c5, H⟩
        · have c5b : q4 = true := c5; try simp only [c5b, nrm]
          refine w_cond rfl (fun h => Bool.noConfusion h) (fun _ => ?_)
          refine w_skip ?_
          refine k_seq ?_
          refine w_seq ?_
          refine wR fun K hK => ?_
          refine g_fd rfl rfl fa26_0 rfl (gT ?_)
          refine g_ldc rfl rfl ag3 sz3 rfl rfl rfl (gT ?_)
          refine g_as rfl rfl (gT ?_)
          refine g_nil (hK _ _ _ ?_)
          refine k_seq ?_
          refine w_seq ?_
          refine wR fun K hK => ?_
          refine g_lda rfl rfl ag26 sz26 rfl rfl (Nat.le_of_ble_eq_true rfl) (gT ?_)
          obtain ⟨q6, hq6, H⟩ := bnd H
          refine g_cs [] rfl rfl (by rfl) Tryd.func7 rfl (by decide) (mat_Matrix_Clone.does hq6) ⟨Nat.le_of_ble_eq_true rfl, Nat.le_of_ble_eq_true rfl⟩ ?_; refine gC ?_
          refine g_alloc rfl rfl zr26 (gU ?_)
          refine g_st rfl rfl sz26 rfl rfl rfl (by rfl) (Nat.le_of_ble_eq_true rfl) (gU ?_)
          refine g_nil (hK _ _ _ ?_)
          refine k_seq ?_
          refine w_seq ?_
          refine wD fun K hK => ?_
          refine g_mv rfl rfl (gT ?_)
          obtain ⟨c7, H⟩ := it1 H
          obtain ⟨c8, H⟩ := it1 H
          refine g_mk rfl rfl Tryd.underlying29 sz3 by3 zr3 rfl rfl rfl (by first | assumption | omega) (by omega) (by unfold limit; omega) (by omega) (gU ?_)
          refine g_mv rfl rfl (gT ?_)
          refine g_mk rfl rfl Tryd.underlying29 sz3 by3 zr3 rfl rfl rfl (by first | assumption | omega) (by omega) (by unfold limit; omega) (by omega) (gU ?_)
          refine g_mv rfl rfl (gT ?_)
          refine g_bd rfl rfl zr31 Tryd.underlying31 (pl := [(0, 1), (1, 1), (2, 1), (3, 1)]) (by kernel_rfl) ?_; refine gB ?_
          refine g_alloc rfl rfl zr31 (gU ?_)
          refine g_st rfl rfl sz31 rfl rfl rfl (by rfl) (Nat.le_of_ble_eq_true rfl) (gU ?_)
          refine g_nil (hK _ _ _ (by kernel_rfl) ?_)
          refine k_seq ?_
          refine w_seq ?_
          refine w_seq ?_
          refine wR fun K hK => ?_
          refine g_mv rfl rfl (gT ?_)
          refine g_mv rfl rfl (gT ?_)
          refine g_nil (hK _ _ _ ?_)
          refine k_seq ?_
          refine w_block ?_
          refine w_wk (σ := [1, 2, 35, 67, 31, 47, 55]) [2, 0, 2, 0, 33, 0] rfl (by decide) ?_; refine gC ?_
          exact gI (ih1 h0_0 0 h1_0 q6.1 q6.2.1 q6.2.2.1 0 q6.2.2.2 (List.replicate h0_0.toNat 0) (List.replicate h0_0.toNat 0) r H)
        · have c5b : q4 = false := Bool.eq_false_iff.mpr c5; try simp only [c5b, nrm]
          refine w_cond rfl (fun _ => ?_) (fun h => Bool.noConfusion h)
          refine w_seq ?_
          refine wR fun K hK => ?_
          refine g_bd rfl rfl zr26 Tryd.underlying26 (pl := [(0, 1), (1, 1), (2, 1), (3, 1)]) (by kernel_rfl) ?_; refine gB ?_
          refine g_bd rfl rfl zr31 Tryd.underlying31 (pl := [(0, 1), (1, 1), (2, 1), (3, 1)]) (by kernel_rfl) ?_; refine gB ?_
          refine g_st rfl rfl sz26 rfl rfl rfl (by rfl) (Nat.le_of_ble_eq_true rfl) (gU ?_)
          refine g_st rfl rfl sz31 rfl rfl rfl (by rfl) (Nat.le_of_ble_eq_true rfl) (gU ?_)
          refine g_as rfl rfl (gT ?_)
          refine g_nil (hK _ _ _ ?_)
          refine k_seq ?_
          refine w_less (.cell 1 3 2 1 rfl rfl) ?_; simp only [nrmx, nrm, List.set_cons_zero, List.set_cons_succ, Nat.reduceAdd]
          refine w_less (.cell 2 0 2 1 rfl rfl) ?_; simp only [nrmx, nrm, List.set_cons_zero, List.set_cons_succ, Nat.reduceAdd]
          refine w_less (.cell 2 1 2 1 rfl rfl) ?_; simp only [nrmx, nrm, List.set_cons_zero, List.set_cons_succ, Nat.reduceAdd]
          refine w_ret ?_
          refine fin_wp (τ := [35, 36, 37]) rfl (by decide) ?_; rw [← Option.some.inj H]; simp only [Tryd.f8, ag26, sz26, ag31, sz31, nrm, nrmw, nrmc, nrme, nrmo, nrml, nrmb, nrmx, Nat.reduceEqDiff, Nat.reduceBEq, Nat.zero_add, Nat.add_zero, Nat.mul_one, List.length_cons, List.length_nil, List.length_map, List.length_set, List.length_replicate, List.drop_zero, List.drop_succ_cons, List.drop_nil, List.take_zero, List.take_succ_cons, List.take_nil, Nat.le_refl, if_true, if_false, Option.any_none, Option.any_some, List.contains_nil, Bool.not_false, Bool.or_true, Bool.true_or, Bool.or_false, Bool.false_or, Bool.and_true, Bool.true_and, Bool.and_self, reduceCtorEq, beq_self_eq_true, List.map_cons, List.map_nil, List.append_nil, List.nil_append, List.contains_cons, List.filter_cons, List.filter_nil, List.cons_append, Bool.false_eq_true, true_and, and_true, List.getElem_toArray, List.getElem_cons_zero, List.getElem_cons_succ, Nat.reduceAdd, Nat.reduceMul, Nat.reduceLT, Nat.reduceSub, Nat.reduceLeDiff]; try (first | rfl | exact ⟨rfl, trivial⟩ | exact ⟨rfl, rfl⟩)
    · intro t_41 t_42 h0_0 h2_0 h2_1 h2_2 h3_0 h4 h5 h6 r H
      unfold bal_Of.l0 at H
      simp only [bodyOf, Tryd.f8, frs, sub, if_true, if_false, Nat.one_ne_zero]
      refine w_loop ?_
      refine w_seq ?_
      refine wR fun K hK => ?_
      refine g_bin rfl rfl rfl rfl rfl (gT ?_)
      refine g_nil (hK _ _ _ ?_)
      refine k_seq ?_
      refine w_seq ?_
      rcases its H with ⟨c9, H⟩ | ⟨c9, H⟩
      · have c9b := decide_eq_true c9; try simp only [c9b, nrm]
        refine w_cond rfl (fun _ => ?_) (fun h => Bool.noConfusion h)
        refine w_skip ?_
        refine k_seq ?_
        refine w_seq ?_
        refine w_block ?_
        refine w_seq ?_
        refine wR fun K hK => ?_
        refine g_mv rfl rfl (gT ?_)
        refine g_as rfl rfl (gT ?_)
        refine g_nil (hK _ _ _ ?_)
        refine k_seq ?_
        refine wR fun K hK => ?_
        refine g_fd rfl rfl fa31_0 rfl (gT ?_)
        refine g_ldc rfl rfl ag29 sz29 rfl rfl rfl (gT ?_)
        refine g_mv rfl rfl (gT ?_)
        refine g_mv rfl rfl (gT ?_)
        obtain ⟨c10, H⟩ := it1 H
        obtain ⟨c11, H⟩ := it1 H
        refine g_ixo rfl rfl Tryd.underlying29 sz3 rfl rfl (by first | assumption | omega) (by first | assumption | omega | (simp only [List.length_set, List.length_replicate] at *; omega)) (gT ?_)
        refine g_st rfl rfl sz3 rfl rfl rfl (by rfl) (by simp only [List.length_map, List.length_set, List.length_replicate]; first | assumption | omega) (gU ?_)
        refine g_nil (hK _ _ _ ?_)
        refine k_block ?_
        refine k_seq ?_
        refine wR fun K hK => ?_
        refine g_bin rfl rfl rfl rfl rfl (gT ?_)
        refine g_mv rfl rfl (gT ?_)
        refine g_nil (hK _ _ _ ?_)
        refine k_loop ?_
        refine w_wk (σ := [0, 1, 2, 3, 4, 5, 6]) [2, 0, 2, 0, 33, 0] rfl (by decide) ?_; refine gC ?_
        exact gI (ih1 t_41 (wrap64 (t_42 + 1)) h0_0 h2_0 h2_1 h2_2 h3_0 h4 (h5.set t_42.toNat t_42) h6 r H)
      · have c9b := decide_eq_false c9; try simp only [c9b, nrm]
        refine w_cond rfl (fun h => Bool.noConfusion h) (fun _ => ?_)
        refine w_exit rfl ?_
        refine k_seq ?_
        refine w_seq ?_
        refine w_label ?_
        refine k_seq ?_
        refine w_seq ?_
        refine w_block ?_
        refine w_wk (σ := [0, 1, 2, 3, 4, 5, 6]) [2, 0, 2, 0] rfl (by decide) ?_; refine gC ?_
        exact gI (ih2 h0_0 h2_0 h2_1 h2_2 h3_0 t_41 h4 h5 h6 r H)
    · intro h0_0 h2_0 h2_1 h2_2 h3_0 h3_1 h4 h5 h6 r H
      unfold bal_Of.l1 at H
      simp only [bodyOf, Tryd.f8, frs, sub, if_true, if_false, Nat.one_ne_zero]
      refine w_loop ?_
      refine w_block ?_
      refine w_seq ?_
      refine w_seq ?_
      refine wR fun K hK => ?_
      refine g_fd rfl rfl fa31_3 rfl (gT ?_)
      refine g_ldc rfl rfl ag3 sz3 rfl rfl rfl (gT ?_)
      refine g_bin rfl rfl rfl rfl rfl (gT ?_)
      refine g_as rfl rfl (gT ?_)
      refine g_nil (hK _ _ _ ?_)
      refine k_seq ?_
      refine w_block ?_
      refine w_wk (σ := [0, 1, 2, 3, 4, 5, 6]) [2, 0, 2, 0, 1] rfl (by decide) ?_; refine gC ?_
      exact gI (ih3 (wrap64 (h3_1 - 1)) h0_0 h2_0 h2_1 h2_2 h3_0 h3_1 h4 h5 h6 r H)
    · intro i_9 h0_0 h2_0 h2_1 h2_2 h3_0 h3_1 h4 h5 h6 r H
      unfold bal_Of.l2 at H
      simp only [bodyOf, Tryd.f8, frs, sub, if_true, if_false, Nat.one_ne_zero]
      refine w_loop ?_
      refine w_seq ?_
      refine w_seq ?_
      refine wR fun K hK => ?_
      refine g_mv rfl rfl (gT ?_)
      refine g_bin rfl rfl rfl rfl rfl (gT ?_)
      refine g_nil (hK _ _ _ ?_)
      refine k_seq ?_
      rcases its H with ⟨c12, H⟩ | ⟨c12, H⟩
      · have c12b := decide_eq_true c12; try simp only [c12b, nrm]
        refine w_cond rfl (fun _ => ?_) (fun h => Bool.noConfusion h)
        refine w_skip ?_
        refine k_seq ?_
        refine w_seq ?_
        refine w_block ?_
        refine w_seq ?_
        refine wR fun K hK => ?_
        refine g_lda rfl rfl ag26 sz26 rfl rfl (Nat.le_of_ble_eq_true rfl) (gT ?_)
        refine g_mv rfl rfl (gT ?_)
        refine g_fd rfl rfl fa31_3 rfl (gT ?_)
        refine g_ldc rfl rfl ag3 sz3 rfl rfl rfl (gT ?_)
        obtain ⟨q13, hq13, H⟩ := bnd H
        refine g_cs [] rfl rfl (by rfl) Tryd.func25 rfl (by decide) (bal_lone.does hq13) ⟨Nat.le_of_ble_eq_true rfl, Nat.le_of_ble_eq_true rfl⟩ ?_; refine gC ?_
        refine g_nil (hK _ _ _ ?_)
        refine k_seq ?_
        rcases its H with ⟨c14, H⟩ | ⟨c14, H⟩
        · have c14b : q13 = true := c14; try simp only [c14b, nrm]
          refine w_cond rfl (fun _ => ?_) (fun h => Bool.noConfusion h)
          refine w_seq ?_
          refine wR fun K hK => ?_
          refine g_fd rfl rfl fa31_3 rfl (gT ?_)
          refine g_ldc rfl rfl ag3 sz3 rfl rfl rfl (gT ?_)
          refine g_bin rfl rfl rfl rfl rfl (gT ?_)
          refine g_fd rfl rfl fa31_3 rfl (gT ?_)
          refine g_st rfl rfl sz3 rfl rfl rfl (by rfl) (Nat.le_of_ble_eq_true rfl) (gU ?_)
          refine g_nil (hK _ _ _ ?_)
          refine k_seq ?_
          refine w_seq ?_
          refine wR fun K hK => ?_
          refine g_lda rfl rfl ag26 sz26 rfl rfl (Nat.le_of_ble_eq_true rfl) (gT ?_)
          refine g_mv rfl rfl (gT ?_)
          refine g_fd rfl rfl fa31_3 rfl (gT ?_)
          refine g_ldc rfl rfl ag3 sz3 rfl rfl rfl (gT ?_)
          obtain ⟨q15, hq15, H⟩ := bnd H
          obtain ⟨zq15_0, zq15_1, zq15_2⟩ := bal_swap.len hq15
          (try simp only [List.length_set, List.length_replicate, List.length_append, List.length_cons, List.length_nil, Nat.zero_add] at zq15_0 zq15_1 zq15_2)
          refine g_cs [4, 3, 5, 6] rfl rfl (by rfl) Tryd.func26 rfl (by decide) (bal_swap.does hq15) ⟨Nat.le_of_ble_eq_true rfl, Nat.le_of_ble_eq_true rfl⟩ ?_; simp only [nrm, nrmw, nrmc, nrme, nrmo, nrml, nrmb, nrmx, Nat.reduceEqDiff, Nat.reduceBEq, Nat.zero_add, Nat.add_zero, Nat.mul_one, List.length_cons, List.length_nil, List.length_map, List.length_set, List.length_replicate, List.drop_zero, List.drop_succ_cons, List.drop_nil, List.take_zero, List.take_succ_cons, List.take_nil, Nat.le_refl, if_true, if_false, Option.any_none, Option.any_some, List.contains_nil, Bool.not_false, Bool.or_true, Bool.true_or, Bool.or_false, Bool.false_or, Bool.and_true, Bool.true_and, Bool.and_self, reduceCtorEq, beq_self_eq_true, List.map_cons, List.map_nil, List.append_nil, List.nil_append, List.contains_cons, List.filter_cons, List.filter_nil, List.cons_append, Bool.false_eq_true, true_and, and_true, List.getElem_toArray, List.getElem_cons_zero, List.getElem_cons_succ, Nat.reduceAdd, Nat.reduceMul, Nat.reduceLT, Nat.reduceSub, Nat.reduceLeDiff, ← zq15_0, ← zq15_1, ← zq15_2]
          refine g_nil (hK _ _ _ ?_)
          refine k_seq ?_
          refine w_exit rfl ?_
          refine k_loop ?_
          refine w_wk (σ := [0, 1, 2, 3, 4, 5, 6]) [2, 0, 2, 0] rfl (by decide) ?_; refine gC ?_
          exact gI (ih2 h0_0 h2_0 h2_1 h2_2 q15.2.1 q15.2.2.1 q15.1 q15.2.2.2.1 q15.2.2.2.2 r H)
        · have c14b : q13 = false := Bool.eq_false_iff.mpr c14; try simp only [c14b, nrm]
          refine w_cond rfl (fun h => Bool.noConfusion h) (fun _ => ?_)
          refine w_skip ?_
          refine k_block ?_
          refine k_seq ?_
          refine wR fun K hK => ?_
          refine g_mv rfl rfl (gT ?_)
          refine g_bin rfl rfl rfl rfl rfl (gT ?_)
          refine g_as rfl rfl (gT ?_)
          refine g_nil (hK _ _ _ ?_)
          refine k_loop ?_
          refine w_wk (σ := [0, 1, 2, 3, 4, 5, 6]) [2, 0, 2, 0, 1] rfl (by decide) ?_; refine gC ?_
          exact gI (ih3 (wrap64 (i_9 - 1)) h0_0 h2_0 h2_1 h2_2 h3_0 h3_1 h4 h5 h6 r H)
      · have c12b := decide_eq_false c12; try simp only [c12b, nrm]
        refine w_cond rfl (fun h => Bool.noConfusion h) (fun _ => ?_)
        refine w_exit rfl ?_
        refine k_seq ?_
        refine w_exit rfl ?_
        refine k_seq ?_
        refine w_seq ?_
        refine w_label ?_
        refine k_seq ?_
        refine w_seq ?_
        refine w_block ?_
        refine w_wk (σ := [0, 1, 2, 3, 4, 5, 6]) [2, 0, 2, 0] rfl (by decide) ?_; refine gC ?_
        exact gI (ih4 h0_0 h2_0 h2_1 h2_2 h3_0 h3_1 h4 h5 h6 r H)
    · intro h0_0 h2_0 h2_1 h2_2 h3_0 h3_1 h4 h5 h6 r H
      unfold bal_Of.l3 at H
      simp only [bodyOf, Tryd.f8, frs, sub, if_true, if_false, Nat.one_ne_zero]
      refine w_loop ?_
      refine w_block ?_
      refine w_seq ?_
      refine w_seq ?_
      refine wR fun K hK => ?_
      refine g_fd rfl rfl fa31_2 rfl (gT ?_)
      refine g_ldc rfl rfl ag3 sz3 rfl rfl rfl (gT ?_)
      refine g_as rfl rfl (gT ?_)
      refine g_nil (hK _ _ _ ?_)
      refine k_seq ?_
      refine w_block ?_
      refine w_wk (σ := [0, 1, 2, 3, 4, 5, 6]) [2, 0, 2, 0, 2] rfl (by decide) ?_; refine gC ?_
      exact gI (ih5 h3_0 h0_0 h2_0 h2_1 h2_2 h3_0 h3_1 h4 h5 h6 r H)
    · intro i_10 h0_0 h2_0 h2_1 h2_2 h3_0 h3_1 h4 h5 h6 r H
      unfold bal_Of.l4 at H
      simp only [bodyOf, Tryd.f8, frs, sub, if_true, if_false, Nat.one_ne_zero]
      refine w_loop ?_
      refine w_seq ?_
      refine w_seq ?_
      refine wR fun K hK => ?_
      refine g_mv rfl rfl (gT ?_)
      refine g_fd rfl rfl fa31_3 rfl (gT ?_)
      refine g_ldc rfl rfl ag3 sz3 rfl rfl rfl (gT ?_)
      refine g_bin rfl rfl rfl rfl rfl (gT ?_)
      refine g_nil (hK _ _ _ ?_)
      refine k_seq ?_
      rcases its H with ⟨c16, H⟩ | ⟨c16, H⟩
      · have c16b := decide_eq_true c16; try simp only [c16b, nrm]
        refine w_cond rfl (fun _ => ?_) (fun h => Bool.noConfusion h)
        refine w_skip ?_
        refine k_seq ?_
        refine w_seq ?_
        refine w_block ?_
        refine w_seq ?_
        refine wR fun K hK => ?_
        refine g_lda rfl rfl ag26 sz26 rfl rfl (Nat.le_of_ble_eq_true rfl) (gT ?_)
        refine g_mv rfl rfl (gT ?_)
        refine g_fd rfl rfl fa31_2 rfl (gT ?_)
        refine g_ldc rfl rfl ag3 sz3 rfl rfl rfl (gT ?_)
        refine g_fd rfl rfl fa31_3 rfl (gT ?_)
        refine g_ldc rfl rfl ag3 sz3 rfl rfl rfl (gT ?_)
        obtain ⟨q17, hq17, H⟩ := bnd H
        refine g_cs [] rfl rfl (by rfl) Tryd.func25 rfl (by decide) (bal_lone.does hq17) ⟨Nat.le_of_ble_eq_true rfl, Nat.le_of_ble_eq_true rfl⟩ ?_; refine gC ?_
        refine g_nil (hK _ _ _ ?_)
        refine k_seq ?_
        rcases its H with ⟨c18, H⟩ | ⟨c18, H⟩
        · have c18b : q17 = true := c18; try simp only [c18b, nrm]
          refine w_cond rfl (fun _ => ?_) (fun h => Bool.noConfusion h)
          refine w_seq ?_
          refine wR fun K hK => ?_
          refine g_lda rfl rfl ag26 sz26 rfl rfl (Nat.le_of_ble_eq_true rfl) (gT ?_)
          refine g_mv rfl rfl (gT ?_)
          refine g_fd rfl rfl fa31_2 rfl (gT ?_)
          refine g_ldc rfl rfl ag3 sz3 rfl rfl rfl (gT ?_)
          obtain ⟨q19, hq19, H⟩ := bnd H
          obtain ⟨zq19_0, zq19_1, zq19_2⟩ := bal_swap.len hq19
          (try simp only [List.length_set, List.length_replicate, List.length_append, List.length_cons, List.length_nil, Nat.zero_add] at zq19_0 zq19_1 zq19_2)
          refine g_cs [4, 3, 5, 6] rfl rfl (by rfl) Tryd.func26 rfl (by decide) (bal_swap.does hq19) ⟨Nat.le_of_ble_eq_true rfl, Nat.le_of_ble_eq_true rfl⟩ ?_; simp only [nrm, nrmw, nrmc, nrme, nrmo, nrml, nrmb, nrmx, Nat.reduceEqDiff, Nat.reduceBEq, Nat.zero_add, Nat.add_zero, Nat.mul_one, List.length_cons, List.length_nil, List.length_map, List.length_set, List.length_replicate, List.drop_zero, List.drop_succ_cons, List.drop_nil, List.take_zero, List.take_succ_cons, List.take_nil, Nat.le_refl, if_true, if_false, Option.any_none, Option.any_some, List.contains_nil, Bool.not_false, Bool.or_true, Bool.true_or, Bool.or_false, Bool.false_or, Bool.and_true, Bool.true_and, Bool.and_self, reduceCtorEq, beq_self_eq_true, List.map_cons, List.map_nil, List.append_nil, List.nil_append, List.contains_cons, List.filter_cons, List.filter_nil, List.cons_append, Bool.false_eq_true, true_and, and_true, List.getElem_toArray, List.getElem_cons_zero, List.getElem_cons_succ, Nat.reduceAdd, Nat.reduceMul, Nat.reduceLT, Nat.reduceSub, Nat.reduceLeDiff, ← zq19_0, ← zq19_1, ← zq19_2]
          refine g_nil (hK _ _ _ ?_)
          refine k_seq ?_
          refine w_seq ?_
          refine wR fun K hK => ?_
          refine g_fd rfl rfl fa31_2 rfl (gT ?_)
          refine g_ldc rfl rfl ag3 sz3 rfl rfl rfl (gT ?_)
          refine g_bin rfl rfl rfl rfl rfl (gT ?_)
          refine g_fd rfl rfl fa31_2 rfl (gT ?_)
          refine g_st rfl rfl sz3 rfl rfl rfl (by rfl) (Nat.le_of_ble_eq_true rfl) (gU ?_)
          refine g_nil (hK _ _ _ ?_)
          refine k_seq ?_
          refine w_exit rfl ?_
          refine k_loop ?_
          refine w_wk (σ := [0, 1, 2, 3, 4, 5, 6]) [2, 0, 2, 0] rfl (by decide) ?_; refine gC ?_
          exact gI (ih4 h0_0 h2_0 h2_1 h2_2 (wrap64 (q19.2.1 + 1)) q19.2.2.1 q19.1 q19.2.2.2.1 q19.2.2.2.2 r H)
        · have c18b : q17 = false := Bool.eq_false_iff.mpr c18; try simp only [c18b, nrm]
          refine w_cond rfl (fun h => Bool.noConfusion h) (fun _ => ?_)
          refine w_skip ?_
          refine k_block ?_
          refine k_seq ?_
          refine wR fun K hK => ?_
          refine g_mv rfl rfl (gT ?_)
          refine g_bin rfl rfl rfl rfl rfl (gT ?_)
          refine g_as rfl rfl (gT ?_)
          refine g_nil (hK _ _ _ ?_)
          refine k_loop ?_
          refine w_wk (σ := [0, 1, 2, 3, 4, 5, 6]) [2, 0, 2, 0, 2] rfl (by decide) ?_; refine gC ?_
          exact gI (ih5 (wrap64 (i_10 + 1)) h0_0 h2_0 h2_1 h2_2 h3_0 h3_1 h4 h5 h6 r H)
      · have c16b := decide_eq_false c16; try simp only [c16b, nrm]
        refine w_cond rfl (fun h => Bool.noConfusion h) (fun _ => ?_)
        refine w_exit rfl ?_
        refine k_seq ?_
        refine w_exit rfl ?_
        refine k_seq ?_
        refine w_seq ?_
        refine w_seq ?_
        refine wR fun K hK => ?_
        refine g_as rfl rfl (gT ?_)
        refine g_as rfl rfl (gT ?_)
        refine g_nil (hK _ _ _ ?_)
        refine k_seq ?_
        refine w_block ?_
        refine w_wk (σ := [0, 1, 2, 3, 4, 5, 6]) [2, 0, 2, 0, 3, 0] rfl (by decide) ?_; refine gC ?_
        exact gI (ih6 true 0 h0_0 h2_0 h2_1 h2_2 h3_0 h3_1 h4 h5 h6 r H)
    · intro again_11 round_12 h0_0 h2_0 h2_1 h2_2 h3_0 h3_1 h4 h5 h6 r H
      unfold bal_Of.l5 at H
      simp only [bodyOf, Tryd.f8, frs, sub, if_true, if_false, Nat.one_ne_zero]
      refine w_loop ?_
      refine w_seq ?_
      refine w_seq ?_
      refine wR fun K hK => ?_
      refine g_mv rfl rfl (gT ?_)
      refine g_mv rfl rfl (gT ?_)
      rcases its H with ⟨c20, H⟩ | ⟨c20, H⟩
      · have c20b : again_11 = true := c20; try simp only [c20b, nrm]
        refine g_mv rfl rfl (gT ?_)
        refine g_bin rfl rfl rfl rfl rfl (gT ?_)
        refine g_pick rfl rfl rfl (gT ?_)
        refine g_nil (hK _ _ _ ?_)
        refine k_wk (σ := [0, 1, 2, 3, 4, 5, 6]) [2, 0, 2, 0, 4, 87] rfl (by decide) rfl ?_; refine gC ?_
        exact gI (ih7 round_12 (decide (round_12 < 20)) h0_0 h2_0 h2_1 h2_2 h3_0 h3_1 h4 h5 h6 r H)
      · have c20b : again_11 = false := Bool.eq_false_iff.mpr c20; try simp only [c20b, nrm]
        refine g_sk rfl rfl (gT ?_)
        refine g_sk rfl rfl (gT ?_)
        refine g_pick rfl rfl rfl (gT ?_)
        refine g_nil (hK _ _ _ ?_)
        refine k_wk (σ := [0, 1, 2, 3, 4, 5, 6]) [2, 0, 2, 0, 4, 87] rfl (by decide) rfl ?_; refine gC ?_
        exact gI (ih7 round_12 false h0_0 h2_0 h2_1 h2_2 h3_0 h3_1 h4 h5 h6 r H)
    · intro round_12 t_100 h0_0 h2_0 h2_1 h2_2 h3_0 h3_1 h4 h5 h6 r H
      unfold bal_Of.j7 at H
      simp only [bodyOf, Tryd.f8, frs, sub, if_true, if_false, Nat.one_ne_zero]
      refine k_seq ?_
      rcases its H with ⟨c21, H⟩ | ⟨c21, H⟩
      · have c21b : t_100 = true := c21; try simp only [c21b, nrm]
        refine w_cond rfl (fun _ => ?_) (fun h => Bool.noConfusion h)
        refine w_skip ?_
        refine k_seq ?_
        refine w_seq ?_
        refine w_block ?_
        refine w_seq ?_
        refine wR fun K hK => ?_
        refine g_as rfl rfl (gT ?_)
        refine g_nil (hK _ _ _ ?_)
        refine k_seq ?_
        refine w_seq ?_
        refine wR fun K hK => ?_
        refine g_fd rfl rfl fa31_2 rfl (gT ?_)
        refine g_ldc rfl rfl ag3 sz3 rfl rfl rfl (gT ?_)
        refine g_as rfl rfl (gT ?_)
        refine g_nil (hK _ _ _ ?_)
        refine k_seq ?_
        refine w_block ?_
        refine w_wk (σ := [0, 1, 2, 3, 4, 5, 6]) [2, 0, 2, 0, 3, 0, 0] rfl (by decide) ?_; refine gC ?_
        exact gI (ih8 false round_12 h3_0 h0_0 h2_0 h2_1 h2_2 h3_0 h3_1 h4 h5 h6 r H)
      · have c21b : t_100 = false := Bool.eq_false_iff.mpr c21; try simp only [c21b, nrm]
        refine w_cond rfl (fun h => Bool.noConfusion h) (fun _ => ?_)
        refine w_exit rfl ?_
        refine k_seq ?_
        refine w_seq ?_
        refine wD fun K hK => ?_
        refine g_lda rfl rfl ag26 sz26 rfl rfl (Nat.le_of_ble_eq_true rfl) (gT ?_)
        refine g_lda rfl rfl ag31 sz31 rfl rfl (Nat.le_of_ble_eq_true rfl) (gT ?_)
        refine g_st rfl rfl sz26 rfl rfl rfl (by rfl) (Nat.le_of_ble_eq_true rfl) (gU ?_)
        refine g_st rfl rfl sz31 rfl rfl rfl (by rfl) (Nat.le_of_ble_eq_true rfl) (gU ?_)
        refine g_as rfl rfl (gT ?_)
        refine g_nil (hK _ _ _ (by kernel_rfl) ?_)
        refine k_seq ?_
        refine w_ret ?_
        refine fin_wp (τ := [4, 5, 6]) rfl (by decide) ?_; rw [← Option.some.inj H]; simp only [Tryd.f8, ag26, sz26, ag31, sz31, nrm, nrmw, nrmc, nrme, nrmo, nrml, nrmb, nrmx, Nat.reduceEqDiff, Nat.reduceBEq, Nat.zero_add, Nat.add_zero, Nat.mul_one, List.length_cons, List.length_nil, List.length_map, List.length_set, List.length_replicate, List.drop_zero, List.drop_succ_cons, List.drop_nil, List.take_zero, List.take_succ_cons, List.take_nil, Nat.le_refl, if_true, if_false, Option.any_none, Option.any_some, List.contains_nil, Bool.not_false, Bool.or_true, Bool.true_or, Bool.or_false, Bool.false_or, Bool.and_true, Bool.true_and, Bool.and_self, reduceCtorEq, beq_self_eq_true, List.map_cons, List.map_nil, List.append_nil, List.nil_append, List.contains_cons, List.filter_cons, List.filter_nil, List.cons_append, Bool.false_eq_true, true_and, and_true, List.getElem_toArray, List.getElem_cons_zero, List.getElem_cons_succ, Nat.reduceAdd, Nat.reduceMul, Nat.reduceLT, Nat.reduceSub, Nat.reduceLeDiff]; try (first | rfl | exact ⟨rfl, trivial⟩ | exact ⟨rfl, rfl⟩)
    · intro again_11 round_12 i_13 h0_0 h2_0 h2_1 h2_2 h3_0 h3_1 h4 h5 h6 r H
      unfold bal_Of.l6 at H
      simp only [bodyOf, Tryd.f8, frs, sub, if_true, if_false, Nat.one_ne_zero]
      refine w_loop ?_
      refine w_seq ?_
      refine w_seq ?_
      refine wR fun K hK => ?_
      refine g_mv rfl rfl (gT ?_)
      refine g_fd rfl rfl fa31_3 rfl (gT ?_)
      refine g_ldc rfl rfl ag3 sz3 rfl rfl rfl (gT ?_)
      refine g_bin rfl rfl rfl rfl rfl (gT ?_)
      refine g_nil (hK _ _ _ ?_)
      refine k_seq ?_
      rcases its H with ⟨c22, H⟩ | ⟨c22, H⟩
      · have c22b := decide_eq_true c22; try simp only [c22b, nrm]
        refine w_cond rfl (fun _ => ?_) (fun h => Bool.noConfusion h)
        refine w_skip ?_
        refine k_seq ?_
        refine w_seq ?_
        refine w_block ?_
        refine wR fun K hK => ?_
        refine g_lda rfl rfl ag26 sz26 rfl rfl (Nat.le_of_ble_eq_true rfl) (gT ?_)
        refine g_mv rfl rfl (gT ?_)
        obtain ⟨q23, hq23, H⟩ := bnd H
        obtain ⟨zq23_0, zq23_1, zq23_2⟩ := bal_Balance_level.len hq23
        (try simp only [List.length_set, List.length_replicate, List.length_append, List.length_cons, List.length_nil, Nat.zero_add] at zq23_0 zq23_1 zq23_2)
        refine g_cs [3, 4, 5, 6] rfl rfl (by rfl) Tryd.func27 rfl (by decide) (bal_Balance_level.does hq23) ⟨Nat.le_of_ble_eq_true rfl, Nat.le_of_ble_eq_true rfl⟩ ?_; simp only [nrm, nrmw, nrmc, nrme, nrmo, nrml, nrmb, nrmx, Nat.reduceEqDiff, Nat.reduceBEq, Nat.zero_add, Nat.add_zero, Nat.mul_one, List.length_cons, List.length_nil, List.length_map, List.length_set, List.length_replicate, List.drop_zero, List.drop_succ_cons, List.drop_nil, List.take_zero, List.take_succ_cons, List.take_nil, Nat.le_refl, if_true, if_false, Option.any_none, Option.any_some, List.contains_nil, Bool.not_false, Bool.or_true, Bool.true_or, Bool.or_false, Bool.false_or, Bool.and_true, Bool.true_and, Bool.and_self, reduceCtorEq, beq_self_eq_true, List.map_cons, List.map_nil, List.append_nil, List.nil_append, List.contains_cons, List.filter_cons, List.filter_nil, List.cons_append, Bool.false_eq_true, true_and, and_true, List.getElem_toArray, List.getElem_cons_zero, List.getElem_cons_succ, Nat.reduceAdd, Nat.reduceMul, Nat.reduceLT, Nat.reduceSub, Nat.reduceLeDiff, ← zq23_0, ← zq23_1, ← zq23_2]
        refine g_mv rfl rfl (gT ?_)
        rcases its H with ⟨c24, H⟩ | ⟨c24, H⟩
        · have c24b : q23.1 = true := c24; try simp only [c24b, nrm]
          refine g_sk rfl rfl (gT ?_)
          refine g_pick rfl rfl rfl (gT ?_)
          refine g_as rfl rfl (gT ?_)
          refine g_nil (hK _ _ _ ?_)
          refine k_block ?_
          refine k_seq ?_
          refine wR fun K hK => ?_
          refine g_mv rfl rfl (gT ?_)
          refine g_bin rfl rfl rfl rfl rfl (gT ?_)
          refine g_as rfl rfl (gT ?_)
          refine g_nil (hK _ _ _ ?_)
          refine k_loop ?_
          refine w_wk (σ := [0, 1, 2, 3, 4, 5, 6]) [2, 0, 2, 0, 3, 0, 0] rfl (by decide) ?_; refine gC ?_
          exact gI (ih8 true round_12 (wrap64 (i_13 + 1)) h0_0 h2_0 h2_1 h2_2 q23.2.1 q23.2.2.1 q23.2.2.2.1 q23.2.2.2.2.1 q23.2.2.2.2.2 r H)
        · have c24b : q23.1 = false := Bool.eq_false_iff.mpr c24; try simp only [c24b, nrm]
          refine g_mv rfl rfl (gT ?_)
          refine g_pick rfl rfl rfl (gT ?_)
          refine g_as rfl rfl (gT ?_)
          refine g_nil (hK _ _ _ ?_)
          refine k_block ?_
          refine k_seq ?_
          refine wR fun K hK => ?_
          refine g_mv rfl rfl (gT ?_)
          refine g_bin rfl rfl rfl rfl rfl (gT ?_)
          refine g_as rfl rfl (gT ?_)
          refine g_nil (hK _ _ _ ?_)
          refine k_loop ?_
          refine w_wk (σ := [0, 1, 2, 3, 4, 5, 6]) [2, 0, 2, 0, 3, 0, 0] rfl (by decide) ?_; refine gC ?_
          exact gI (ih8 again_11 round_12 (wrap64 (i_13 + 1)) h0_0 h2_0 h2_1 h2_2 q23.2.1 q23.2.2.1 q23.2.2.2.1 q23.2.2.2.2.1 q23.2.2.2.2.2 r H)
      · have c22b := decide_eq_false c22; try simp only [c22b, nrm]
        refine w_cond rfl (fun h => Bool.noConfusion h) (fun _ => ?_)
        refine w_exit rfl ?_
        refine k_block ?_
        refine k_seq ?_
        refine wR fun K hK => ?_
        refine g_mv rfl rfl (gT ?_)
        refine g_bin rfl rfl rfl rfl rfl (gT ?_)
        refine g_as rfl rfl (gT ?_)
        refine g_nil (hK _ _ _ ?_)
        refine k_loop ?_
        refine w_wk (σ := [0, 1, 2, 3, 4, 5, 6]) [2, 0, 2, 0, 3, 0] rfl (by decide) ?_; refine gC ?_
        exact gI (ih6 again_11 (wrap64 (round_12 + 1)) h0_0 h2_0 h2_1 h2_2 h3_0 h3_1 h4 h5 h6 r H)
set_option maxHeartbeats 8000000 in
set_option maxRecDepth 100000 in
theorem bal_Of.does {k : Nat} {a0_0 : Int} {a0_1 : Int} {a0_2 : Int} {l0_3 : List Int} {r : Int × Int × Int × (List Int) × (List Int) × (List Int) × Int × Int × Int} (H : bal_Of.f k a0_0 a0_1 a0_2 l0_3 = some r) : Do E0 (.fn 8 [.a [.i .i64 a0_0, .i .i64 a0_1, .i .i64 a0_2, .r (l0_3.map (V.i .u64)) l0_3.length true]] [] (.t [.a [.i .i64 r.1, .i .i64 r.2.1, .i .i64 r.2.2.1, .s (some (0, 0)) r.2.2.2.1.length], .a [.s (some (1, 0)) r.2.2.2.2.1.length, .s (some (2, 0)) r.2.2.2.2.2.1.length, .i .i64 r.2.2.2.2.2.2.1, .i .i64 r.2.2.2.2.2.2.2.1], .i .i64 r.2.2.2.2.2.2.2.2]) [.row (r.2.2.2.1.map (V.i .u64)) 2 1 true true none, .row (r.2.2.2.2.1.map (V.i .i64)) 2 1 true true none, .row (r.2.2.2.2.2.1.map (V.i .i64)) 2 1 true true none]) := by
  obtain ⟨ih0, ih1, ih2, ih3, ih4, ih5, ih6, ih7, ih8⟩ := bal_Of.does_l (a0_0 := a0_0) (a0_1 := a0_1) (a0_2 := a0_2) (l0_3 := l0_3) k
  refine fn_wpl Tryd.func8 rfl (Q := (bal_Of.Q a0_0 a0_1 a0_2 l0_3 r)) (fun s h => h) ?_
  unfold bal_Of.f at H
  simp only [Tryd.ntmps8, List.length, List.replicate, Nat.reduceAdd, Nat.reduceSub, List.cons_append, List.nil_append]
  refine w_seq ?_
  refine wR fun K hK => ?_
  refine g_box rfl rfl rfl (by rfl) (gU ?_)
  refine g_alloc rfl rfl zr26 (gU ?_)
  refine g_alloc rfl rfl zr31 (gU ?_)
  refine g_as rfl rfl (gT ?_)
  refine g_nil (hK _ _ _ ?_)
  refine k_seq ?_
  refine w_scope ?_
  refine w_seq ?_
  refine w_seq ?_
  refine wR fun K hK => ?_
  refine g_lda rfl rfl ag26 sz26 rfl rfl (Nat.le_of_ble_eq_true rfl) (gT ?_)
  obtain ⟨q1, hq1, H⟩ := bnd H
  refine g_cs [] rfl rfl (by rfl) Tryd.func24 rfl (by decide) (mat_Matrix_Check.does hq1) ⟨Nat.le_of_ble_eq_true rfl, Nat.le_of_ble_eq_true rfl⟩ ?_; refine gC ?_
  refine g_bin rfl rfl rfl rfl rfl (gT ?_)
  refine g_mv rfl rfl (gT ?_)
  rcases its H with ⟨c2, H⟩ | ⟨c2, H⟩
  · have c2b := beq_iff_eq.mpr c2; have c2n := bne_eq_false_iff_eq.mpr c2; try simp only [c2b, c2n, nrm]
    refine g_fd rfl rfl fa26_0 rfl (gT ?_)
    refine g_ldc rfl rfl ag3 sz3 rfl rfl rfl (gT ?_)
    refine g_fd rfl rfl fa26_1 rfl (gT ?_)
    refine g_ldc rfl rfl ag3 sz3 rfl rfl rfl (gT ?_)
    refine g_bin rfl rfl rfl rfl rfl (gT ?_)
    refine g_pick rfl rfl rfl (gT ?_)
    refine g_nil (hK _ _ _ ?_)
    refine k_wk (σ := [0, 4, 8]) [1, 0, 0, 19] rfl (by decide) rfl ?_; refine gC ?_
    exact gI (ih0 (a0_0 != a0_1) a0_0 a0_1 a0_2 l0_3 0 r H)
  · have c2b := beq_eq_false_iff_ne.mpr c2; have c2n := bne_iff_ne.mpr c2; try simp only [c2b, c2n, nrm]
    refine g_sk rfl rfl (gT ?_)
    refine g_sk rfl rfl (gT ?_)
    refine g_sk rfl rfl (gT ?_)
    refine g_sk rfl rfl (gT ?_)
    refine g_sk rfl rfl (gT ?_)
    refine g_pick rfl rfl rfl (gT ?_)
    refine g_nil (hK _ _ _ ?_)
    refine k_wk (σ := [0, 4, 8]) [1, 0, 0, 19] rfl (by decide) rfl ?_; refine gC ?_
    exact gI (ih0 true a0_0 a0_1 a0_2 l0_3 0 r H)

set_option maxHeartbeats 8000000 in
set_option maxRecDepth 100000 in
theorem gimballaw16_head.does_l (k : Nat) : (∀ (t_31 : Bool) (h0_0 : Int) (h0_1 : Int) (h1 : List Int) (h2 : List Int) (r : Bool), gimballaw16_head.j0 k t_31 h1 h2 = some r → kont E0 (gimballaw16_head.Q  r) (frs (bodyOf Tryd.f5) [1, 1, 1, 1, 1, 0, 0] []) .normal ⟨[.u, .u, .u, .p (some (0, 0)), .u, .u, .u, .u, .u, .u, .u, .u, .u, .u, .u, .u, .u, .u, .u, .u, .u, .u, .u, .u, .u, .u, .u, .u, .u, .u, .u, .b t_31, .u, .u, .u, .u, .u, .u, .u, .u, .u, .u, .u, .u, .u, .u, .u, .u, .u, .u, .u, .u, .u, .u, .u, .u, .u], ofL [.row [.s (some (1, 0)) h1.length, .s (some (2, 0)) h2.length, .i .i64 h0_0, .i .i64 h0_1] 0 0 true true none, .row (h1.map (V.i .i64)) 2 1 true true none, .row (h2.map (V.i .i64)) 2 1 true true none], 3, 0⟩) := by
  induction k with
  | zero => exact fun _ _ _ _ _ r h => by simp [gimballaw16_head.j0] at h
  | succ k ih =>
    have ih0 := ih
    refine ?_
    · intro t_31 h0_0 h0_1 h1 h2 r H
      unfold gimballaw16_head.j0 at H
      simp only [bodyOf, Tryd.f5, frs, sub, if_true, if_false, Nat.one_ne_zero]
      refine k_seq ?_
      rcases its H with ⟨c9, H⟩ | ⟨c9, H⟩
      · have c9b : t_31 = true := c9; try simp only [c9b, nrm]
        refine w_cond rfl (fun _ => ?_) (fun h => Bool.noConfusion h)
        refine w_seq ?_
        refine wR fun K hK => ?_
        refine g_as rfl rfl (gT ?_)
        refine g_nil (hK _ _ _ ?_)
        refine k_seq ?_
        refine w_ret ?_
        refine fin_wp (τ := []) rfl (by decide) ?_; rw [← Option.some.inj H]; simp only [Tryd.f5]; exact gF
      · have c9b : t_31 = false := Bool.eq_false_iff.mpr c9; try simp only [c9b, nrm]
        refine w_cond rfl (fun h => Bool.noConfusion h) (fun _ => ?_)
        refine w_skip ?_
        refine k_seq ?_
        refine w_seq ?_
        refine w_seq ?_
        refine wR fun K hK => ?_
        refine g_fd rfl rfl fa31_0 rfl (gT ?_)
        refine g_ldc rfl rfl ag29 sz29 rfl rfl rfl (gT ?_)
        obtain ⟨c10, H⟩ := it1 H
        refine g_ixo rfl rfl Tryd.underlying29 sz3 rfl rfl (by first | assumption | omega) (by first | assumption | omega | (simp only [List.length_set, List.length_replicate] at *; omega)) (gT ?_)
        refine g_ldo rfl rfl ag3 sz3 rfl rfl (by first | assumption | omega | (simp only [List.length_set, List.length_replicate] at *; omega)) (gT ?_)
        refine g_bin rfl rfl rfl rfl rfl (gT ?_)
        refine g_nil (hK _ _ _ ?_)
        refine k_seq ?_
        rcases its H with ⟨c11, H⟩ | ⟨c11, H⟩
        · have c11b := beq_iff_eq.mpr c11; have c11n := bne_eq_false_iff_eq.mpr c11; try simp only [c11b, c11n, nrm]
          refine w_cond rfl (fun _ => ?_) (fun h => Bool.noConfusion h)
          refine w_seq ?_
          refine wD fun K hK => ?_
          refine g_fd rfl rfl fa31_1 rfl (gT ?_)
          refine g_ldc rfl rfl ag29 sz29 rfl rfl rfl (gT ?_)
          obtain ⟨c12, H⟩ := it1 H
          refine g_ixo rfl rfl Tryd.underlying29 sz3 rfl rfl (by first | assumption | omega) (by first | assumption | omega | (simp only [List.length_set, List.length_replicate] at *; omega)) (gT ?_)
          refine g_ldo rfl rfl ag3 sz3 rfl rfl (by first | assumption | omega | (simp only [List.length_set, List.length_replicate] at *; omega)) (gT ?_)
          refine g_fd rfl rfl fa31_1 rfl (gT ?_)
          refine g_ldc rfl rfl ag29 sz29 rfl rfl rfl (gT ?_)
          obtain ⟨c13, H⟩ := it1 H
          refine g_ixo rfl rfl Tryd.underlying29 sz3 rfl rfl (by first | assumption | omega) (by first | assumption | omega | (simp only [List.length_set, List.length_replicate] at *; omega)) (gT ?_)
          refine g_ldo rfl rfl ag3 sz3 rfl rfl (by first | assumption | omega | (simp only [List.length_set, List.length_replicate] at *; omega)) (gT ?_)
          refine g_bin rfl rfl rfl rfl rfl (gT ?_)
          refine g_bin rfl rfl rfl rfl rfl (gT ?_)
          refine g_as rfl rfl (gT ?_)
          refine g_nil (hK _ _ _ (by kernel_rfl) ?_)
          refine k_seq ?_
          refine w_ret ?_
          refine fin_wp (τ := []) rfl (by decide) ?_; rw [← Option.some.inj H]; simp only [Tryd.f5]; exact gF
        · have c11b := beq_eq_false_iff_ne.mpr c11; have c11n := bne_iff_ne.mpr c11; try simp only [c11b, c11n, nrm]
          refine w_cond rfl (fun h => Bool.noConfusion h) (fun _ => ?_)
          refine w_skip ?_
          refine k_seq ?_
          refine w_seq ?_
          refine wD fun K hK => ?_
          refine g_fd rfl rfl fa31_1 rfl (gT ?_)
          refine g_ldc rfl rfl ag29 sz29 rfl rfl rfl (gT ?_)
          obtain ⟨c14, H⟩ := it1 H
          refine g_ixo rfl rfl Tryd.underlying29 sz3 rfl rfl (by first | assumption | omega) (by first | assumption | omega | (simp only [List.length_set, List.length_replicate] at *; omega)) (gT ?_)
          refine g_ldo rfl rfl ag3 sz3 rfl rfl (by first | assumption | omega | (simp only [List.length_set, List.length_replicate] at *; omega)) (gT ?_)
          refine g_fd rfl rfl fa31_1 rfl (gT ?_)
          refine g_ldc rfl rfl ag29 sz29 rfl rfl rfl (gT ?_)
          obtain ⟨c15, H⟩ := it1 H
          refine g_ixo rfl rfl Tryd.underlying29 sz3 rfl rfl (by first | assumption | omega) (by first | assumption | omega | (simp only [List.length_set, List.length_replicate] at *; omega)) (gT ?_)
          refine g_ldo rfl rfl ag3 sz3 rfl rfl (by first | assumption | omega | (simp only [List.length_set, List.length_replicate] at *; omega)) (gT ?_)
          refine g_bin rfl rfl rfl rfl rfl (gT ?_)
          refine g_bin rfl rfl rfl rfl rfl (gT ?_)
          refine g_as rfl rfl (gT ?_)
          refine g_nil (hK _ _ _ (by kernel_rfl) ?_)
          refine k_seq ?_
          refine w_ret ?_
          refine fin_wp (τ := []) rfl (by decide) ?_; rw [← Option.some.inj H]; simp only [Tryd.f5]; exact gF
set_option maxHeartbeats 8000000 in
set_option maxRecDepth 100000 in
theorem gimballaw16_head.does {k : Nat} {r : Bool} (H : gimballaw16_head.f k  = some r) : Do E0 (.fn 5 [] [] (.b r) []) := by
  obtain ih0 := gimballaw16_head.does_l  k
  refine fn_wpl Tryd.func5 rfl (Q := (gimballaw16_head.Q  r)) (fun s h => h) ?_
  unfold gimballaw16_head.f at H
  simp only [Tryd.ntmps5, List.length, List.replicate, Nat.reduceAdd, Nat.reduceSub, List.cons_append, List.nil_append]
  refine w_seq ?_
  refine wR fun K hK => ?_
  refine g_as rfl rfl (gT ?_)
  refine g_nil (hK _ _ _ ?_)
  refine k_seq ?_
  refine w_seq ?_
  refine wR fun K hK => ?_
  obtain ⟨q1, hq1, H⟩ := bnd H
  refine g_cs [] rfl rfl (by rfl) Tryd.func21 rfl (by decide) (mat_One.does hq1) ⟨Nat.le_of_ble_eq_true rfl, Nat.le_of_ble_eq_true rfl⟩ ?_; refine gC ?_
  refine g_alloc rfl rfl zr26 (gU ?_)
  refine g_st rfl rfl sz26 rfl rfl rfl (by rfl) (Nat.le_of_ble_eq_true rfl) (gU ?_)
  refine g_nil (hK _ _ _ ?_)
  refine k_seq ?_
  refine w_seq ?_
  refine wD fun K hK => ?_
  refine g_lda rfl rfl ag26 sz26 rfl rfl (Nat.le_of_ble_eq_true rfl) (gT ?_)
  obtain ⟨q2, hq2, H⟩ := bnd H
  refine g_cs [] rfl rfl (by rfl) Tryd.func23 rfl (by decide) (word_Make.does hq2) ⟨Nat.le_of_ble_eq_true rfl, Nat.le_of_ble_eq_true rfl⟩ ?_; refine gC ?_
  obtain ⟨q3, hq3, H⟩ := bnd H
  have zq3_0 := mat_Matrix_Set.len hq3
  (try simp only [List.length_set, List.length_replicate, List.length_append, List.length_cons, List.length_nil, Nat.zero_add] at zq3_0)
  refine g_cs [4] rfl rfl (by rfl) Tryd.func22 rfl (by decide) (mat_Matrix_Set.does hq3) ⟨Nat.le_of_ble_eq_true rfl, Nat.le_of_ble_eq_true rfl⟩ ?_; simp only [nrm, nrmw, nrmc, nrme, nrmo, nrml, nrmb, nrmx, Nat.reduceEqDiff, Nat.reduceBEq, Nat.zero_add, Nat.add_zero, Nat.mul_one, List.length_cons, List.length_nil, List.length_map, List.length_set, List.length_replicate, List.drop_zero, List.drop_succ_cons, List.drop_nil, List.take_zero, List.take_succ_cons, List.take_nil, Nat.le_refl, if_true, if_false, Option.any_none, Option.any_some, List.contains_nil, Bool.not_false, Bool.or_true, Bool.true_or, Bool.or_false, Bool.false_or, Bool.and_true, Bool.true_and, Bool.and_self, reduceCtorEq, beq_self_eq_true, List.map_cons, List.map_nil, List.append_nil, List.nil_append, List.contains_cons, List.filter_cons, List.filter_nil, List.cons_append, Bool.false_eq_true, true_and, and_true, List.getElem_toArray, List.getElem_cons_zero, List.getElem_cons_succ, Nat.reduceAdd, Nat.reduceMul, Nat.reduceLT, Nat.reduceSub, Nat.reduceLeDiff, ← zq3_0]
  refine g_nil (hK _ _ _ (by kernel_rfl) ?_)
  refine k_seq ?_
  refine w_seq ?_
  refine wD fun K hK => ?_
  refine g_lda rfl rfl ag26 sz26 rfl rfl (Nat.le_of_ble_eq_true rfl) (gT ?_)
  obtain ⟨q4, hq4, H⟩ := bnd H
  refine g_cs [] rfl rfl (by rfl) Tryd.func23 rfl (by decide) (word_Make.does hq4) ⟨Nat.le_of_ble_eq_true rfl, Nat.le_of_ble_eq_true rfl⟩ ?_; refine gC ?_
  obtain ⟨q5, hq5, H⟩ := bnd H
  have zq5_0 := mat_Matrix_Set.len hq5
  (try simp only [List.length_set, List.length_replicate, List.length_append, List.length_cons, List.length_nil, Nat.zero_add] at zq5_0)
  refine g_cs [4] rfl rfl (by rfl) Tryd.func22 rfl (by decide) (mat_Matrix_Set.does hq5) ⟨Nat.le_of_ble_eq_true rfl, Nat.le_of_ble_eq_true rfl⟩ ?_; simp only [nrm, nrmw, nrmc, nrme, nrmo, nrml, nrmb, nrmx, Nat.reduceEqDiff, Nat.reduceBEq, Nat.zero_add, Nat.add_zero, Nat.mul_one, List.length_cons, List.length_nil, List.length_map, List.length_set, List.length_replicate, List.drop_zero, List.drop_succ_cons, List.drop_nil, List.take_zero, List.take_succ_cons, List.take_nil, Nat.le_refl, if_true, if_false, Option.any_none, Option.any_some, List.contains_nil, Bool.not_false, Bool.or_true, Bool.true_or, Bool.or_false, Bool.false_or, Bool.and_true, Bool.true_and, Bool.and_self, reduceCtorEq, beq_self_eq_true, List.map_cons, List.map_nil, List.append_nil, List.nil_append, List.contains_cons, List.filter_cons, List.filter_nil, List.cons_append, Bool.false_eq_true, true_and, and_true, List.getElem_toArray, List.getElem_cons_zero, List.getElem_cons_succ, Nat.reduceAdd, Nat.reduceMul, Nat.reduceLT, Nat.reduceSub, Nat.reduceLeDiff, ← zq5_0]
  refine g_nil (hK _ _ _ (by kernel_rfl) ?_)
  refine k_seq ?_
  refine w_seq ?_
  refine wR fun K hK => ?_
  refine g_lda rfl rfl ag26 sz26 rfl rfl (Nat.le_of_ble_eq_true rfl) (gT ?_)
  obtain ⟨q6, hq6, H⟩ := bnd H
  refine g_cs [] rfl rfl (by rfl) Tryd.func8 rfl (by decide) (bal_Of.does hq6) ⟨Nat.le_of_ble_eq_true rfl, Nat.le_of_ble_eq_true rfl⟩ ?_; refine gC ?_
  refine g_mv rfl rfl (gT ?_)
  refine g_ext rfl rfl rfl (Nat.le_of_ble_eq_true rfl) (gT ?_)
  refine g_ext rfl rfl rfl (Nat.le_of_ble_eq_true rfl) (gT ?_)
  refine g_ext rfl rfl rfl (Nat.le_of_ble_eq_true rfl) (gT ?_)
  refine g_alloc rfl rfl zr26 (gU ?_)
  refine g_alloc rfl rfl zr31 (gU ?_)
  refine g_st rfl rfl sz26 rfl rfl rfl (by rfl) (Nat.le_of_ble_eq_true rfl) (gU ?_)
  refine g_st rfl rfl sz31 rfl rfl rfl (by rfl) (Nat.le_of_ble_eq_true rfl) (gU ?_)
  refine g_as rfl rfl (gT ?_)
  refine g_nil (hK _ _ _ ?_)
  refine k_seq ?_
  refine w_seq ?_
  refine w_seq ?_
  refine wR fun K hK => ?_
  refine g_mv rfl rfl (gT ?_)
  refine g_bin rfl rfl rfl rfl rfl (gT ?_)
  refine g_mv rfl rfl (gT ?_)
  rcases its H with ⟨c7, H⟩ | ⟨c7, H⟩
  · have c7b := beq_iff_eq.mpr c7; have c7n := bne_eq_false_iff_eq.mpr c7; try simp only [c7b, c7n, nrm]
    refine g_fd rfl rfl fa31_1 rfl (gT ?_)
    refine g_ldc rfl rfl ag29 sz29 rfl rfl rfl (gT ?_)
    refine g_len_s rfl rfl Tryd.underlying29 rfl (gT ?_)
    refine g_bin rfl rfl rfl rfl rfl (gT ?_)
    refine g_pick rfl rfl rfl (gT ?_)
    refine g_mv rfl rfl (gT ?_)
    rcases its H with ⟨c8, H⟩ | ⟨c8, H⟩
    · have c8b := beq_iff_eq.mpr c8; have c8n := bne_eq_false_iff_eq.mpr c8; try simp only [c8b, c8n, nrm]
      refine g_fd rfl rfl fa31_0 rfl (gT ?_)
      refine g_ldc rfl rfl ag29 sz29 rfl rfl rfl (gT ?_)
      refine g_len_s rfl rfl Tryd.underlying29 rfl (gT ?_)
      refine g_bin rfl rfl rfl rfl rfl (gT ?_)
      refine g_pick rfl rfl rfl (gT ?_)
      refine g_nil (hK _ _ _ ?_)
      refine k_wk (σ := [68, 45, 46]) [3, 27] rfl (by decide) rfl ?_; refine gC ?_
      exact gI (ih0 ((q6.2.2.2.2.1.length : Int) != 2) q6.2.2.2.2.2.2.1 q6.2.2.2.2.2.2.2.1 q6.2.2.2.2.1 q6.2.2.2.2.2.1 r H)
    · have c8b := beq_eq_false_iff_ne.mpr c8; have c8n := bne_iff_ne.mpr c8; try simp only [c8b, c8n, nrm]
      refine g_sk rfl rfl (gT ?_)
      refine g_sk rfl rfl (gT ?_)
      refine g_sk rfl rfl (gT ?_)
      refine g_sk rfl rfl (gT ?_)
      refine g_pick rfl rfl rfl (gT ?_)
      refine g_nil (hK _ _ _ ?_)
      refine k_wk (σ := [68, 45, 46]) [3, 27] rfl (by decide) rfl ?_; refine gC ?_
      exact gI (ih0 true q6.2.2.2.2.2.2.1 q6.2.2.2.2.2.2.2.1 q6.2.2.2.2.1 q6.2.2.2.2.2.1 r H)
  · have c7b := beq_eq_false_iff_ne.mpr c7; have c7n := bne_iff_ne.mpr c7; try simp only [c7b, c7n, nrm]
    refine g_sk rfl rfl (gT ?_)
    refine g_sk rfl rfl (gT ?_)
    refine g_sk rfl rfl (gT ?_)
    refine g_sk rfl rfl (gT ?_)
    refine g_pick rfl rfl rfl (gT ?_)
    refine g_mv rfl rfl (gT ?_)
    refine g_sk rfl rfl (gT ?_)
    refine g_sk rfl rfl (gT ?_)
    refine g_sk rfl rfl (gT ?_)
    refine g_sk rfl rfl (gT ?_)
    refine g_pick rfl rfl rfl (gT ?_)
    refine g_nil (hK _ _ _ ?_)
    refine k_wk (σ := [68, 45, 46]) [3, 27] rfl (by decide) rfl ?_; refine gC ?_
    exact gI (ih0 true q6.2.2.2.2.2.2.1 q6.2.2.2.2.2.2.2.1 q6.2.2.2.2.1 q6.2.2.2.2.2.1 r H)

theorem gimballaw16_head_ok.does {r : Unit} (H : gimballaw16_head_ok.f = some r) : Do E0 (.fn 5 [] [] (.b true) []) := (gimballaw16_head.does (k := 200) (r := true) (by kernel_rfl))

set_option maxHeartbeats 8000000 in
set_option maxRecDepth 100000 in
theorem gimballaw16_made.does_l {a0 : Int} {l1 : List Int} {a2 : Int} (k : Nat) : (∀ (all_1 : List Int) (holes_2 : Int) (t_14 : Int) (t_15 : Int) (h0_0 : Int) (h1_0 : Int) (h1_1 : Int) (h1_2 : Int) (h2 : List Int) (r : Int × Int × Int × (List Int)), gimballaw16_made.l0 k all_1 holes_2 t_14 t_15 h1_0 h1_1 h1_2 h2 = some r → wk_ E0 (gimballaw16_made.Q a0 l1 a2 r) (frs (bodyOf Tryd.f6) [1, 1, 0, 1, 0] []) (sub (bodyOf Tryd.f6) [1, 1, 0, 1, 0]) ⟨[.u, .r (all_1.map (V.i .u64)) all_1.length true, .i .u64 holes_2, .u, .u, .u, .p (some (0, 0)), .p (some (1, 0)), .u, .u, .u, .u, .u, .u, .i .i64 t_14, .i .i64 t_15, .u, .u, .u, .u, .u, .u, .u, .u, .u, .u, .u, .u, .u, .u, .u, .u, .u, .u, .u, .u, .u, .u, .u, .u, .u, .u, .u], ofL [.row [.i .i64 h0_0, .i .i64 h0_0, .i .i64 h0_0, .s none 0] 0 0 true true none, .row [.i .i64 h1_0, .i .i64 h1_1, .i .i64 h1_2, .s (some (2, 0)) h2.length] 0 0 true true none, .row (h2.map (V.i .u64)) 2 1 true true none], 3, 0⟩) := by
  induction k with
  | zero => exact fun _ _ _ _ _ _ _ _ _ r h => by simp [gimballaw16_made.l0] at h
  | succ k ih =>
    have ih0 := ih
    refine ?_
    · intro all_1 holes_2 t_14 t_15 h0_0 h1_0 h1_1 h1_2 h2 r H
      unfold gimballaw16_made.l0 at H
      simp only [bodyOf, Tryd.f6, frs, sub, if_true, if_false, Nat.one_ne_zero]
      refine w_loop ?_
      refine w_seq ?_
      refine wR fun K hK => ?_
      refine g_bin rfl rfl rfl rfl rfl (gT ?_)
      refine g_nil (hK _ _ _ ?_)
      refine k_seq ?_
      refine w_seq ?_
      rcases its H with ⟨c2, H⟩ | ⟨c2, H⟩
      · have c2b := decide_eq_true c2; try simp only [c2b, nrm]
        refine w_cond rfl (fun _ => ?_) (fun h => Bool.noConfusion h)
        refine w_skip ?_
        refine k_seq ?_
        refine w_seq ?_
        refine w_block ?_
        refine w_seq ?_
        refine wR fun K hK => ?_
        refine g_mv rfl rfl (gT ?_)
        refine g_as rfl rfl (gT ?_)
        refine g_nil (hK _ _ _ ?_)
        refine k_seq ?_
        refine w_seq ?_
        refine wR fun K hK => ?_
        refine g_mv rfl rfl (gT ?_)
        refine g_len_r rfl rfl Tryd.underlying22 rfl (gT ?_)
        refine g_bin rfl rfl rfl rfl rfl (gT ?_)
        refine g_mv rfl rfl (gT ?_)
        rcases its H with ⟨c3, H⟩ | ⟨c3, H⟩
        · have c3b := decide_eq_true c3; try simp only [c3b, nrm]
          refine g_mv rfl rfl (gT ?_)
          refine g_mv rfl rfl (gT ?_)
          refine g_bin rfl rfl rfl rfl rfl (gT ?_)
          refine g_conv rfl rfl Tryd.underlying3 Tryd.underlying56 rfl (gT ?_)
          obtain ⟨c4, H⟩ := it1 H
          refine g_shr rfl rfl rfl rfl (by omega) (gT ?_)
          refine g_bin rfl rfl rfl rfl rfl (gT ?_)
          refine g_bin rfl rfl rfl rfl rfl (gT ?_)
          refine g_pick rfl rfl rfl (gT ?_)
          refine g_nil (hK _ _ _ ?_)
          refine k_seq ?_
          rcases its H with ⟨c5, H⟩ | ⟨c5, H⟩
          · have c5b := beq_iff_eq.mpr c5; have c5n := bne_eq_false_iff_eq.mpr c5; try simp only [c5b, c5n, nrm]
            refine w_cond rfl (fun _ => ?_) (fun h => Bool.noConfusion h)
            refine wD fun K hK => ?_
            refine g_fd rfl rfl fa26_3 rfl (gT ?_)
            refine g_ldc rfl rfl ag22 sz22 rfl rfl rfl (gT ?_)
            refine g_mv rfl rfl (gT ?_)
            refine g_mv rfl rfl (gT ?_)
            refine g_mv rfl rfl (gT ?_)
            refine g_mv rfl rfl (gT ?_)
            refine g_len_r rfl rfl Tryd.underlying22 rfl (gT ?_)
            obtain ⟨c6, H⟩ := it0 H
            refine g_rem rfl rfl rfl rfl (by first | assumption | omega) (gT ?_)
            obtain ⟨c7, H⟩ := it1 H
            obtain ⟨c8, H⟩ := it1 H
            refine g_ixr rfl rfl Tryd.underlying22 sz23 rfl rfl (by first | assumption | omega) (by first | assumption | omega | (simp only [List.length_set, List.length_replicate] at *; omega)) (gT ?_)
            refine g_ldq rfl rfl ag23 sz23 rfl (by first | assumption | omega) (gT ?_)
            obtain ⟨c9, H⟩ := it1 H
            obtain ⟨c10, H⟩ := it1 H
            refine g_ixo rfl rfl Tryd.underlying22 sz23 rfl rfl (by first | assumption | omega) (by first | assumption | omega | (simp only [List.length_set, List.length_replicate] at *; omega)) (gT ?_)
            refine g_st rfl rfl sz23 rfl rfl rfl (by rfl) (by simp only [List.length_map, List.length_set, List.length_replicate]; first | assumption | omega) (gU ?_)
            refine g_nil (hK _ _ _ (by kernel_rfl) ?_)
            refine k_block ?_
            refine k_seq ?_
            refine wR fun K hK => ?_
            refine g_bin rfl rfl rfl rfl rfl (gT ?_)
            refine g_mv rfl rfl (gT ?_)
            refine g_nil (hK _ _ _ ?_)
            refine k_loop ?_
            refine w_wk (σ := [0, 1, 2]) [1, 0, 3, 0, 6, 0] rfl (by decide) ?_; refine gC ?_
            exact gI (ih0 all_1 holes_2 t_14 (wrap64 (t_15 + 1)) h0_0 h1_0 h1_1 h1_2 (h2.set t_15.toNat (rd all_1 (Int.tmod t_15 (all_1.length : Int)))) r H)
          · have c5b := beq_eq_false_iff_ne.mpr c5; have c5n := bne_iff_ne.mpr c5; try simp only [c5b, c5n, nrm]
            refine w_cond rfl (fun h => Bool.noConfusion h) (fun _ => ?_)
            refine w_skip ?_
            refine k_block ?_
            refine k_seq ?_
            refine wR fun K hK => ?_
            refine g_bin rfl rfl rfl rfl rfl (gT ?_)
            refine g_mv rfl rfl (gT ?_)
            refine g_nil (hK _ _ _ ?_)
            refine k_loop ?_
            refine w_wk (σ := [0, 1, 2]) [1, 0, 3, 0, 6, 0] rfl (by decide) ?_; refine gC ?_
            exact gI (ih0 all_1 holes_2 t_14 (wrap64 (t_15 + 1)) h0_0 h1_0 h1_1 h1_2 h2 r H)
        · have c3b := decide_eq_false c3; try simp only [c3b, nrm]
          refine g_sk rfl rfl (gT ?_)
          refine g_sk rfl rfl (gT ?_)
          refine g_sk rfl rfl (gT ?_)
          refine g_sk rfl rfl (gT ?_)
          refine g_sk rfl rfl (gT ?_)
          refine g_sk rfl rfl (gT ?_)
          refine g_sk rfl rfl (gT ?_)
          refine g_pick rfl rfl rfl (gT ?_)
          refine g_nil (hK _ _ _ ?_)
          refine k_seq ?_
          refine w_cond rfl (fun h => Bool.noConfusion h) (fun _ => ?_)
          refine w_skip ?_
          refine k_block ?_
          refine k_seq ?_
          refine wR fun K hK => ?_
          refine g_bin rfl rfl rfl rfl rfl (gT ?_)
          refine g_mv rfl rfl (gT ?_)
          refine g_nil (hK _ _ _ ?_)
          refine k_loop ?_
          refine w_wk (σ := [0, 1, 2]) [1, 0, 3, 0, 6, 0] rfl (by decide) ?_; refine gC ?_
          exact gI (ih0 all_1 holes_2 t_14 (wrap64 (t_15 + 1)) h0_0 h1_0 h1_1 h1_2 h2 r H)
      · have c2b := decide_eq_false c2; try simp only [c2b, nrm]
        refine w_cond rfl (fun h => Bool.noConfusion h) (fun _ => ?_)
        refine w_exit rfl ?_
        refine k_seq ?_
        refine w_seq ?_
        refine wR fun K hK => ?_
        refine g_lda rfl rfl ag26 sz26 rfl rfl (Nat.le_of_ble_eq_true rfl) (gT ?_)
        refine g_st rfl rfl sz26 rfl rfl rfl (by rfl) (Nat.le_of_ble_eq_true rfl) (gU ?_)
        refine g_nil (hK _ _ _ ?_)
        refine k_seq ?_
        refine w_ret ?_
        refine fin_wp (τ := [2]) rfl (by decide) ?_; rw [← Option.some.inj H]; simp only [Tryd.f6, ag26, sz26, nrm, nrmw, nrmc, nrme, nrmo, nrml, nrmb, nrmx, Nat.reduceEqDiff, Nat.reduceBEq, Nat.zero_add, Nat.add_zero, Nat.mul_one, List.length_cons, List.length_nil, List.length_map, List.length_set, List.length_replicate, List.drop_zero, List.drop_succ_cons, List.drop_nil, List.take_zero, List.take_succ_cons, List.take_nil, Nat.le_refl, if_true, if_false, Option.any_none, Option.any_some, List.contains_nil, Bool.not_false, Bool.or_true, Bool.true_or, Bool.or_false, Bool.false_or, Bool.and_true, Bool.true_and, Bool.and_self, reduceCtorEq, beq_self_eq_true, List.map_cons, List.map_nil, List.append_nil, List.nil_append, List.contains_cons, List.filter_cons, List.filter_nil, List.cons_append, Bool.false_eq_true, true_and, and_true, List.getElem_toArray, List.getElem_cons_zero, List.getElem_cons_succ, Nat.reduceAdd, Nat.reduceMul, Nat.reduceLT, Nat.reduceSub, Nat.reduceLeDiff]; try (first | rfl | exact ⟨rfl, trivial⟩ | exact ⟨rfl, rfl⟩)
set_option maxHeartbeats 8000000 in
set_option maxRecDepth 100000 in
theorem gimballaw16_made.does {k : Nat} {a0 : Int} {l1 : List Int} {a2 : Int} {r : Int × Int × Int × (List Int)} (H : gimballaw16_made.f k a0 l1 a2 = some r) : Do E0 (.fn 6 [.i .i64 a0, .r (l1.map (V.i .u64)) l1.length true, .i .u64 a2] [] (.a [.i .i64 r.1, .i .i64 r.2.1, .i .i64 r.2.2.1, .s (some (0, 0)) r.2.2.2.length]) [.row (r.2.2.2.map (V.i .u64)) 2 1 true true none]) := by
  obtain ih0 := gimballaw16_made.does_l (a0 := a0) (l1 := l1) (a2 := a2) k
  refine fn_wpl Tryd.func6 rfl (Q := (gimballaw16_made.Q a0 l1 a2 r)) (fun s h => h) ?_
  unfold gimballaw16_made.f at H
  simp only [Tryd.ntmps6, List.length, List.replicate, Nat.reduceAdd, Nat.reduceSub, List.cons_append, List.nil_append]
  refine w_seq ?_
  refine wR fun K hK => ?_
  refine g_alloc rfl rfl zr26 (gU ?_)
  refine g_nil (hK _ _ _ ?_)
  refine k_seq ?_
  refine w_seq ?_
  refine wR fun K hK => ?_
  refine g_mv rfl rfl (gT ?_)
  refine g_mv rfl rfl (gT ?_)
  obtain ⟨q1, hq1, H⟩ := bnd H
  refine g_cs [] rfl rfl (by rfl) Tryd.func18 rfl (by decide) (mat_New.does hq1) ⟨Nat.le_of_ble_eq_true rfl, Nat.le_of_ble_eq_true rfl⟩ ?_; refine gC ?_
  refine g_alloc rfl rfl zr26 (gU ?_)
  refine g_st rfl rfl sz26 rfl rfl rfl (by rfl) (Nat.le_of_ble_eq_true rfl) (gU ?_)
  refine g_nil (hK _ _ _ ?_)
  refine k_seq ?_
  refine w_seq ?_
  refine w_seq ?_
  refine wR fun K hK => ?_
  refine g_fd rfl rfl fa26_3 rfl (gT ?_)
  refine g_ldc rfl rfl ag22 sz22 rfl rfl rfl (gT ?_)
  refine g_len_s rfl rfl Tryd.underlying22 rfl (gT ?_)
  refine g_mv rfl rfl (gT ?_)
  refine g_nil (hK _ _ _ ?_)
  refine k_seq ?_
  refine w_block ?_
  refine w_wk (σ := [0, 16, 12]) [1, 0, 3, 0, 6, 0] rfl (by decide) ?_; refine gC ?_
  exact gI (ih0 l1 a2 (q1.2.2.2.length : Int) 0 0 q1.1 q1.2.1 q1.2.2.1 q1.2.2.2 r H)

set_option maxHeartbeats 8000000 in
set_option maxRecDepth 100000 in
theorem bits_TrailingZeros32.does {a0 : Int} {r : Int} (H : bits_TrailingZeros32.f a0 = some r) : Do E0 (.fn 40 [.i .u32 a0] [] (.i .i64 r) []) := by
  refine fn_wpl Tryd.func40 rfl (Q := (bits_TrailingZeros32.Q a0 r)) (fun s h => h) ?_
  unfold bits_TrailingZeros32.f at H
  simp only [Tryd.ntmps40, List.length, List.replicate, Nat.reduceAdd, Nat.reduceSub, List.cons_append, List.nil_append]
  refine w_seq ?_
  refine wR fun K hK => ?_
  refine g_as rfl rfl (gT ?_)
  refine g_nil (hK _ _ _ ?_)
  refine k_seq ?_
  refine w_seq ?_
  refine w_seq ?_
  refine wR fun K hK => ?_
  refine g_mv rfl rfl (gT ?_)
  refine g_bin rfl rfl rfl rfl rfl (gT ?_)
  refine g_nil (hK _ _ _ ?_)
  refine k_seq ?_
  rcases its H with ⟨c1, H⟩ | ⟨c1, H⟩
  · have c1b := beq_iff_eq.mpr c1; have c1n := bne_eq_false_iff_eq.mpr c1; try simp only [c1b, c1n, nrm]
    refine w_cond rfl (fun _ => ?_) (fun h => Bool.noConfusion h)
    refine w_seq ?_
    refine wR fun K hK => ?_
    refine g_as rfl rfl (gT ?_)
    refine g_nil (hK _ _ _ ?_)
    refine k_seq ?_
    refine w_ret ?_
    refine fin_wp (τ := []) rfl (by decide) ?_; rw [← Option.some.inj H]; simp only [Tryd.f40]; exact gF
  · have c1b := beq_eq_false_iff_ne.mpr c1; have c1n := bne_iff_ne.mpr c1; try simp only [c1b, c1n, nrm]
    refine w_cond rfl (fun h => Bool.noConfusion h) (fun _ => ?_)
    refine w_skip ?_
    refine k_seq ?_
    refine w_seq ?_
    refine wR fun K hK => ?_
    refine g_mv rfl rfl (gT ?_)
    refine g_mv rfl rfl (gT ?_)
    refine g_un rfl rfl rfl rfl (gT ?_)
    refine g_bin rfl rfl rfl rfl rfl (gT ?_)
    refine g_bin rfl rfl rfl rfl rfl (gT ?_)
    refine g_shrc (p := 134217728) rfl rfl rfl rfl (by decide) (by rfl) (gT ?_)
    obtain ⟨c2, H⟩ := it1 H
    obtain ⟨c3, H⟩ := it1 H
    refine g_ixg (l := List.map (V.i .u8) tab32) rfl rfl Tryd.underlying88 sz5 rfl rfl (by first | assumption | omega) (by first | assumption | omega | (simp only [List.length_set, List.length_replicate] at *; omega)) (gT ?_)
    refine g_ldq rfl rfl ag5 sz5 rfl (by first | assumption | omega | (show _ < 32; omega)) (gT ?_)
    refine g_conv rfl rfl Tryd.underlying5 Tryd.underlying3 rfl (gT ?_)
    refine g_as rfl rfl (gT ?_)
    refine g_nil (hK _ _ _ ?_)
    refine k_seq ?_
    refine w_ret ?_
    refine fin_wp (τ := []) rfl (by decide) ?_; rw [← Option.some.inj H]; simp only [Tryd.f40]; exact gF

set_option maxHeartbeats 8000000 in
set_option maxRecDepth 100000 in
theorem dyad_down.does_l {l0 : List Int} {a1 : Int} (k : Nat) : (∀ (m_0 : List Int) (s_1 : Int) (h0 : List Int) (t_12 : Int) (t_13 : Int) (r : (List Int)), dyad_down.l0 k m_0 s_1 h0 t_12 t_13 = some r → wk_ E0 (dyad_down.Q l0 a1 r) (frs (bodyOf Tryd.f41) [1, 1, 0, 1, 0] []) (sub (bodyOf Tryd.f41) [1, 1, 0, 1, 0]) ⟨[.r (m_0.map (V.i .u32)) m_0.length true, .i .i64 s_1, .u, .u, .u, .s (some (0, 0)) h0.length, .u, .u, .u, .u, .u, .u, .i .i64 t_12, .i .i64 t_13, .u, .u, .u, .u, .u, .u, .u, .u, .u, .u, .u, .u, .u, .u, .u, .u, .u, .u, .u, .u, .u, .u, .u, .u, .u, .u, .u, .u, .u, .u, .u, .u, .u, .u, .u, .u, .u, .u, .u, .u, .u, .u, .u, .u, .u, .u, .u, .u, .u, .u], ofL [.row (h0.map (V.i .u32)) 2 1 true true none], 1, 0⟩) := by
  induction k with
  | zero => exact fun _ _ _ _ _ r h => by simp [dyad_down.l0] at h
  | succ k ih =>
    have ih0 := ih
    refine ?_
    · intro m_0 s_1 h0 t_12 t_13 r H
      unfold dyad_down.l0 at H
      simp only [bodyOf, Tryd.f41, frs, sub, if_true, if_false, Nat.one_ne_zero]
      refine w_loop ?_
      refine w_seq ?_
      refine wR fun K hK => ?_
      refine g_bin rfl rfl rfl rfl rfl (gT ?_)
      refine g_nil (hK _ _ _ ?_)
      refine k_seq ?_
      refine w_seq ?_
      rcases its H with ⟨c3, H⟩ | ⟨c3, H⟩
      · have c3b := decide_eq_true c3; try simp only [c3b, nrm]
        refine w_cond rfl (fun _ => ?_) (fun h => Bool.noConfusion h)
        refine w_skip ?_
        refine k_seq ?_
        refine w_seq ?_
        refine w_block ?_
        refine w_seq ?_
        refine wR fun K hK => ?_
        refine g_mv rfl rfl (gT ?_)
        refine g_as rfl rfl (gT ?_)
        refine g_nil (hK _ _ _ ?_)
        refine k_seq ?_
        refine w_seq ?_
        refine wR fun K hK => ?_
        refine g_mv rfl rfl (gT ?_)
        refine g_mv rfl rfl (gT ?_)
        refine g_mv rfl rfl (gT ?_)
        refine g_mv rfl rfl (gT ?_)
        obtain ⟨c4, H⟩ := it1 H
        obtain ⟨c5, H⟩ := it1 H
        refine g_ixr rfl rfl Tryd.underlying37 sz67 rfl rfl (by first | assumption | omega) (by first | assumption | omega | (simp only [List.length_set, List.length_replicate] at *; omega)) (gT ?_)
        refine g_ldq rfl rfl ag67 sz67 rfl (by first | assumption | omega) (gT ?_)
        refine g_mv rfl rfl (gT ?_)
        obtain ⟨c6, H⟩ := it1 H
        refine g_shr rfl rfl rfl rfl (by omega) (gT ?_)
        obtain ⟨c7, H⟩ := it1 H
        refine g_ixo rfl rfl Tryd.underlying37 sz67 rfl rfl (by first | assumption | omega) (by first | assumption | omega | (simp only [List.length_set, List.length_replicate] at *; omega)) (gT ?_)
        refine g_st rfl rfl sz67 rfl rfl rfl (by rfl) (by simp only [List.length_map, List.length_set, List.length_replicate]; first | assumption | omega) (gU ?_)
        refine g_nil (hK _ _ _ ?_)
        refine k_seq ?_
        refine w_seq ?_
        refine wR fun K hK => ?_
        refine g_mv rfl rfl (gT ?_)
        refine g_bin rfl rfl rfl rfl rfl (gT ?_)
        refine g_mv rfl rfl (gT ?_)
        refine g_len_r rfl rfl Tryd.underlying37 rfl (gT ?_)
        refine g_bin rfl rfl rfl rfl rfl (gT ?_)
        refine g_nil (hK _ _ _ ?_)
        refine k_seq ?_
        rcases its H with ⟨c8, H⟩ | ⟨c8, H⟩
        · have c8b := decide_eq_true c8; try simp only [c8b, nrm]
          refine w_cond rfl (fun _ => ?_) (fun h => Bool.noConfusion h)
          refine wD fun K hK => ?_
          refine g_mv rfl rfl (gT ?_)
          refine g_mv rfl rfl (gT ?_)
          refine g_ixo rfl rfl Tryd.underlying37 sz67 rfl rfl (by first | assumption | omega) (by first | assumption | omega | (simp only [List.length_set, List.length_replicate] at *; omega)) (gT ?_)
          refine g_ldo rfl rfl ag67 sz67 rfl rfl (by first | assumption | omega | (simp only [List.length_set, List.length_replicate] at *; omega)) (gT ?_)
          refine g_mv rfl rfl (gT ?_)
          refine g_mv rfl rfl (gT ?_)
          refine g_bin rfl rfl rfl rfl rfl (gT ?_)
          obtain ⟨c9, H⟩ := it1 H
          refine g_ixr rfl rfl Tryd.underlying37 sz67 rfl rfl (by first | assumption | omega) (by first | assumption | omega | (simp only [List.length_set, List.length_replicate] at *; omega)) (gT ?_)
          refine g_ldq rfl rfl ag67 sz67 rfl (by first | assumption | omega) (gT ?_)
          refine g_mv rfl rfl (gT ?_)
          refine g_bin rfl rfl rfl rfl rfl (gT ?_)
          obtain ⟨c10, H⟩ := it1 H
          refine g_shl rfl rfl rfl rfl (by omega) (gT ?_)
          refine g_bin rfl rfl rfl rfl rfl (gT ?_)
          refine g_ixo rfl rfl Tryd.underlying37 sz67 rfl rfl (by first | assumption | omega) (by first | assumption | omega | (simp only [List.length_set, List.length_replicate] at *; omega)) (gT ?_)
          refine g_st rfl rfl sz67 rfl rfl rfl (by rfl) (by simp only [List.length_map, List.length_set, List.length_replicate]; first | assumption | omega) (gU ?_)
          refine g_nil (hK _ _ _ (by kernel_rfl) ?_)
          refine k_block ?_
          refine k_seq ?_
          refine wR fun K hK => ?_
          refine g_bin rfl rfl rfl rfl rfl (gT ?_)
          refine g_mv rfl rfl (gT ?_)
          refine g_nil (hK _ _ _ ?_)
          refine k_loop ?_
          refine w_wk (σ := [0]) [0, 0, 3, 6, 0] rfl (by decide) ?_; refine gC ?_
          exact gI (ih0 m_0 s_1 ((h0.set t_13.toNat (shr .u32 (rd m_0 t_13) s_1)).set t_13.toNat (Go.bits .or .u32 (rd (h0.set t_13.toNat (shr .u32 (rd m_0 t_13) s_1)) t_13) (shl .u32 (rd m_0 (wrap64 (t_13 + 1))) (wrap64 (32 - s_1))))) t_12 (wrap64 (t_13 + 1)) r H)
        · have c8b := decide_eq_false c8; try simp only [c8b, nrm]
          refine w_cond rfl (fun h => Bool.noConfusion h) (fun _ => ?_)
          refine w_skip ?_
          refine k_block ?_
          refine k_seq ?_
          refine wR fun K hK => ?_
          refine g_bin rfl rfl rfl rfl rfl (gT ?_)
          refine g_mv rfl rfl (gT ?_)
          refine g_nil (hK _ _ _ ?_)
          refine k_loop ?_
          refine w_wk (σ := [0]) [0, 0, 3, 6, 0] rfl (by decide) ?_; refine gC ?_
          exact gI (ih0 m_0 s_1 (h0.set t_13.toNat (shr .u32 (rd m_0 t_13) s_1)) t_12 (wrap64 (t_13 + 1)) r H)
      · have c3b := decide_eq_false c3; try simp only [c3b, nrm]
        refine w_cond rfl (fun h => Bool.noConfusion h) (fun _ => ?_)
        refine w_exit rfl ?_
        refine k_seq ?_
        refine w_seq ?_
        refine w_seq ?_
        refine wR fun K hK => ?_
        refine g_mv rfl rfl (gT ?_)
        refine g_len_s rfl rfl Tryd.underlying37 rfl (gT ?_)
        refine g_as rfl rfl (gT ?_)
        refine g_nil (hK _ _ _ ?_)
        refine k_seq ?_
        refine w_seq ?_
        refine wR fun K hK => ?_
        refine g_mv rfl rfl (gT ?_)
        refine g_bin rfl rfl rfl rfl rfl (gT ?_)
        refine g_mv rfl rfl (gT ?_)
        rcases its H with ⟨c11, H⟩ | ⟨c11, H⟩
        · have c11b := decide_eq_true c11; try simp only [c11b, nrm]
          refine g_mv rfl rfl (gT ?_)
          refine g_mv rfl rfl (gT ?_)
          refine g_bin rfl rfl rfl rfl rfl (gT ?_)
          obtain ⟨c12, H⟩ := it1 H
          obtain ⟨c13, H⟩ := it1 H
          refine g_ixo rfl rfl Tryd.underlying37 sz67 rfl rfl (by first | assumption | omega) (by first | assumption | omega | (simp only [List.length_set, List.length_replicate] at *; omega)) (gT ?_)
          refine g_ldo rfl rfl ag67 sz67 rfl rfl (by first | assumption | omega | (simp only [List.length_set, List.length_replicate] at *; omega)) (gT ?_)
          refine g_bin rfl rfl rfl rfl rfl (gT ?_)
          refine g_pick rfl rfl rfl (gT ?_)
          refine g_nil (hK _ _ _ ?_)
          refine k_seq ?_
          rcases its H with ⟨c14, H⟩ | ⟨c14, H⟩
          · have c14b := beq_iff_eq.mpr c14; have c14n := bne_eq_false_iff_eq.mpr c14; try simp only [c14b, c14n, nrm]
            refine w_cond rfl (fun _ => ?_) (fun h => Bool.noConfusion h)
            refine wR fun K hK => ?_
            refine g_mv rfl rfl (gT ?_)
            refine g_mv rfl rfl (gT ?_)
            refine g_bin rfl rfl rfl rfl rfl (gT ?_)
            refine g_mv rfl rfl (gT ?_)
            refine g_bin rfl rfl rfl rfl rfl (gT ?_)
            obtain ⟨c15, H⟩ := it1 H
            obtain ⟨c16, H⟩ := it1 H
            refine g_csm rfl rfl Tryd.underlying37 sz67 rfl rfl rfl rfl (by first | assumption | omega) (by first | assumption | omega) (by first | assumption | omega) (gT ?_)
            refine g_as rfl rfl (gT ?_)
            refine g_nil (hK _ _ _ ?_)
            refine k_seq ?_
            refine w_seq ?_
            refine wR fun K hK => ?_
            refine g_mv rfl rfl (gT ?_)
            refine g_as rfl rfl (gT ?_)
            refine g_nil (hK _ _ _ ?_)
            refine k_seq ?_
            have tk0_ : (List.take (wrap64 ((h0.length : Int) - 1)).toNat h0).length = (wrap64 ((h0.length : Int) - 1)).toNat := by simp only [List.length_take, List.length_set, List.length_replicate, List.length_append]; omega
            refine w_ret ?_
            refine fin_wp (τ := []) rfl (by decide) ?_; rw [← Option.some.inj H]; simp only [Tryd.f41, tk0_]; exact gF
          · have c14b := beq_eq_false_iff_ne.mpr c14; have c14n := bne_iff_ne.mpr c14; try simp only [c14b, c14n, nrm]
            refine w_cond rfl (fun h => Bool.noConfusion h) (fun _ => ?_)
            refine w_skip ?_
            refine k_seq ?_
            refine w_seq ?_
            refine wR fun K hK => ?_
            refine g_mv rfl rfl (gT ?_)
            refine g_as rfl rfl (gT ?_)
            refine g_nil (hK _ _ _ ?_)
            refine k_seq ?_
            refine w_ret ?_
            refine fin_wp (τ := []) rfl (by decide) ?_; rw [← Option.some.inj H]; simp only [Tryd.f41]; exact gF
        · have c11b := decide_eq_false c11; try simp only [c11b, nrm]
          refine g_sk rfl rfl (gT ?_)
          refine g_sk rfl rfl (gT ?_)
          refine g_sk rfl rfl (gT ?_)
          refine g_sk rfl rfl (gT ?_)
          refine g_sk rfl rfl (gT ?_)
          refine g_sk rfl rfl (gT ?_)
          refine g_pick rfl rfl rfl (gT ?_)
          refine g_nil (hK _ _ _ ?_)
          refine k_seq ?_
          refine w_cond rfl (fun h => Bool.noConfusion h) (fun _ => ?_)
          refine w_skip ?_
          refine k_seq ?_
          refine w_seq ?_
          refine wR fun K hK => ?_
          refine g_mv rfl rfl (gT ?_)
          refine g_as rfl rfl (gT ?_)
          refine g_nil (hK _ _ _ ?_)
          refine k_seq ?_
          refine w_ret ?_
          refine fin_wp (τ := []) rfl (by decide) ?_; rw [← Option.some.inj H]; simp only [Tryd.f41]; exact gF
set_option maxHeartbeats 8000000 in
set_option maxRecDepth 100000 in
theorem dyad_down.does {k : Nat} {l0 : List Int} {a1 : Int} {r : (List Int)} (H : dyad_down.f k l0 a1 = some r) : Do E0 (.fn 41 [.r (l0.map (V.i .u32)) l0.length true, .i .i64 a1] [] (.r (r.map (V.i .u32)) r.length true) []) := by
  obtain ih0 := dyad_down.does_l (l0 := l0) (a1 := a1) k
  refine fn_wpl Tryd.func41 rfl (Q := (dyad_down.Q l0 a1 r)) (fun s h => h) ?_
  unfold dyad_down.f at H
  simp only [Tryd.ntmps41, List.length, List.replicate, Nat.reduceAdd, Nat.reduceSub, List.cons_append, List.nil_append]
  refine w_seq ?_
  refine wR fun K hK => ?_
  refine g_as rfl rfl (gT ?_)
  refine g_nil (hK _ _ _ ?_)
  refine k_seq ?_
  refine w_seq ?_
  refine wR fun K hK => ?_
  refine g_mv rfl rfl (gT ?_)
  refine g_len_r rfl rfl Tryd.underlying37 rfl (gT ?_)
  obtain ⟨c1, H⟩ := it1 H
  obtain ⟨c2, H⟩ := it1 H
  refine g_mk rfl rfl Tryd.underlying37 sz67 by67 zr67 rfl rfl rfl (by first | assumption | omega) (by omega) (by unfold limit; omega) (by omega) (gU ?_)
  refine g_as rfl rfl (gT ?_)
  refine g_nil (hK _ _ _ ?_)
  refine k_seq ?_
  refine w_seq ?_
  refine w_seq ?_
  refine wR fun K hK => ?_
  refine g_mv rfl rfl (gT ?_)
  refine g_len_r rfl rfl Tryd.underlying37 rfl (gT ?_)
  refine g_mv rfl rfl (gT ?_)
  refine g_nil (hK _ _ _ ?_)
  refine k_seq ?_
  refine w_block ?_
  refine w_wk (σ := [12]) [0, 0, 3, 6, 0] rfl (by decide) ?_; refine gC ?_
  exact gI (ih0 l0 a1 (List.replicate (l0.length : Int).toNat 0) (l0.length : Int) 0 r H)

set_option maxHeartbeats 8000000 in
set_option maxRecDepth 100000 in
theorem dyad_trim.does_l {a0 : Bool} {l1 : List Int} {a2 : Int} (k : Nat) : (∀ (neg_0 : Bool) (m_1 : List Int) (e_2 : Int) (n_7 : Int) (h0_1 : Int) (r : Bool × (List Int) × Int), dyad_trim.l0 k neg_0 m_1 e_2 n_7 = some r → wk_ E0 (dyad_trim.Q a0 l1 a2 r) (frs (bodyOf Tryd.f32) [1, 1, 0, 0] []) (sub (bodyOf Tryd.f32) [1, 1, 0, 0]) ⟨[.b neg_0, .r (m_1.map (V.i .u32)) m_1.length true, .i .i64 e_2, .u, .u, .u, .p (some (0, 0)), .i .i64 n_7, .u, .u, .u, .u, .u, .u, .u, .u, .u, .u, .u, .u, .u, .u, .u, .u, .u, .u, .u, .u, .u, .u, .u, .u, .u, .u, .u, .u, .u, .u, .u, .u, .u, .u, .u, .u, .u, .u, .u, .u, .u, .u, .u, .u, .u, .u, .u, .u, .u, .u, .u, .u], ofL [.row [.b false, .s none 0, .i .i64 h0_1] 0 0 true true none], 1, 0⟩) ∧
    (∀ (neg_0 : Bool) (m_1 : List Int) (e_2 : Int) (n_7 : Int) (h0_1 : Int) (r : Bool × (List Int) × Int), dyad_trim.j1 k neg_0 m_1 e_2 n_7 = some r → kont E0 (dyad_trim.Q a0 l1 a2 r) (frs (bodyOf Tryd.f32) [1, 1, 0] []) .normal ⟨[.b neg_0, .r (m_1.map (V.i .u32)) m_1.length true, .i .i64 e_2, .u, .u, .u, .p (some (0, 0)), .i .i64 n_7, .u, .u, .u, .u, .u, .u, .u, .u, .u, .u, .u, .u, .u, .u, .u, .u, .u, .u, .u, .u, .u, .u, .u, .u, .u, .u, .u, .u, .u, .u, .u, .u, .u, .u, .u, .u, .u, .u, .u, .u, .u, .u, .u, .u, .u, .u, .u, .u, .u, .u, .u, .u], ofL [.row [.b false, .s none 0, .i .i64 h0_1] 0 0 true true none], 1, 0⟩) ∧
    (∀ (neg_0 : Bool) (m_1 : List Int) (e_2 : Int) (k_8 : Int) (h0_1 : Int) (r : Bool × (List Int) × Int), dyad_trim.l1 k neg_0 m_1 e_2 k_8 = some r → wk_ E0 (dyad_trim.Q a0 l1 a2 r) (frs (bodyOf Tryd.f32) [1, 1, 1, 1, 1, 1, 0, 0] []) (sub (bodyOf Tryd.f32) [1, 1, 1, 1, 1, 1, 0, 0]) ⟨[.b neg_0, .r (m_1.map (V.i .u32)) m_1.length true, .i .i64 e_2, .u, .u, .u, .p (some (0, 0)), .u, .i .i64 k_8, .u, .u, .u, .u, .u, .u, .u, .u, .u, .u, .u, .u, .u, .u, .u, .u, .u, .u, .u, .u, .u, .u, .u, .u, .u, .u, .u, .u, .u, .u, .u, .u, .u, .u, .u, .u, .u, .u, .u, .u, .u, .u, .u, .u, .u, .u, .u, .u, .u, .u, .u], ofL [.row [.b false, .s none 0, .i .i64 h0_1] 0 0 true true none], 1, 0⟩) := by
  induction k with
  | zero => exact ⟨fun _ _ _ _ _ r h => by simp [dyad_trim.l0] at h, fun _ _ _ _ _ r h => by simp [dyad_trim.j1] at h, fun _ _ _ _ _ r h => by simp [dyad_trim.l1] at h⟩
  | succ k ih =>
    obtain ⟨ih0, ih1, ih2⟩ := ih
    refine ⟨?_, ?_, ?_⟩
    · intro neg_0 m_1 e_2 n_7 h0_1 r H
      unfold dyad_trim.l0 at H
      simp only [bodyOf, Tryd.f32, frs, sub, if_true, if_false, Nat.one_ne_zero]
      refine w_loop ?_
      refine w_seq ?_
      refine w_seq ?_
      refine wR fun K hK => ?_
      refine g_mv rfl rfl (gT ?_)
      refine g_bin rfl rfl rfl rfl rfl (gT ?_)
      refine g_mv rfl rfl (gT ?_)
      rcases its H with ⟨c1, H⟩ | ⟨c1, H⟩
      · have c1b := decide_eq_true c1; try simp only [c1b, nrm]
        refine g_mv rfl rfl (gT ?_)
        refine g_mv rfl rfl (gT ?_)
        refine g_bin rfl rfl rfl rfl rfl (gT ?_)
        obtain ⟨c2, H⟩ := it1 H
        obtain ⟨c3, H⟩ := it1 H
        refine g_ixr rfl rfl Tryd.underlying37 sz67 rfl rfl (by first | assumption | omega) (by first | assumption | omega | (simp only [List.length_set, List.length_replicate] at *; omega)) (gT ?_)
        refine g_ldq rfl rfl ag67 sz67 rfl (by first | assumption | omega) (gT ?_)
        refine g_bin rfl rfl rfl rfl rfl (gT ?_)
        refine g_pick rfl rfl rfl (gT ?_)
        refine g_nil (hK _ _ _ ?_)
        refine k_seq ?_
        rcases its H with ⟨c4, H⟩ | ⟨c4, H⟩
        · have c4b := beq_iff_eq.mpr c4; have c4n := bne_eq_false_iff_eq.mpr c4; try simp only [c4b, c4n, nrm]
          refine w_cond rfl (fun _ => ?_) (fun h => Bool.noConfusion h)
          refine w_skip ?_
          refine k_seq ?_
          refine w_block ?_
          refine wR fun K hK => ?_
          refine g_mv rfl rfl (gT ?_)
          refine g_bin rfl rfl rfl rfl rfl (gT ?_)
          refine g_as rfl rfl (gT ?_)
          refine g_nil (hK _ _ _ ?_)
          refine k_block ?_
          refine k_loop ?_
          refine w_wk (σ := [0]) [0, 0, 0, 3, 0] rfl (by decide) ?_; refine gC ?_
          exact gI (ih0 neg_0 m_1 e_2 (wrap64 (n_7 - 1)) h0_1 r H)
        · have c4b := beq_eq_false_iff_ne.mpr c4; have c4n := bne_iff_ne.mpr c4; try simp only [c4b, c4n, nrm]
          refine w_cond rfl (fun h => Bool.noConfusion h) (fun _ => ?_)
          refine w_exit rfl ?_
          refine k_wk (σ := [0]) [0, 0, 0, 3, 0] rfl (by decide) rfl ?_; refine gC ?_
          exact gI (ih1 neg_0 m_1 e_2 n_7 h0_1 r H)
      · have c1b := decide_eq_false c1; try simp only [c1b, nrm]
        refine g_sk rfl rfl (gT ?_)
        refine g_sk rfl rfl (gT ?_)
        refine g_sk rfl rfl (gT ?_)
        refine g_sk rfl rfl (gT ?_)
        refine g_sk rfl rfl (gT ?_)
        refine g_sk rfl rfl (gT ?_)
        refine g_pick rfl rfl rfl (gT ?_)
        refine g_nil (hK _ _ _ ?_)
        refine k_seq ?_
        refine w_cond rfl (fun h => Bool.noConfusion h) (fun _ => ?_)
        refine w_exit rfl ?_
        refine k_wk (σ := [0]) [0, 0, 0, 3, 0] rfl (by decide) rfl ?_; refine gC ?_
        exact gI (ih1 neg_0 m_1 e_2 n_7 h0_1 r H)
    · intro neg_0 m_1 e_2 n_7 h0_1 r H
      unfold dyad_trim.j1 at H
      simp only [bodyOf, Tryd.f32, frs, sub, if_true, if_false, Nat.one_ne_zero]
      refine k_seq ?_
      refine w_seq ?_
      refine wR fun K hK => ?_
      refine g_mv rfl rfl (gT ?_)
      refine g_mv rfl rfl (gT ?_)
      obtain ⟨c5, H⟩ := it1 H
      obtain ⟨c6, H⟩ := it1 H
      refine g_cth rfl rfl Tryd.underlying37 sz67 rfl rfl rfl (by first | assumption | omega) (by first | assumption | omega) (gT ?_)
      refine g_as rfl rfl (gT ?_)
      refine g_nil (hK _ _ _ ?_)
      refine k_seq ?_
      refine w_seq ?_
      refine w_seq ?_
      refine wR fun K hK => ?_
      refine g_mv rfl rfl (gT ?_)
      refine g_bin rfl rfl rfl rfl rfl (gT ?_)
      refine g_nil (hK _ _ _ ?_)
      refine k_seq ?_
      rcases its H with ⟨c7, H⟩ | ⟨c7, H⟩
      · have c7b := beq_iff_eq.mpr c7; have c7n := bne_eq_false_iff_eq.mpr c7; try simp only [c7b, c7n, nrm]
        refine w_cond rfl (fun _ => ?_) (fun h => Bool.noConfusion h)
        refine w_seq ?_
        refine wR fun K hK => ?_
        refine g_bd rfl rfl zr39 Tryd.underlying39 (pl := [(0, 1), (1, 1), (2, 1)]) (by kernel_rfl) ?_; refine gB ?_
        refine g_st rfl rfl sz39 rfl rfl rfl (by rfl) (Nat.le_of_ble_eq_true rfl) (gU ?_)
        refine g_nil (hK _ _ _ ?_)
        refine k_seq ?_
        refine w_ret ?_
        refine fin_wp (τ := []) rfl (by decide) ?_; rw [← Option.some.inj H]; simp only [Tryd.f32, ag39, sz39, nrm, nrmw, nrmc, nrme, nrmo, nrml, nrmb, nrmx, Nat.reduceEqDiff, Nat.reduceBEq, Nat.zero_add, Nat.add_zero, Nat.mul_one, List.length_cons, List.length_nil, List.length_map, List.length_set, List.length_replicate, List.drop_zero, List.drop_succ_cons, List.drop_nil, List.take_zero, List.take_succ_cons, List.take_nil, Nat.le_refl, if_true, if_false, Option.any_none, Option.any_some, List.contains_nil, Bool.not_false, Bool.or_true, Bool.true_or, Bool.or_false, Bool.false_or, Bool.and_true, Bool.true_and, Bool.and_self, reduceCtorEq, beq_self_eq_true, List.map_cons, List.map_nil, List.append_nil, List.nil_append, List.contains_cons, List.filter_cons, List.filter_nil, List.cons_append, Bool.false_eq_true, true_and, and_true, List.getElem_toArray, List.getElem_cons_zero, List.getElem_cons_succ, Nat.reduceAdd, Nat.reduceMul, Nat.reduceLT, Nat.reduceSub, Nat.reduceLeDiff]; try (first | rfl | exact ⟨rfl, trivial⟩ | exact ⟨rfl, rfl⟩)
      · have c7b := beq_eq_false_iff_ne.mpr c7; have c7n := bne_iff_ne.mpr c7; try simp only [c7b, c7n, nrm]
        refine w_cond rfl (fun h => Bool.noConfusion h) (fun _ => ?_)
        refine w_skip ?_
        refine k_seq ?_
        refine w_seq ?_
        refine wR fun K hK => ?_
        refine g_as rfl rfl (gT ?_)
        refine g_nil (hK _ _ _ ?_)
        refine k_seq ?_
        refine w_seq ?_
        refine w_block ?_
        refine w_wk (σ := [0]) [0, 0, 0, 3, 1] rfl (by decide) ?_; refine gC ?_
        exact gI (ih2 neg_0 (List.take n_7.toNat m_1) e_2 0 h0_1 r H)
    · intro neg_0 m_1 e_2 k_8 h0_1 r H
      unfold dyad_trim.l1 at H
      simp only [bodyOf, Tryd.f32, frs, sub, if_true, if_false, Nat.one_ne_zero]
      refine w_loop ?_
      refine w_seq ?_
      refine w_seq ?_
      refine wR fun K hK => ?_
      refine g_mv rfl rfl (gT ?_)
      refine g_mv rfl rfl (gT ?_)
      obtain ⟨c8, H⟩ := it1 H
      obtain ⟨c9, H⟩ := it1 H
      refine g_ixr rfl rfl Tryd.underlying37 sz67 rfl rfl (by first | assumption | omega) (by first | assumption | omega | (simp only [List.length_set, List.length_replicate] at *; omega)) (gT ?_)
      refine g_ldq rfl rfl ag67 sz67 rfl (by first | assumption | omega) (gT ?_)
      refine g_bin rfl rfl rfl rfl rfl (gT ?_)
      refine g_nil (hK _ _ _ ?_)
      refine k_seq ?_
      rcases its H with ⟨c10, H⟩ | ⟨c10, H⟩
      · have c10b := beq_iff_eq.mpr c10; have c10n := bne_eq_false_iff_eq.mpr c10; try simp only [c10b, c10n, nrm]
        refine w_cond rfl (fun _ => ?_) (fun h => Bool.noConfusion h)
        refine w_skip ?_
        refine k_seq ?_
        refine w_block ?_
        refine wR fun K hK => ?_
        refine g_mv rfl rfl (gT ?_)
        refine g_bin rfl rfl rfl rfl rfl (gT ?_)
        refine g_as rfl rfl (gT ?_)
        refine g_nil (hK _ _ _ ?_)
        refine k_block ?_
        refine k_loop ?_
        refine w_wk (σ := [0]) [0, 0, 0, 3, 1] rfl (by decide) ?_; refine gC ?_
        exact gI (ih2 neg_0 m_1 e_2 (wrap64 (k_8 + 1)) h0_1 r H)
      · have c10b := beq_eq_false_iff_ne.mpr c10; have c10n := bne_iff_ne.mpr c10; try simp only [c10b, c10n, nrm]
        refine w_cond rfl (fun h => Bool.noConfusion h) (fun _ => ?_)
        refine w_exit rfl ?_
        refine k_seq ?_
        refine w_seq ?_
        refine wR fun K hK => ?_
        refine g_mv rfl rfl (gT ?_)
        refine g_mv rfl rfl (gT ?_)
        obtain ⟨c11, H⟩ := it1 H
        refine g_ctl rfl rfl Tryd.underlying37 sz67 rfl rfl rfl (by first | assumption | omega) (by first | assumption | omega) (gT ?_)
        refine g_mv rfl rfl (gT ?_)
        refine g_mv rfl rfl (gT ?_)
        refine g_bin rfl rfl rfl rfl rfl (gT ?_)
        refine g_bin rfl rfl rfl rfl rfl (gT ?_)
        refine g_as rfl rfl (gT ?_)
        refine g_as rfl rfl (gT ?_)
        refine g_nil (hK _ _ _ ?_)
        refine k_seq ?_
        refine w_seq ?_
        refine w_seq ?_
        refine wR fun K hK => ?_
        refine g_mv rfl rfl (gT ?_)
        obtain ⟨c12, H⟩ := it1 H
        refine g_ixr rfl rfl Tryd.underlying37 sz67 rfl rfl (by first | assumption | omega) (by first | assumption | omega | (simp only [List.length_set, List.length_replicate] at *; omega)) (gT ?_)
        refine g_ldq rfl rfl ag67 sz67 rfl (by first | assumption | omega) (gT ?_)
        obtain ⟨q13, hq13, H⟩ := bnd H
        refine g_cs [] rfl rfl (by rfl) Tryd.func40 rfl (by decide) (bits_TrailingZeros32.does hq13) ⟨Nat.le_of_ble_eq_true rfl, Nat.le_of_ble_eq_true rfl⟩ ?_; refine gC ?_
        refine g_as rfl rfl (gT ?_)
        refine g_nil (hK _ _ _ ?_)
        refine k_seq ?_
        refine w_seq ?_
        refine wR fun K hK => ?_
        refine g_mv rfl rfl (gT ?_)
        refine g_bin rfl rfl rfl rfl rfl (gT ?_)
        refine g_nil (hK _ _ _ ?_)
        refine k_seq ?_
        rcases its H with ⟨c14, H⟩ | ⟨c14, H⟩
        · have c14b := decide_eq_true c14; try simp only [c14b, nrm]
          refine w_cond rfl (fun _ => ?_) (fun h => Bool.noConfusion h)
          refine wR fun K hK => ?_
          refine g_mv rfl rfl (gT ?_)
          refine g_mv rfl rfl (gT ?_)
          obtain ⟨q15, hq15, H⟩ := bnd H
          refine g_cs [] rfl rfl (by rfl) Tryd.func41 rfl (by decide) (dyad_down.does hq15) ⟨Nat.le_of_ble_eq_true rfl, Nat.le_of_ble_eq_true rfl⟩ ?_; refine gC ?_
          refine g_mv rfl rfl (gT ?_)
          refine g_mv rfl rfl (gT ?_)
          refine g_bin rfl rfl rfl rfl rfl (gT ?_)
          refine g_as rfl rfl (gT ?_)
          refine g_as rfl rfl (gT ?_)
          refine g_nil (hK _ _ _ ?_)
          refine k_seq ?_
          refine w_seq ?_
          refine wR fun K hK => ?_
          refine g_mv rfl rfl (gT ?_)
          refine g_mv rfl rfl (gT ?_)
          refine g_mv rfl rfl (gT ?_)
          refine g_bd rfl rfl zr39 Tryd.underlying39 (pl := [(0, 1), (1, 1), (2, 1)]) (by kernel_rfl) ?_; refine gB ?_
          refine g_st rfl rfl sz39 rfl rfl rfl (by rfl) (Nat.le_of_ble_eq_true rfl) (gU ?_)
          refine g_nil (hK _ _ _ ?_)
          refine k_seq ?_
          refine w_ret ?_
          refine fin_wp (τ := []) rfl (by decide) ?_; rw [← Option.some.inj H]; simp only [Tryd.f32, ag39, sz39, nrm, nrmw, nrmc, nrme, nrmo, nrml, nrmb, nrmx, Nat.reduceEqDiff, Nat.reduceBEq, Nat.zero_add, Nat.add_zero, Nat.mul_one, List.length_cons, List.length_nil, List.length_map, List.length_set, List.length_replicate, List.drop_zero, List.drop_succ_cons, List.drop_nil, List.take_zero, List.take_succ_cons, List.take_nil, Nat.le_refl, if_true, if_false, Option.any_none, Option.any_some, List.contains_nil, Bool.not_false, Bool.or_true, Bool.true_or, Bool.or_false, Bool.false_or, Bool.and_true, Bool.true_and, Bool.and_self, reduceCtorEq, beq_self_eq_true, List.map_cons, List.map_nil, List.append_nil, List.nil_append, List.contains_cons, List.filter_cons, List.filter_nil, List.cons_append, Bool.false_eq_true, true_and, and_true, List.getElem_toArray, List.getElem_cons_zero, List.getElem_cons_succ, Nat.reduceAdd, Nat.reduceMul, Nat.reduceLT, Nat.reduceSub, Nat.reduceLeDiff]; try (first | rfl | exact ⟨rfl, trivial⟩ | exact ⟨rfl, rfl⟩)
        · have c14b := decide_eq_false c14; try simp only [c14b, nrm]
          refine w_cond rfl (fun h => Bool.noConfusion h) (fun _ => ?_)
          refine w_skip ?_
          refine k_seq ?_
          refine w_seq ?_
          refine wR fun K hK => ?_
          refine g_mv rfl rfl (gT ?_)
          refine g_mv rfl rfl (gT ?_)
          refine g_mv rfl rfl (gT ?_)
          refine g_bd rfl rfl zr39 Tryd.underlying39 (pl := [(0, 1), (1, 1), (2, 1)]) (by kernel_rfl) ?_; refine gB ?_
          refine g_st rfl rfl sz39 rfl rfl rfl (by rfl) (Nat.le_of_ble_eq_true rfl) (gU ?_)
          refine g_nil (hK _ _ _ ?_)
          refine k_seq ?_
          refine w_ret ?_
          refine fin_wp (τ := []) rfl (by decide) ?_; rw [← Option.some.inj H]; simp only [Tryd.f32, ag39, sz39, nrm, nrmw, nrmc, nrme, nrmo, nrml, nrmb, nrmx, Nat.reduceEqDiff, Nat.reduceBEq, Nat.zero_add, Nat.add_zero, Nat.mul_one, List.length_cons, List.length_nil, List.length_map, List.length_set, List.length_replicate, List.drop_zero, List.drop_succ_cons, List.drop_nil, List.take_zero, List.take_succ_cons, List.take_nil, Nat.le_refl, if_true, if_false, Option.any_none, Option.any_some, List.contains_nil, Bool.not_false, Bool.or_true, Bool.true_or, Bool.or_false, Bool.false_or, Bool.and_true, Bool.true_and, Bool.and_self, reduceCtorEq, beq_self_eq_true, List.map_cons, List.map_nil, List.append_nil, List.nil_append, List.contains_cons, List.filter_cons, List.filter_nil, List.cons_append, Bool.false_eq_true, true_and, and_true, List.getElem_toArray, List.getElem_cons_zero, List.getElem_cons_succ, Nat.reduceAdd, Nat.reduceMul, Nat.reduceLT, Nat.reduceSub, Nat.reduceLeDiff]; try (first | rfl | exact ⟨rfl, trivial⟩ | exact ⟨rfl, rfl⟩)
set_option maxHeartbeats 8000000 in
set_option maxRecDepth 100000 in
theorem dyad_trim.does {k : Nat} {a0 : Bool} {l1 : List Int} {a2 : Int} {r : Bool × (List Int) × Int} (H : dyad_trim.f k a0 l1 a2 = some r) : Do E0 (.fn 32 [.b a0, .r (l1.map (V.i .u32)) l1.length true, .i .i64 a2] [] (.a [.b r.1, .r (r.2.1.map (V.i .u32)) r.2.1.length true, .i .i64 r.2.2]) []) := by
  obtain ⟨ih0, ih1, ih2⟩ := dyad_trim.does_l (a0 := a0) (l1 := l1) (a2 := a2) k
  refine fn_wpl Tryd.func32 rfl (Q := (dyad_trim.Q a0 l1 a2 r)) (fun s h => h) ?_
  unfold dyad_trim.f at H
  simp only [Tryd.ntmps32, List.length, List.replicate, Nat.reduceAdd, Nat.reduceSub, List.cons_append, List.nil_append]
  refine w_seq ?_
  refine wR fun K hK => ?_
  refine g_alloc rfl rfl zr39 (gU ?_)
  refine g_nil (hK _ _ _ ?_)
  refine k_seq ?_
  refine w_seq ?_
  refine wR fun K hK => ?_
  refine g_mv rfl rfl (gT ?_)
  refine g_len_r rfl rfl Tryd.underlying37 rfl (gT ?_)
  refine g_as rfl rfl (gT ?_)
  refine g_nil (hK _ _ _ ?_)
  refine k_seq ?_
  refine w_seq ?_
  refine w_block ?_
  refine w_wk (σ := [0]) [0, 0, 0, 3, 0] rfl (by decide) ?_; refine gC ?_
  exact gI (ih0 a0 l1 a2 (l1.length : Int) 0 r H)

set_option maxHeartbeats 8000000 in
set_option maxRecDepth 100000 in
theorem dyad_Of.does {k : Nat} {a0 : Int} {r : Bool × (List Int) × Int × Bool} (H : dyad_Of.f k a0 = some r) : Do E0 (.fn 28 [.i .u64 a0] [] (.t [.a [.b r.1, .r (r.2.1.map (V.i .u32)) r.2.1.length true, .i .i64 r.2.2.1], .b r.2.2.2]) []) := by
  refine fn_wpl Tryd.func28 rfl (Q := (dyad_Of.Q a0 r)) (fun s h => h) ?_
  unfold dyad_Of.f at H
  simp only [Tryd.ntmps28, List.length, List.replicate, Nat.reduceAdd, Nat.reduceSub, List.cons_append, List.nil_append]
  refine w_seq ?_
  refine wR fun K hK => ?_
  refine g_alloc rfl rfl zr39 (gU ?_)
  refine g_as rfl rfl (gT ?_)
  refine g_nil (hK _ _ _ ?_)
  refine k_seq ?_
  refine w_seq ?_
  refine w_seq ?_
  refine wR fun K hK => ?_
  refine g_mv rfl rfl (gT ?_)
  obtain ⟨q1, hq1, H⟩ := bnd H
  refine g_cs [] rfl rfl (by rfl) Tryd.func13 rfl (by decide) (word_Finite.does hq1) ⟨Nat.le_of_ble_eq_true rfl, Nat.le_of_ble_eq_true rfl⟩ ?_; refine gC ?_
  refine g_un rfl rfl rfl rfl (gT ?_)
  refine g_nil (hK _ _ _ ?_)
  refine k_seq ?_
  rcases its H with ⟨c2, H⟩ | ⟨c2, H⟩
  · have c2b : q1 = true := c2; try simp only [c2b, nrm]
    refine w_cond rfl (fun h => Bool.noConfusion h) (fun _ => ?_)
    refine w_skip ?_
    refine k_seq ?_
    refine w_seq ?_
    refine wR fun K hK => ?_
    refine g_mv rfl rfl (gT ?_)
    obtain ⟨q3, hq3, H⟩ := bnd H
    refine g_cs [] rfl rfl (by rfl) Tryd.func38 rfl (by decide) (word_Parts.does hq3) ⟨Nat.le_of_ble_eq_true rfl, Nat.le_of_ble_eq_true rfl⟩ ?_; refine gC ?_
    refine g_mv rfl rfl (gT ?_)
    refine g_ext rfl rfl rfl (Nat.le_of_ble_eq_true rfl) (gT ?_)
    refine g_ext rfl rfl rfl (Nat.le_of_ble_eq_true rfl) (gT ?_)
    refine g_as rfl rfl (gT ?_)
    refine g_as rfl rfl (gT ?_)
    refine g_nil (hK _ _ _ ?_)
    refine k_seq ?_
    refine w_seq ?_
    refine wR fun K hK => ?_
    refine g_mv rfl rfl (gT ?_)
    obtain ⟨q4, hq4, H⟩ := bnd H
    refine g_cs [] rfl rfl (by rfl) Tryd.func39 rfl (by decide) (word_Neg.does hq4) ⟨Nat.le_of_ble_eq_true rfl, Nat.le_of_ble_eq_true rfl⟩ ?_; refine gC ?_
    refine g_mv rfl rfl (gT ?_)
    refine g_conv rfl rfl Tryd.underlying23 Tryd.underlying67 rfl (gT ?_)
    refine g_mv rfl rfl (gT ?_)
    refine g_shrc (p := 4294967296) rfl rfl rfl rfl (by decide) (by rfl) (gT ?_)
    refine g_conv rfl rfl Tryd.underlying23 Tryd.underlying67 rfl (gT ?_)
    refine g_bsl (k := .u32) (xs := [(q3.1 % 4294967296), ((q3.1 / 4294967296) % 4294967296)]) rfl rfl Tryd.underlying37 sz67 zr67 (by decide) rfl rfl rfl (gU ?_)
    refine g_mv rfl rfl (gT ?_)
    obtain ⟨q5, hq5, H⟩ := bnd H
    refine g_cs [] rfl rfl (by rfl) Tryd.func32 rfl (by decide) (dyad_trim.does hq5) ⟨Nat.le_of_ble_eq_true rfl, Nat.le_of_ble_eq_true rfl⟩ ?_; refine gC ?_
    refine g_st rfl rfl sz39 rfl rfl rfl (by rfl) (Nat.le_of_ble_eq_true rfl) (gU ?_)
    refine g_as rfl rfl (gT ?_)
    refine g_nil (hK _ _ _ ?_)
    refine k_seq ?_
    refine w_ret ?_
    refine fin_wp (τ := []) rfl (by decide) ?_; rw [← Option.some.inj H]; simp only [Tryd.f28, ag39, sz39, nrm, nrmw, nrmc, nrme, nrmo, nrml, nrmb, nrmx, Nat.reduceEqDiff, Nat.reduceBEq, Nat.zero_add, Nat.add_zero, Nat.mul_one, List.length_cons, List.length_nil, List.length_map, List.length_set, List.length_replicate, List.drop_zero, List.drop_succ_cons, List.drop_nil, List.take_zero, List.take_succ_cons, List.take_nil, Nat.le_refl, if_true, if_false, Option.any_none, Option.any_some, List.contains_nil, Bool.not_false, Bool.or_true, Bool.true_or, Bool.or_false, Bool.false_or, Bool.and_true, Bool.true_and, Bool.and_self, reduceCtorEq, beq_self_eq_true, List.map_cons, List.map_nil, List.append_nil, List.nil_append, List.contains_cons, List.filter_cons, List.filter_nil, List.cons_append, Bool.false_eq_true, true_and, and_true, List.getElem_toArray, List.getElem_cons_zero, List.getElem_cons_succ, Nat.reduceAdd, Nat.reduceMul, Nat.reduceLT, Nat.reduceSub, Nat.reduceLeDiff]; try (first | rfl | exact ⟨rfl, trivial⟩ | exact ⟨rfl, rfl⟩)
  · have c2b : q1 = false := Bool.eq_false_iff.mpr c2; try simp only [c2b, nrm]
    refine w_cond rfl (fun _ => ?_) (fun h => Bool.noConfusion h)
    refine w_seq ?_
    refine wR fun K hK => ?_
    refine g_bd rfl rfl zr39 Tryd.underlying39 (pl := [(0, 1), (1, 1), (2, 1)]) (by kernel_rfl) ?_; refine gB ?_
    refine g_st rfl rfl sz39 rfl rfl rfl (by rfl) (Nat.le_of_ble_eq_true rfl) (gU ?_)
    refine g_as rfl rfl (gT ?_)
    refine g_nil (hK _ _ _ ?_)
    refine k_seq ?_
    refine w_ret ?_
    refine fin_wp (τ := []) rfl (by decide) ?_; rw [← Option.some.inj H]; simp only [Tryd.f28, ag39, sz39, nrm, nrmw, nrmc, nrme, nrmo, nrml, nrmb, nrmx, Nat.reduceEqDiff, Nat.reduceBEq, Nat.zero_add, Nat.add_zero, Nat.mul_one, List.length_cons, List.length_nil, List.length_map, List.length_set, List.length_replicate, List.drop_zero, List.drop_succ_cons, List.drop_nil, List.take_zero, List.take_succ_cons, List.take_nil, Nat.le_refl, if_true, if_false, Option.any_none, Option.any_some, List.contains_nil, Bool.not_false, Bool.or_true, Bool.true_or, Bool.or_false, Bool.false_or, Bool.and_true, Bool.true_and, Bool.and_self, reduceCtorEq, beq_self_eq_true, List.map_cons, List.map_nil, List.append_nil, List.nil_append, List.contains_cons, List.filter_cons, List.filter_nil, List.cons_append, Bool.false_eq_true, true_and, and_true, List.getElem_toArray, List.getElem_cons_zero, List.getElem_cons_succ, Nat.reduceAdd, Nat.reduceMul, Nat.reduceLT, Nat.reduceSub, Nat.reduceLeDiff]; try (first | rfl | exact ⟨rfl, trivial⟩ | exact ⟨rfl, rfl⟩)

set_option maxHeartbeats 8000000 in
set_option maxRecDepth 100000 in
theorem gimballaw16_exact.does {k : Nat} {a0 : Int} {r : Bool × (List Int) × Int} (H : gimballaw16_exact.f k a0 = some r) : Do E0 (.fn 11 [.i .u64 a0] [] (.a [.b r.1, .r (r.2.1.map (V.i .u32)) r.2.1.length true, .i .i64 r.2.2]) []) := by
  refine fn_wpl Tryd.func11 rfl (Q := (gimballaw16_exact.Q a0 r)) (fun s h => h) ?_
  unfold gimballaw16_exact.f at H
  simp only [Tryd.ntmps11, List.length, List.replicate, Nat.reduceAdd, Nat.reduceSub, List.cons_append, List.nil_append]
  refine w_seq ?_
  refine wR fun K hK => ?_
  refine g_alloc rfl rfl zr39 (gU ?_)
  refine g_nil (hK _ _ _ ?_)
  refine k_seq ?_
  refine w_seq ?_
  refine wR fun K hK => ?_
  refine g_mv rfl rfl (gT ?_)
  obtain ⟨q1, hq1, H⟩ := bnd H
  refine g_cs [] rfl rfl (by rfl) Tryd.func28 rfl (by decide) (dyad_Of.does hq1) ⟨Nat.le_of_ble_eq_true rfl, Nat.le_of_ble_eq_true rfl⟩ ?_; refine gC ?_
  refine g_mv rfl rfl (gT ?_)
  refine g_ext rfl rfl rfl (Nat.le_of_ble_eq_true rfl) (gT ?_)
  refine g_ext rfl rfl rfl (Nat.le_of_ble_eq_true rfl) (gT ?_)
  refine g_alloc rfl rfl zr39 (gU ?_)
  refine g_st rfl rfl sz39 rfl rfl rfl (by rfl) (Nat.le_of_ble_eq_true rfl) (gU ?_)
  refine g_as rfl rfl (gT ?_)
  refine g_nil (hK _ _ _ ?_)
  refine k_seq ?_
  refine w_seq ?_
  refine wR fun K hK => ?_
  refine g_lda rfl rfl ag39 sz39 rfl rfl (Nat.le_of_ble_eq_true rfl) (gT ?_)
  refine g_st rfl rfl sz39 rfl rfl rfl (by rfl) (Nat.le_of_ble_eq_true rfl) (gU ?_)
  refine g_nil (hK _ _ _ ?_)
  refine k_seq ?_
  refine w_ret ?_
  refine fin_wp (τ := []) rfl (by decide) ?_; rw [← Option.some.inj H]; simp only [Tryd.f11, ag39, sz39, nrm, nrmw, nrmc, nrme, nrmo, nrml, nrmb, nrmx, Nat.reduceEqDiff, Nat.reduceBEq, Nat.zero_add, Nat.add_zero, Nat.mul_one, List.length_cons, List.length_nil, List.length_map, List.length_set, List.length_replicate, List.drop_zero, List.drop_succ_cons, List.drop_nil, List.take_zero, List.take_succ_cons, List.take_nil, Nat.le_refl, if_true, if_false, Option.any_none, Option.any_some, List.contains_nil, Bool.not_false, Bool.or_true, Bool.true_or, Bool.or_false, Bool.false_or, Bool.and_true, Bool.true_and, Bool.and_self, reduceCtorEq, beq_self_eq_true, List.map_cons, List.map_nil, List.append_nil, List.nil_append, List.contains_cons, List.filter_cons, List.filter_nil, List.cons_append, Bool.false_eq_true, true_and, and_true, List.getElem_toArray, List.getElem_cons_zero, List.getElem_cons_succ, Nat.reduceAdd, Nat.reduceMul, Nat.reduceLT, Nat.reduceSub, Nat.reduceLeDiff]; try (first | rfl | exact ⟨rfl, trivial⟩ | exact ⟨rfl, rfl⟩)

set_option maxHeartbeats 8000000 in
set_option maxRecDepth 100000 in
theorem dyad_Two.does {a0 : Int} {r : Bool × (List Int) × Int} (H : dyad_Two.f a0 = some r) : Do E0 (.fn 16 [.i .i64 a0] [] (.a [.b r.1, .s (some (0, 0)) r.2.1.length, .i .i64 r.2.2]) [.row (r.2.1.map (V.i .u32)) 2 1 true true none]) := by
  refine fn_wpl Tryd.func16 rfl (Q := (dyad_Two.Q a0 r)) (fun s h => h) ?_
  unfold dyad_Two.f at H
  simp only [Tryd.ntmps16, List.length, List.replicate, Nat.reduceAdd, Nat.reduceSub, List.cons_append, List.nil_append]
  refine w_seq ?_
  refine wR fun K hK => ?_
  refine g_alloc rfl rfl zr39 (gU ?_)
  refine g_nil (hK _ _ _ ?_)
  refine k_seq ?_
  refine w_seq ?_
  refine wR fun K hK => ?_
  refine g_bsl (k := .u32) (xs := [1]) rfl rfl Tryd.underlying37 sz67 zr67 (by decide) rfl rfl rfl (gU ?_)
  refine g_mv rfl rfl (gT ?_)
  refine g_min rfl rfl rfl rfl (m := mn _ _) rfl (gT ?_)
  refine g_max rfl rfl rfl rfl (m := mx _ _) rfl (gT ?_)
  refine g_bd rfl rfl zr39 Tryd.underlying39 (pl := [(0, 1), (1, 1), (2, 1)]) (by kernel_rfl) ?_; refine gB ?_
  refine g_st rfl rfl sz39 rfl rfl rfl (by rfl) (Nat.le_of_ble_eq_true rfl) (gU ?_)
  refine g_nil (hK _ _ _ ?_)
  refine k_seq ?_
  refine w_ret ?_
  refine fin_wp (τ := [4]) rfl (by decide) ?_; rw [← Option.some.inj H]; simp only [Tryd.f16, ag39, sz39, nrm, nrmw, nrmc, nrme, nrmo, nrml, nrmb, nrmx, Nat.reduceEqDiff, Nat.reduceBEq, Nat.zero_add, Nat.add_zero, Nat.mul_one, List.length_cons, List.length_nil, List.length_map, List.length_set, List.length_replicate, List.drop_zero, List.drop_succ_cons, List.drop_nil, List.take_zero, List.take_succ_cons, List.take_nil, Nat.le_refl, if_true, if_false, Option.any_none, Option.any_some, List.contains_nil, Bool.not_false, Bool.or_true, Bool.true_or, Bool.or_false, Bool.false_or, Bool.and_true, Bool.true_and, Bool.and_self, reduceCtorEq, beq_self_eq_true, List.map_cons, List.map_nil, List.append_nil, List.nil_append, List.contains_cons, List.filter_cons, List.filter_nil, List.cons_append, Bool.false_eq_true, true_and, and_true, List.getElem_toArray, List.getElem_cons_zero, List.getElem_cons_succ, Nat.reduceAdd, Nat.reduceMul, Nat.reduceLT, Nat.reduceSub, Nat.reduceLeDiff]; try (first | rfl | exact ⟨rfl, trivial⟩ | exact ⟨rfl, rfl⟩)

set_option maxHeartbeats 8000000 in
set_option maxRecDepth 100000 in
theorem dyad_Num_Mul.does_l {a0_0 : Bool} {l0_1 : List Int} {a0_2 : Int} {a1_0 : Bool} {l1_1 : List Int} {a1_2 : Int} (k : Nat) : (∀ (t_20 : Bool) (h0_0 : Bool) (h0_1 : List Int) (h0_2 : Int) (h1_0 : Bool) (h1_1 : List Int) (h1_2 : Int) (h2_1 : Int) (r : Bool × (List Int) × Int), dyad_Num_Mul.j0 k t_20 h0_0 h0_1 h0_2 h1_0 h1_1 h1_2 = some r → kont E0 (dyad_Num_Mul.Q a0_0 l0_1 a0_2 a1_0 l1_1 a1_2 r) (frs (bodyOf Tryd.f15) [1, 0, 0] []) .normal ⟨[.u, .u, .p (some (0, 0)), .p (some (1, 0)), .p (some (2, 0)), .u, .u, .u, .u, .u, .u, .u, .u, .u, .u, .u, .u, .u, .u, .u, .b t_20, .u, .u, .u, .u, .u, .u, .u, .u, .u, .u, .u, .u, .u, .u, .u, .u, .u, .u, .u, .u, .u, .u, .u, .u, .u, .u, .u, .u, .u, .u, .u, .u, .u, .u, .u, .u, .u, .u, .u, .u, .u, .u, .u, .u, .u, .u, .u, .u, .u, .u, .u, .u, .u, .u, .u, .u, .u, .u, .u, .u, .u, .u, .u, .u, .u, .u, .u, .u, .u, .u, .u, .u], ofL [.row [.b h0_0, .r (h0_1.map (V.i .u32)) h0_1.length true, .i .i64 h0_2] 0 0 true true none, .row [.b h1_0, .r (h1_1.map (V.i .u32)) h1_1.length true, .i .i64 h1_2] 0 0 true true none, .row [.b false, .s none 0, .i .i64 h2_1] 0 0 true true none], 3, 0⟩) ∧
    (∀ (h3 : List Int) (t_31 : List Int) (t_32 : Int) (t_33 : Int) (h0_0 : Bool) (h0_1 : List Int) (h0_2 : Int) (h1_0 : Bool) (h1_1 : List Int) (h1_2 : Int) (h2_1 : Int) (r : Bool × (List Int) × Int), dyad_Num_Mul.l0 k h3 t_31 t_32 t_33 h0_0 h0_1 h0_2 h1_0 h1_1 h1_2 = some r → wk_ E0 (dyad_Num_Mul.Q a0_0 l0_1 a0_2 a1_0 l1_1 a1_2 r) (frs (bodyOf Tryd.f15) [1, 1, 1, 0, 1, 0] []) (sub (bodyOf Tryd.f15) [1, 1, 1, 0, 1, 0]) ⟨[.u, .u, .p (some (0, 0)), .p (some (1, 0)), .p (some (2, 0)), .s (some (3, 0)) h3.length, .u, .u, .u, .u, .u, .u, .u, .u, .u, .u, .u, .u, .u, .u, .u, .u, .u, .u, .u, .u, .u, .u, .u, .u, .u, .r (t_31.map (V.i .u32)) t_31.length true, .i .i64 t_32, .i .i64 t_33, .u, .u, .u, .u, .u, .u, .u, .u, .u, .u, .u, .u, .u, .u, .u, .u, .u, .u, .u, .u, .u, .u, .u, .u, .u, .u, .u, .u, .u, .u, .u, .u, .u, .u, .u, .u, .u, .u, .u, .u, .u, .u, .u, .u, .u, .u, .u, .u, .u, .u, .u, .u, .u, .u, .u, .u, .u, .u, .u], ofL [.row [.b h0_0, .r (h0_1.map (V.i .u32)) h0_1.length true, .i .i64 h0_2] 0 0 true true none, .row [.b h1_0, .r (h1_1.map (V.i .u32)) h1_1.length true, .i .i64 h1_2] 0 0 true true none, .row [.b false, .s none 0, .i .i64 h2_1] 0 0 true true none, .row (h3.map (V.i .u32)) 2 1 true true none], 4, 0⟩) ∧
    (∀ (h3 : List Int) (i_6 : Int) (x_7 : Int) (c_8 : Int) (t_31 : List Int) (t_32 : Int) (t_33 : Int) (t_39 : List Int) (t_40 : Int) (t_41 : Int) (h0_0 : Bool) (h0_1 : List Int) (h0_2 : Int) (h1_0 : Bool) (h1_1 : List Int) (h1_2 : Int) (h2_1 : Int) (r : Bool × (List Int) × Int), dyad_Num_Mul.l1 k h3 i_6 x_7 c_8 t_31 t_32 t_33 t_39 t_40 t_41 h0_0 h0_1 h0_2 h1_0 h1_1 h1_2 = some r → wk_ E0 (dyad_Num_Mul.Q a0_0 l0_1 a0_2 a1_0 l1_1 a1_2 r) (frs (bodyOf Tryd.f15) [1, 1, 1, 0, 1, 0, 0, 1, 1, 0, 0, 1, 1, 0, 1, 0] []) (sub (bodyOf Tryd.f15) [1, 1, 1, 0, 1, 0, 0, 1, 1, 0, 0, 1, 1, 0, 1, 0]) ⟨[.u, .u, .p (some (0, 0)), .p (some (1, 0)), .p (some (2, 0)), .s (some (3, 0)) h3.length, .i .i64 i_6, .i .u32 x_7, .i .u64 c_8, .u, .u, .u, .u, .u, .u, .u, .u, .u, .u, .u, .u, .u, .u, .u, .u, .u, .u, .u, .u, .u, .u, .r (t_31.map (V.i .u32)) t_31.length true, .i .i64 t_32, .i .i64 t_33, .u, .u, .u, .u, .u, .r (t_39.map (V.i .u32)) t_39.length true, .i .i64 t_40, .i .i64 t_41, .u, .u, .u, .u, .u, .u, .u, .u, .u, .u, .u, .u, .u, .u, .u, .u, .u, .u, .u, .u, .u, .u, .u, .u, .u, .u, .u, .u, .u, .u, .u, .u, .u, .u, .u, .u, .u, .u, .u, .u, .u, .u, .u, .u, .u, .u, .u, .u, .u, .u, .u], ofL [.row [.b h0_0, .r (h0_1.map (V.i .u32)) h0_1.length true, .i .i64 h0_2] 0 0 true true none, .row [.b h1_0, .r (h1_1.map (V.i .u32)) h1_1.length true, .i .i64 h1_2] 0 0 true true none, .row [.b false, .s none 0, .i .i64 h2_1] 0 0 true true none, .row (h3.map (V.i .u32)) 2 1 true true none], 4, 0⟩) := by
  induction k with
  | zero => exact ⟨fun _ _ _ _ _ _ _ _ r h => by simp [dyad_Num_Mul.j0] at h, fun _ _ _ _ _ _ _ _ _ _ _ r h => by simp [dyad_Num_Mul.l0] at h, fun _ _ _ _ _ _ _ _ _ _ _ _ _ _ _ _ _ r h => by simp [dyad_Num_Mul.l1] at h⟩
  | succ k ih =>
    obtain ⟨ih0, ih1, ih2⟩ := ih
    refine ⟨?_, ?_, ?_⟩
    · intro t_20 h0_0 h0_1 h0_2 h1_0 h1_1 h1_2 h2_1 r H
      unfold dyad_Num_Mul.j0 at H
      simp only [bodyOf, Tryd.f15, frs, sub, if_true, if_false, Nat.one_ne_zero]
      refine k_seq ?_
      rcases its H with ⟨c2, H⟩ | ⟨c2, H⟩
      · have c2b : t_20 = true := c2; try simp only [c2b, nrm]
        refine w_cond rfl (fun _ => ?_) (fun h => Bool.noConfusion h)
        refine w_seq ?_
        refine wR fun K hK => ?_
        refine g_bd rfl rfl zr39 Tryd.underlying39 (pl := [(0, 1), (1, 1), (2, 1)]) (by kernel_rfl) ?_; refine gB ?_
        refine g_st rfl rfl sz39 rfl rfl rfl (by rfl) (Nat.le_of_ble_eq_true rfl) (gU ?_)
        refine g_nil (hK _ _ _ ?_)
        refine k_seq ?_
        refine w_ret ?_
        refine fin_wp (τ := []) rfl (by decide) ?_; rw [← Option.some.inj H]; simp only [Tryd.f15, ag39, sz39, nrm, nrmw, nrmc, nrme, nrmo, nrml, nrmb, nrmx, Nat.reduceEqDiff, Nat.reduceBEq, Nat.zero_add, Nat.add_zero, Nat.mul_one, List.length_cons, List.length_nil, List.length_map, List.length_set, List.length_replicate, List.drop_zero, List.drop_succ_cons, List.drop_nil, List.take_zero, List.take_succ_cons, List.take_nil, Nat.le_refl, if_true, if_false, Option.any_none, Option.any_some, List.contains_nil, Bool.not_false, Bool.or_true, Bool.true_or, Bool.or_false, Bool.false_or, Bool.and_true, Bool.true_and, Bool.and_self, reduceCtorEq, beq_self_eq_true, List.map_cons, List.map_nil, List.append_nil, List.nil_append, List.contains_cons, List.filter_cons, List.filter_nil, List.cons_append, Bool.false_eq_true, true_and, and_true, List.getElem_toArray, List.getElem_cons_zero, List.getElem_cons_succ, Nat.reduceAdd, Nat.reduceMul, Nat.reduceLT, Nat.reduceSub, Nat.reduceLeDiff]; try (first | rfl | exact ⟨rfl, trivial⟩ | exact ⟨rfl, rfl⟩)
      · have c2b : t_20 = false := Bool.eq_false_iff.mpr c2; try simp only [c2b, nrm]
        refine w_cond rfl (fun h => Bool.noConfusion h) (fun _ => ?_)
        refine w_skip ?_
        refine k_seq ?_
        refine w_seq ?_
        refine wR fun K hK => ?_
        refine g_fd rfl rfl fa39_1 rfl (gT ?_)
        refine g_ldc rfl rfl ag37 sz37 rfl rfl rfl (gT ?_)
        refine g_len_r rfl rfl Tryd.underlying37 rfl (gT ?_)
        refine g_fd rfl rfl fa39_1 rfl (gT ?_)
        refine g_ldc rfl rfl ag37 sz37 rfl rfl rfl (gT ?_)
        refine g_len_r rfl rfl Tryd.underlying37 rfl (gT ?_)
        refine g_bin rfl rfl rfl rfl rfl (gT ?_)
        obtain ⟨c3, H⟩ := it1 H
        obtain ⟨c4, H⟩ := it1 H
        refine g_mk rfl rfl Tryd.underlying37 sz67 by67 zr67 rfl rfl rfl (by first | assumption | omega) (by omega) (by unfold limit; omega) (by omega) (gU ?_)
        refine g_as rfl rfl (gT ?_)
        refine g_nil (hK _ _ _ ?_)
        refine k_seq ?_
        refine w_seq ?_
        refine w_seq ?_
        refine wR fun K hK => ?_
        refine g_fd rfl rfl fa39_1 rfl (gT ?_)
        refine g_ldc rfl rfl ag37 sz37 rfl rfl rfl (gT ?_)
        refine g_len_r rfl rfl Tryd.underlying37 rfl (gT ?_)
        refine g_mv rfl rfl (gT ?_)
        refine g_nil (hK _ _ _ ?_)
        refine k_seq ?_
        refine w_block ?_
        refine w_wk (σ := [0, 1, 2, 31]) [2, 0, 0, 0, 25, 0, 0] rfl (by decide) ?_; refine gC ?_
        exact gI (ih1 (List.replicate (wrap64 ((h0_1.length : Int) + (h1_1.length : Int))).toNat 0) h0_1 (h0_1.length : Int) 0 h0_0 h0_1 h0_2 h1_0 h1_1 h1_2 h2_1 r H)
    · intro h3 t_31 t_32 t_33 h0_0 h0_1 h0_2 h1_0 h1_1 h1_2 h2_1 r H
      unfold dyad_Num_Mul.l0 at H
      simp only [bodyOf, Tryd.f15, frs, sub, if_true, if_false, Nat.one_ne_zero]
      refine w_loop ?_
      refine w_seq ?_
      refine wR fun K hK => ?_
      refine g_bin rfl rfl rfl rfl rfl (gT ?_)
      refine g_nil (hK _ _ _ ?_)
      refine k_seq ?_
      refine w_seq ?_
      rcases its H with ⟨c5, H⟩ | ⟨c5, H⟩
      · have c5b := decide_eq_true c5; try simp only [c5b, nrm]
        refine w_cond rfl (fun _ => ?_) (fun h => Bool.noConfusion h)
        refine w_skip ?_
        refine k_seq ?_
        refine w_seq ?_
        refine w_block ?_
        refine w_seq ?_
        refine wR fun K hK => ?_
        refine g_mv rfl rfl (gT ?_)
        obtain ⟨c6, H⟩ := it1 H
        obtain ⟨c7, H⟩ := it1 H
        refine g_ixr rfl rfl Tryd.underlying37 sz67 rfl rfl (by first | assumption | omega) (by first | assumption | omega | (simp only [List.length_set, List.length_replicate] at *; omega)) (gT ?_)
        refine g_ldq rfl rfl ag67 sz67 rfl (by first | assumption | omega) (gT ?_)
        refine g_as rfl rfl (gT ?_)
        refine g_as rfl rfl (gT ?_)
        refine g_nil (hK _ _ _ ?_)
        refine k_seq ?_
        refine w_seq ?_
        refine wR fun K hK => ?_
        refine g_as rfl rfl (gT ?_)
        refine g_nil (hK _ _ _ ?_)
        refine k_seq ?_
        refine w_seq ?_
        refine w_seq ?_
        refine wR fun K hK => ?_
        refine g_fd rfl rfl fa39_1 rfl (gT ?_)
        refine g_ldc rfl rfl ag37 sz37 rfl rfl rfl (gT ?_)
        refine g_len_r rfl rfl Tryd.underlying37 rfl (gT ?_)
        refine g_mv rfl rfl (gT ?_)
        refine g_nil (hK _ _ _ ?_)
        refine k_seq ?_
        refine w_block ?_
        refine w_wk (σ := [0, 1, 2, 3]) [2, 0, 0, 0, 0, 0, 0, 22, 0, 0, 5, 0, 0] rfl (by decide) ?_; refine gC ?_
        exact gI (ih2 h3 t_33 (rd t_31 t_33) 0 t_31 t_32 t_33 h1_1 (h1_1.length : Int) 0 h0_0 h0_1 h0_2 h1_0 h1_1 h1_2 h2_1 r H)
      · have c5b := decide_eq_false c5; try simp only [c5b, nrm]
        refine w_cond rfl (fun h => Bool.noConfusion h) (fun _ => ?_)
        refine w_exit rfl ?_
        refine k_seq ?_
        refine w_seq ?_
        refine wR fun K hK => ?_
        refine g_fd rfl rfl fa39_0 rfl (gT ?_)
        refine g_ldc rfl rfl ag4 sz4 rfl rfl rfl (gT ?_)
        refine g_fd rfl rfl fa39_0 rfl (gT ?_)
        refine g_ldc rfl rfl ag4 sz4 rfl rfl rfl (gT ?_)
        refine g_neb rfl rfl Tryd.underlying4 rfl rfl (gT ?_)
        refine g_mv rfl rfl (gT ?_)
        refine g_fd rfl rfl fa39_2 rfl (gT ?_)
        refine g_ldc rfl rfl ag3 sz3 rfl rfl rfl (gT ?_)
        refine g_fd rfl rfl fa39_2 rfl (gT ?_)
        refine g_ldc rfl rfl ag3 sz3 rfl rfl rfl (gT ?_)
        refine g_bin rfl rfl rfl rfl rfl (gT ?_)
        obtain ⟨q8, hq8, H⟩ := bnd H
        refine g_cs [] rfl rfl (by rfl) Tryd.func32 rfl (by decide) (dyad_trim.does hq8) ⟨Nat.le_of_ble_eq_true rfl, Nat.le_of_ble_eq_true rfl⟩ ?_; refine gC ?_
        refine g_st rfl rfl sz39 rfl rfl rfl (by rfl) (Nat.le_of_ble_eq_true rfl) (gU ?_)
        refine g_nil (hK _ _ _ ?_)
        refine k_seq ?_
        refine w_ret ?_
        refine fin_wp (τ := []) rfl (by decide) ?_; rw [← Option.some.inj H]; simp only [Tryd.f15, ag39, sz39, nrm, nrmw, nrmc, nrme, nrmo, nrml, nrmb, nrmx, Nat.reduceEqDiff, Nat.reduceBEq, Nat.zero_add, Nat.add_zero, Nat.mul_one, List.length_cons, List.length_nil, List.length_map, List.length_set, List.length_replicate, List.drop_zero, List.drop_succ_cons, List.drop_nil, List.take_zero, List.take_succ_cons, List.take_nil, Nat.le_refl, if_true, if_false, Option.any_none, Option.any_some, List.contains_nil, Bool.not_false, Bool.or_true, Bool.true_or, Bool.or_false, Bool.false_or, Bool.and_true, Bool.true_and, Bool.and_self, reduceCtorEq, beq_self_eq_true, List.map_cons, List.map_nil, List.append_nil, List.nil_append, List.contains_cons, List.filter_cons, List.filter_nil, List.cons_append, Bool.false_eq_true, true_and, and_true, List.getElem_toArray, List.getElem_cons_zero, List.getElem_cons_succ, Nat.reduceAdd, Nat.reduceMul, Nat.reduceLT, Nat.reduceSub, Nat.reduceLeDiff]; try (first | rfl | exact ⟨rfl, trivial⟩ | exact ⟨rfl, rfl⟩)
    · intro h3 i_6 x_7 c_8 t_31 t_32 t_33 t_39 t_40 t_41 h0_0 h0_1 h0_2 h1_0 h1_1 h1_2 h2_1 r H
      unfold dyad_Num_Mul.l1 at H
      simp only [bodyOf, Tryd.f15, frs, sub, if_true, if_false, Nat.one_ne_zero]
      refine w_loop ?_
      refine w_seq ?_
      refine wR fun K hK => ?_
      refine g_bin rfl rfl rfl rfl rfl (gT ?_)
      refine g_nil (hK _ _ _ ?_)
      refine k_seq ?_
      refine w_seq ?_
      rcases its H with ⟨c9, H⟩ | ⟨c9, H⟩
      · have c9b := decide_eq_true c9; try simp only [c9b, nrm]
        refine w_cond rfl (fun _ => ?_) (fun h => Bool.noConfusion h)
        refine w_skip ?_
        refine k_seq ?_
        refine w_seq ?_
        refine w_block ?_
        refine w_seq ?_
        refine wR fun K hK => ?_
        refine g_mv rfl rfl (gT ?_)
        obtain ⟨c10, H⟩ := it1 H
        obtain ⟨c11, H⟩ := it1 H
        refine g_ixr rfl rfl Tryd.underlying37 sz67 rfl rfl (by first | assumption | omega) (by first | assumption | omega | (simp only [List.length_set, List.length_replicate] at *; omega)) (gT ?_)
        refine g_ldq rfl rfl ag67 sz67 rfl (by first | assumption | omega) (gT ?_)
        refine g_as rfl rfl (gT ?_)
        refine g_as rfl rfl (gT ?_)
        refine g_nil (hK _ _ _ ?_)
        refine k_seq ?_
        refine w_seq ?_
        refine wR fun K hK => ?_
        refine g_mv rfl rfl (gT ?_)
        refine g_mv rfl rfl (gT ?_)
        refine g_mv rfl rfl (gT ?_)
        refine g_mv rfl rfl (gT ?_)
        refine g_bin rfl rfl rfl rfl rfl (gT ?_)
        obtain ⟨c12, H⟩ := it1 H
        obtain ⟨c13, H⟩ := it1 H
        refine g_ixo rfl rfl Tryd.underlying37 sz67 rfl rfl (by first | assumption | omega) (by first | assumption | omega | (simp only [List.length_set, List.length_replicate] at *; omega)) (gT ?_)
        refine g_ldo rfl rfl ag67 sz67 rfl rfl (by first | assumption | omega | (simp only [List.length_set, List.length_replicate] at *; omega)) (gT ?_)
        refine g_conv rfl rfl Tryd.underlying67 Tryd.underlying23 rfl (gT ?_)
        refine g_mv rfl rfl (gT ?_)
        refine g_conv rfl rfl Tryd.underlying67 Tryd.underlying23 rfl (gT ?_)
        refine g_mv rfl rfl (gT ?_)
        refine g_conv rfl rfl Tryd.underlying67 Tryd.underlying23 rfl (gT ?_)
        refine g_bin rfl rfl rfl rfl rfl (gT ?_)
        refine g_bin rfl rfl rfl rfl rfl (gT ?_)
        refine g_bin rfl rfl rfl rfl rfl (gT ?_)
        refine g_as rfl rfl (gT ?_)
        refine g_nil (hK _ _ _ ?_)
        refine k_seq ?_
        refine wR fun K hK => ?_
        refine g_mv rfl rfl (gT ?_)
        refine g_mv rfl rfl (gT ?_)
        refine g_mv rfl rfl (gT ?_)
        refine g_bin rfl rfl rfl rfl rfl (gT ?_)
        refine g_mv rfl rfl (gT ?_)
        refine g_conv rfl rfl Tryd.underlying23 Tryd.underlying67 rfl (gT ?_)
        refine g_mv rfl rfl (gT ?_)
        refine g_shrc (p := 4294967296) rfl rfl rfl rfl (by decide) (by rfl) (gT ?_)
        refine g_ixo rfl rfl Tryd.underlying37 sz67 rfl rfl (by first | assumption | omega) (by first | assumption | omega | (simp only [List.length_set, List.length_replicate] at *; omega)) (gT ?_)
        refine g_st rfl rfl sz67 rfl rfl rfl (by rfl) (by simp only [List.length_map, List.length_set, List.length_replicate]; first | assumption | omega) (gU ?_)
        refine g_as rfl rfl (gT ?_)
        refine g_nil (hK _ _ _ ?_)
        refine k_block ?_
        refine k_seq ?_
        refine wR fun K hK => ?_
        refine g_bin rfl rfl rfl rfl rfl (gT ?_)
        refine g_mv rfl rfl (gT ?_)
        refine g_nil (hK _ _ _ ?_)
        refine k_loop ?_
        refine w_wk (σ := [0, 1, 2, 3]) [2, 0, 0, 0, 0, 0, 0, 22, 0, 0, 5, 0, 0] rfl (by decide) ?_; refine gC ?_
        exact gI (ih2 (h3.set (wrap64 (i_6 + t_41)).toNat ((IntKind.u64.wrap (c_8 + (IntKind.u64.wrap ((IntKind.u64.wrap ((rd h3 (wrap64 (i_6 + t_41))))) + (IntKind.u64.wrap ((IntKind.u64.wrap (x_7)) * (IntKind.u64.wrap ((rd t_39 t_41))))))))) % 4294967296)) i_6 x_7 ((IntKind.u64.wrap (c_8 + (IntKind.u64.wrap ((IntKind.u64.wrap ((rd h3 (wrap64 (i_6 + t_41))))) + (IntKind.u64.wrap ((IntKind.u64.wrap (x_7)) * (IntKind.u64.wrap ((rd t_39 t_41))))))))) / 4294967296) t_31 t_32 t_33 t_39 t_40 (wrap64 (t_41 + 1)) h0_0 h0_1 h0_2 h1_0 h1_1 h1_2 h2_1 r H)
      · have c9b := decide_eq_false c9; try simp only [c9b, nrm]
        refine w_cond rfl (fun h => Bool.noConfusion h) (fun _ => ?_)
        refine w_exit rfl ?_
        refine k_seq ?_
        refine wR fun K hK => ?_
        refine g_mv rfl rfl (gT ?_)
        refine g_mv rfl rfl (gT ?_)
        refine g_fd rfl rfl fa39_1 rfl (gT ?_)
        refine g_ldc rfl rfl ag37 sz37 rfl rfl rfl (gT ?_)
        refine g_len_r rfl rfl Tryd.underlying37 rfl (gT ?_)
        refine g_bin rfl rfl rfl rfl rfl (gT ?_)
        refine g_mv rfl rfl (gT ?_)
        refine g_conv rfl rfl Tryd.underlying23 Tryd.underlying67 rfl (gT ?_)
        obtain ⟨c14, H⟩ := it1 H
        obtain ⟨c15, H⟩ := it1 H
        refine g_ixo rfl rfl Tryd.underlying37 sz67 rfl rfl (by first | assumption | omega) (by first | assumption | omega | (simp only [List.length_set, List.length_replicate] at *; omega)) (gT ?_)
        refine g_st rfl rfl sz67 rfl rfl rfl (by rfl) (by simp only [List.length_map, List.length_set, List.length_replicate]; first | assumption | omega) (gU ?_)
        refine g_nil (hK _ _ _ ?_)
        refine k_block ?_
        refine k_seq ?_
        refine wR fun K hK => ?_
        refine g_bin rfl rfl rfl rfl rfl (gT ?_)
        refine g_mv rfl rfl (gT ?_)
        refine g_nil (hK _ _ _ ?_)
        refine k_loop ?_
        refine w_wk (σ := [0, 1, 2, 3]) [2, 0, 0, 0, 25, 0, 0] rfl (by decide) ?_; refine gC ?_
        exact gI (ih1 (h3.set (wrap64 (i_6 + (h1_1.length : Int))).toNat (c_8 % 4294967296)) t_31 t_32 (wrap64 (t_33 + 1)) h0_0 h0_1 h0_2 h1_0 h1_1 h1_2 h2_1 r H)
set_option maxHeartbeats 8000000 in
set_option maxRecDepth 100000 in
theorem dyad_Num_Mul.does {k : Nat} {a0_0 : Bool} {l0_1 : List Int} {a0_2 : Int} {a1_0 : Bool} {l1_1 : List Int} {a1_2 : Int} {r : Bool × (List Int) × Int} (H : dyad_Num_Mul.f k a0_0 l0_1 a0_2 a1_0 l1_1 a1_2 = some r) : Do E0 (.fn 15 [.a [.b a0_0, .r (l0_1.map (V.i .u32)) l0_1.length true, .i .i64 a0_2], .a [.b a1_0, .r (l1_1.map (V.i .u32)) l1_1.length true, .i .i64 a1_2]] [] (.a [.b r.1, .r (r.2.1.map (V.i .u32)) r.2.1.length true, .i .i64 r.2.2]) []) := by
  obtain ⟨ih0, ih1, ih2⟩ := dyad_Num_Mul.does_l (a0_0 := a0_0) (l0_1 := l0_1) (a0_2 := a0_2) (a1_0 := a1_0) (l1_1 := l1_1) (a1_2 := a1_2) k
  refine fn_wpl Tryd.func15 rfl (Q := (dyad_Num_Mul.Q a0_0 l0_1 a0_2 a1_0 l1_1 a1_2 r)) (fun s h => h) ?_
  unfold dyad_Num_Mul.f at H
  simp only [Tryd.ntmps15, List.length, List.replicate, Nat.reduceAdd, Nat.reduceSub, List.cons_append, List.nil_append]
  refine w_seq ?_
  refine wR fun K hK => ?_
  refine g_box rfl rfl rfl (by rfl) (gU ?_)
  refine g_box rfl rfl rfl (by rfl) (gU ?_)
  refine g_alloc rfl rfl zr39 (gU ?_)
  refine g_nil (hK _ _ _ ?_)
  refine k_seq ?_
  refine w_seq ?_
  refine w_seq ?_
  refine wR fun K hK => ?_
  refine g_fd rfl rfl fa39_1 rfl (gT ?_)
  refine g_ldc rfl rfl ag37 sz37 rfl rfl rfl (gT ?_)
  refine g_len_r rfl rfl Tryd.underlying37 rfl (gT ?_)
  refine g_bin rfl rfl rfl rfl rfl (gT ?_)
  refine g_mv rfl rfl (gT ?_)
  rcases its H with ⟨c1, H⟩ | ⟨c1, H⟩
  · have c1b := beq_iff_eq.mpr c1; have c1n := bne_eq_false_iff_eq.mpr c1; try simp only [c1b, c1n, nrm]
    refine g_sk rfl rfl (gT ?_)
    refine g_sk rfl rfl (gT ?_)
    refine g_sk rfl rfl (gT ?_)
    refine g_sk rfl rfl (gT ?_)
    refine g_pick rfl rfl rfl (gT ?_)
    refine g_nil (hK _ _ _ ?_)
    refine k_wk (σ := [0, 4, 8]) [2, 0, 0, 15] rfl (by decide) rfl ?_; refine gC ?_
    exact gI (ih0 true a0_0 l0_1 a0_2 a1_0 l1_1 a1_2 0 r H)
  · have c1b := beq_eq_false_iff_ne.mpr c1; have c1n := bne_iff_ne.mpr c1; try simp only [c1b, c1n, nrm]
    refine g_fd rfl rfl fa39_1 rfl (gT ?_)
    refine g_ldc rfl rfl ag37 sz37 rfl rfl rfl (gT ?_)
    refine g_len_r rfl rfl Tryd.underlying37 rfl (gT ?_)
    refine g_bin rfl rfl rfl rfl rfl (gT ?_)
    refine g_pick rfl rfl rfl (gT ?_)
    refine g_nil (hK _ _ _ ?_)
    refine k_wk (σ := [0, 4, 8]) [2, 0, 0, 15] rfl (by decide) rfl ?_; refine gC ?_
    exact gI (ih0 ((l1_1.length : Int) == 0) a0_0 l0_1 a0_2 a1_0 l1_1 a1_2 0 r H)

set_option maxHeartbeats 8000000 in
set_option maxRecDepth 100000 in
theorem slices_Equal_uint32_uint32.does_l {l0 : List Int} {l1 : List Int} (k : Nat) : (∀ (s1_0 : List Int) (s2_1 : List Int) (t_12 : Int) (t_13 : Int) (r : Bool), slices_Equal_uint32_uint32.l0 k s1_0 s2_1 t_12 t_13 = some r → wk_ E0 (slices_Equal_uint32_uint32.Q l0 l1 r) (frs (bodyOf Tryd.f31) [1, 1, 0, 1, 0] []) (sub (bodyOf Tryd.f31) [1, 1, 0, 1, 0]) ⟨[.r (s1_0.map (V.i .u32)) s1_0.length true, .r (s2_1.map (V.i .u32)) s2_1.length true, .u, .u, .u, .u, .u, .u, .u, .u, .u, .u, .i .i64 t_12, .i .i64 t_13, .u, .u, .u, .u, .u, .u, .u, .u, .u, .u, .u, .u], ofL [], 0, 0⟩) := by
  induction k with
  | zero => exact fun _ _ _ _ r h => by simp [slices_Equal_uint32_uint32.l0] at h
  | succ k ih =>
    have ih0 := ih
    refine ?_
    · intro s1_0 s2_1 t_12 t_13 r H
      unfold slices_Equal_uint32_uint32.l0 at H
      simp only [bodyOf, Tryd.f31, frs, sub, if_true, if_false, Nat.one_ne_zero]
      refine w_loop ?_
      refine w_seq ?_
      refine wR fun K hK => ?_
      refine g_bin rfl rfl rfl rfl rfl (gT ?_)
      refine g_nil (hK _ _ _ ?_)
      refine k_seq ?_
      refine w_seq ?_
      rcases its H with ⟨c2, H⟩ | ⟨c2, H⟩
      · have c2b := decide_eq_true c2; try simp only [c2b, nrm]
        refine w_cond rfl (fun _ => ?_) (fun h => Bool.noConfusion h)
        refine w_skip ?_
        refine k_seq ?_
        refine w_seq ?_
        refine w_block ?_
        refine w_seq ?_
        refine wR fun K hK => ?_
        refine g_mv rfl rfl (gT ?_)
        refine g_as rfl rfl (gT ?_)
        refine g_nil (hK _ _ _ ?_)
        refine k_seq ?_
        refine w_seq ?_
        refine wD fun K hK => ?_
        refine g_mv rfl rfl (gT ?_)
        refine g_mv rfl rfl (gT ?_)
        obtain ⟨c3, H⟩ := it1 H
        obtain ⟨c4, H⟩ := it1 H
        refine g_ixr rfl rfl Tryd.underlying37 sz67 rfl rfl (by first | assumption | omega) (by first | assumption | omega | (simp only [List.length_set, List.length_replicate] at *; omega)) (gT ?_)
        refine g_ldq rfl rfl ag67 sz67 rfl (by first | assumption | omega) (gT ?_)
        refine g_mv rfl rfl (gT ?_)
        refine g_mv rfl rfl (gT ?_)
        obtain ⟨c5, H⟩ := it1 H
        refine g_ixr rfl rfl Tryd.underlying37 sz67 rfl rfl (by first | assumption | omega) (by first | assumption | omega | (simp only [List.length_set, List.length_replicate] at *; omega)) (gT ?_)
        refine g_ldq rfl rfl ag67 sz67 rfl (by first | assumption | omega) (gT ?_)
        refine g_bin rfl rfl rfl rfl rfl (gT ?_)
        refine g_nil (hK _ _ _ (by kernel_rfl) ?_)
        refine k_seq ?_
        rcases its H with ⟨c6, H⟩ | ⟨c6, H⟩
        · have c6b := beq_iff_eq.mpr c6; have c6n := bne_eq_false_iff_eq.mpr c6; try simp only [c6b, c6n, nrm]
          refine w_cond rfl (fun h => Bool.noConfusion h) (fun _ => ?_)
          refine w_skip ?_
          refine k_block ?_
          refine k_seq ?_
          refine wR fun K hK => ?_
          refine g_bin rfl rfl rfl rfl rfl (gT ?_)
          refine g_mv rfl rfl (gT ?_)
          refine g_nil (hK _ _ _ ?_)
          refine k_loop ?_
          refine w_wk (σ := []) [0, 0, 10, 0] rfl (by decide) ?_; refine gC ?_
          exact gI (ih0 s1_0 s2_1 t_12 (wrap64 (t_13 + 1)) r H)
        · have c6b := beq_eq_false_iff_ne.mpr c6; have c6n := bne_iff_ne.mpr c6; try simp only [c6b, c6n, nrm]
          refine w_cond rfl (fun _ => ?_) (fun h => Bool.noConfusion h)
          refine w_seq ?_
          refine wR fun K hK => ?_
          refine g_as rfl rfl (gT ?_)
          refine g_nil (hK _ _ _ ?_)
          refine k_seq ?_
          refine w_ret ?_
          refine fin_wp (τ := []) rfl (by decide) ?_; rw [← Option.some.inj H]; simp only [Tryd.f31]; exact gF
      · have c2b := decide_eq_false c2; try simp only [c2b, nrm]
        refine w_cond rfl (fun h => Bool.noConfusion h) (fun _ => ?_)
        refine w_exit rfl ?_
        refine k_seq ?_
        refine w_seq ?_
        refine wR fun K hK => ?_
        refine g_as rfl rfl (gT ?_)
        refine g_nil (hK _ _ _ ?_)
        refine k_seq ?_
        refine w_ret ?_
        refine fin_wp (τ := []) rfl (by decide) ?_; rw [← Option.some.inj H]; simp only [Tryd.f31]; exact gF
set_option maxHeartbeats 8000000 in
set_option maxRecDepth 100000 in
theorem slices_Equal_uint32_uint32.does {k : Nat} {l0 : List Int} {l1 : List Int} {r : Bool} (H : slices_Equal_uint32_uint32.f k l0 l1 = some r) : Do E0 (.fn 31 [.r (l0.map (V.i .u32)) l0.length true, .r (l1.map (V.i .u32)) l1.length true] [] (.b r) []) := by
  obtain ih0 := slices_Equal_uint32_uint32.does_l (l0 := l0) (l1 := l1) k
  refine fn_wpl Tryd.func31 rfl (Q := (slices_Equal_uint32_uint32.Q l0 l1 r)) (fun s h => h) ?_
  unfold slices_Equal_uint32_uint32.f at H
  simp only [Tryd.ntmps31, List.length, List.replicate, Nat.reduceAdd, Nat.reduceSub, List.cons_append, List.nil_append]
  refine w_seq ?_
  refine wR fun K hK => ?_
  refine g_as rfl rfl (gT ?_)
  refine g_nil (hK _ _ _ ?_)
  refine k_seq ?_
  refine w_seq ?_
  refine w_seq ?_
  refine wR fun K hK => ?_
  refine g_mv rfl rfl (gT ?_)
  refine g_len_r rfl rfl Tryd.underlying37 rfl (gT ?_)
  refine g_mv rfl rfl (gT ?_)
  refine g_len_r rfl rfl Tryd.underlying37 rfl (gT ?_)
  refine g_bin rfl rfl rfl rfl rfl (gT ?_)
  refine g_nil (hK _ _ _ ?_)
  refine k_seq ?_
  rcases its H with ⟨c1, H⟩ | ⟨c1, H⟩
  · have c1b := beq_iff_eq.mpr c1; have c1n := bne_eq_false_iff_eq.mpr c1; try simp only [c1b, c1n, nrm]
    refine w_cond rfl (fun h => Bool.noConfusion h) (fun _ => ?_)
    refine w_skip ?_
    refine k_seq ?_
    refine w_seq ?_
    refine w_seq ?_
    refine wR fun K hK => ?_
    refine g_mv rfl rfl (gT ?_)
    refine g_len_r rfl rfl Tryd.underlying37 rfl (gT ?_)
    refine g_mv rfl rfl (gT ?_)
    refine g_nil (hK _ _ _ ?_)
    refine k_seq ?_
    refine w_block ?_
    refine w_wk (σ := []) [0, 0, 10, 0] rfl (by decide) ?_; refine gC ?_
    exact gI (ih0 l0 l1 (l0.length : Int) 0 r H)
  · have c1b := beq_eq_false_iff_ne.mpr c1; have c1n := bne_iff_ne.mpr c1; try simp only [c1b, c1n, nrm]
    refine w_cond rfl (fun _ => ?_) (fun h => Bool.noConfusion h)
    refine w_seq ?_
    refine wR fun K hK => ?_
    refine g_as rfl rfl (gT ?_)
    refine g_nil (hK _ _ _ ?_)
    refine k_seq ?_
    refine w_ret ?_
    refine fin_wp (τ := []) rfl (by decide) ?_; rw [← Option.some.inj H]; simp only [Tryd.f31]; exact gF

set_option maxHeartbeats 8000000 in
set_option maxRecDepth 100000 in
theorem dyad_Num_Same.does {k : Nat} {a0_0 : Bool} {l0_1 : List Int} {a0_2 : Int} {a1_0 : Bool} {l1_1 : List Int} {a1_2 : Int} {r : Bool} (H : dyad_Num_Same.f k a0_0 l0_1 a0_2 a1_0 l1_1 a1_2 = some r) : Do E0 (.fn 14 [.a [.b a0_0, .r (l0_1.map (V.i .u32)) l0_1.length true, .i .i64 a0_2], .a [.b a1_0, .r (l1_1.map (V.i .u32)) l1_1.length true, .i .i64 a1_2]] [] (.b r) []) := by
  refine fn_wpl Tryd.func14 rfl (Q := (dyad_Num_Same.Q a0_0 l0_1 a0_2 a1_0 l1_1 a1_2 r)) (fun s h => h) ?_
  unfold dyad_Num_Same.f at H
  simp only [Tryd.ntmps14, List.length, List.replicate, Nat.reduceAdd, Nat.reduceSub, List.cons_append, List.nil_append]
  refine w_seq ?_
  refine wR fun K hK => ?_
  refine g_box rfl rfl rfl (by rfl) (gU ?_)
  refine g_box rfl rfl rfl (by rfl) (gU ?_)
  refine g_as rfl rfl (gT ?_)
  refine g_nil (hK _ _ _ ?_)
  refine k_seq ?_
  refine w_seq ?_
  refine wR fun K hK => ?_
  refine g_fd rfl rfl fa39_0 rfl (gT ?_)
  refine g_ldc rfl rfl ag4 sz4 rfl rfl rfl (gT ?_)
  refine g_fd rfl rfl fa39_0 rfl (gT ?_)
  refine g_ldc rfl rfl ag4 sz4 rfl rfl rfl (gT ?_)
  refine g_eqb rfl rfl Tryd.underlying4 rfl rfl (gT ?_)
  refine g_mv rfl rfl (gT ?_)
  rcases its H with ⟨c1, H⟩ | ⟨c1, H⟩
  · have c1b : (a0_0 == a1_0) = true := c1; try simp only [c1b, nrm]
    refine g_fd rfl rfl fa39_2 rfl (gT ?_)
    refine g_ldc rfl rfl ag3 sz3 rfl rfl rfl (gT ?_)
    refine g_fd rfl rfl fa39_2 rfl (gT ?_)
    refine g_ldc rfl rfl ag3 sz3 rfl rfl rfl (gT ?_)
    refine g_bin rfl rfl rfl rfl rfl (gT ?_)
    refine g_pick rfl rfl rfl (gT ?_)
    refine g_mv rfl rfl (gT ?_)
    rcases its H with ⟨c2, H⟩ | ⟨c2, H⟩
    · have c2b := beq_iff_eq.mpr c2; have c2n := bne_eq_false_iff_eq.mpr c2; try simp only [c2b, c2n, nrm]
      refine g_fd rfl rfl fa39_1 rfl (gT ?_)
      refine g_ldc rfl rfl ag37 sz37 rfl rfl rfl (gT ?_)
      refine g_fd rfl rfl fa39_1 rfl (gT ?_)
      refine g_ldc rfl rfl ag37 sz37 rfl rfl rfl (gT ?_)
      obtain ⟨q3, hq3, H⟩ := bnd H
      refine g_cs [] rfl rfl (by rfl) Tryd.func31 rfl (by decide) (slices_Equal_uint32_uint32.does hq3) ⟨Nat.le_of_ble_eq_true rfl, Nat.le_of_ble_eq_true rfl⟩ ?_; refine gC ?_
      refine g_pick rfl rfl rfl (gT ?_)
      refine g_as rfl rfl (gT ?_)
      refine g_nil (hK _ _ _ ?_)
      refine k_seq ?_
      refine w_ret ?_
      refine fin_wp (τ := []) rfl (by decide) ?_; rw [← Option.some.inj H]; simp only [Tryd.f14]; exact gF
    · have c2b := beq_eq_false_iff_ne.mpr c2; have c2n := bne_iff_ne.mpr c2; try simp only [c2b, c2n, nrm]
      refine g_sk rfl rfl (gT ?_)
      refine g_sk rfl rfl (gT ?_)
      refine g_sk rfl rfl (gT ?_)
      refine g_sk rfl rfl (gT ?_)
      refine g_sk rfl rfl (gT ?_)
      refine g_pick rfl rfl rfl (gT ?_)
      refine g_as rfl rfl (gT ?_)
      refine g_nil (hK _ _ _ ?_)
      refine k_seq ?_
      refine w_ret ?_
      refine fin_wp (τ := []) rfl (by decide) ?_; rw [← Option.some.inj H]; simp only [Tryd.f14]; exact gF
  · have c1b : (a0_0 == a1_0) = false := Bool.eq_false_iff.mpr c1; try simp only [c1b, nrm]
    refine g_sk rfl rfl (gT ?_)
    refine g_sk rfl rfl (gT ?_)
    refine g_sk rfl rfl (gT ?_)
    refine g_sk rfl rfl (gT ?_)
    refine g_sk rfl rfl (gT ?_)
    refine g_pick rfl rfl rfl (gT ?_)
    refine g_mv rfl rfl (gT ?_)
    refine g_sk rfl rfl (gT ?_)
    refine g_sk rfl rfl (gT ?_)
    refine g_sk rfl rfl (gT ?_)
    refine g_sk rfl rfl (gT ?_)
    refine g_sk rfl rfl (gT ?_)
    refine g_pick rfl rfl rfl (gT ?_)
    refine g_as rfl rfl (gT ?_)
    refine g_nil (hK _ _ _ ?_)
    refine k_seq ?_
    refine w_ret ?_
    refine fin_wp (τ := []) rfl (by decide) ?_; rw [← Option.some.inj H]; simp only [Tryd.f14]; exact gF

end Go.Proofs.YtlhpejbmjbcmaaaDoor.F
