/- Texts of this claim, one behind the other: the functions, and that the machine does what they say. -/
import Derived.Test.YtlhpejbmjbcmaaaRx0
import Derived.Test.YtlhpejbmjbcmaaaRun1
import Derived.Laws.BitsLemmas
import Derived.ArgAppend
import Derived.Lib.AppendStr
set_option linter.constructorNameAsVariable false
set_option linter.unusedSimpArgs false
set_option linter.unusedVariables false
set_option linter.unusedSectionVars false
namespace Go.Proofs.Ytlhpejbmjbcmaaa.F
open Go Go.RowKit Go.Proofs.YtlhpejbmjbcmaaaW.PrintWords
open Go.Rk hiding Rd
set_option linter.unusedVariables false
set_option linter.unusedSimpArgs false
set_option maxRecDepth 100000
set_option maxHeartbeats 8000000 in
set_option maxRecDepth 100000 in
theorem round_Round.does_l {a0 : Bool} {a1_0 : Int} {a1_1 : Int} {a2 : Int} {a3 : Bool} (k : Nat) : (∀ (neg_0 : Bool) (exp_2 : Int) (more_3 : Bool) (drop_10 : Int) (tiny_11 : Bool) (h0_0 : Int) (h0_1 : Int) (r : Int × Int), round_Round.j0 k neg_0 exp_2 more_3 drop_10 tiny_11 h0_0 h0_1 = some r → kont E0 (round_Round.Q a0 a1_0 a1_1 a2 a3 r) (frs (bodyOf Try.f31) [1, 1, 1, 1, 1, 0, 1] []) .normal ⟨[.b neg_0, .u, .i .i64 exp_2, .b more_3, .u, .p (some (0, 0)), .u, .u, .u, .u, .i .i64 drop_10, .b tiny_11, .u, .u, .u, .u, .u, .u, .u, .u, .u, .u, .u, .u, .u, .u, .u, .u, .u, .u, .u, .u, .u, .u, .u, .u, .u, .u, .u, .u, .u, .u, .u, .u, .u, .u, .u, .u, .u, .u, .u, .u, .u, .u, .u, .u, .u, .u, .u, .u, .u, .u, .u, .u, .u, .u, .u, .u, .u, .u, .u, .u, .u, .u, .u, .u, .u, .u, .u, .u, .u, .u, .u, .u, .u, .u, .u, .u, .u, .u, .u, .u, .u, .u, .u, .u, .u, .u, .u, .u, .u, .u, .u, .u, .u, .u, .u, .u, .u, .u, .u, .u, .u, .u, .u, .u, .u, .u, .u, .u, .u, .u, .u, .u, .u, .u, .u, .u, .u, .u, .u, .u, .u, .u, .u, .u, .u, .u, .u, .u, .u], ofL [.row [.i .u64 h0_0, .i .u64 h0_1] 0 0 true true none], 1, 0⟩) ∧
    (∀ (neg_0 : Bool) (exp_2 : Int) (more_3 : Bool) (drop_10 : Int) (tiny_11 : Bool) (lost_12 : Bool) (half_13 : Bool) (fell_15 : Bool) (h0_0 : Int) (h0_1 : Int) (h1_0 : Int) (h1_1 : Int) (r : Int × Int), round_Round.j1 k neg_0 exp_2 more_3 drop_10 tiny_11 lost_12 half_13 fell_15 h1_0 h1_1 = some r → kont E0 (round_Round.Q a0 a1_0 a1_1 a2 a3 r) (frs (bodyOf Try.f31) [1, 1, 1, 1, 1, 1, 1, 0, 1, 0, 1, 1, 1, 0] []) .normal ⟨[.b neg_0, .u, .i .i64 exp_2, .b more_3, .u, .p (some (0, 0)), .u, .u, .u, .u, .i .i64 drop_10, .b tiny_11, .b lost_12, .b half_13, .p (some (1, 0)), .b fell_15, .u, .u, .u, .u, .u, .u, .u, .u, .u, .u, .u, .u, .u, .u, .u, .u, .u, .u, .u, .u, .u, .u, .u, .u, .u, .u, .u, .u, .u, .u, .u, .u, .u, .u, .u, .u, .u, .u, .u, .u, .u, .u, .u, .u, .u, .u, .u, .u, .u, .u, .u, .u, .u, .u, .u, .u, .u, .u, .u, .u, .u, .u, .u, .u, .u, .u, .u, .u, .u, .u, .u, .u, .u, .u, .u, .u, .u, .u, .u, .u, .u, .u, .u, .u, .u, .u, .u, .u, .u, .u, .u, .u, .u, .u, .u, .u, .u, .u, .u, .u, .u, .u, .u, .u, .u, .u, .u, .u, .u, .u, .u, .u, .u, .u, .u, .u, .u, .u, .u, .u, .u, .u, .u, .u, .u], ofL [.row [.i .u64 h0_0, .i .u64 h0_1] 0 0 true true none, .row [.i .u64 h1_0, .i .u64 h1_1] 0 0 true true none], 2, 0⟩) ∧
    (∀ (neg_0 : Bool) (exp_2 : Int) (drop_10 : Int) (tiny_11 : Bool) (lost_12 : Bool) (t_91 : Bool) (h0_0 : Int) (h0_1 : Int) (r : Int × Int), round_Round.j3 k neg_0 exp_2 drop_10 tiny_11 lost_12 t_91 h0_0 h0_1 = some r → kont E0 (round_Round.Q a0 a1_0 a1_1 a2 a3 r) (frs (bodyOf Try.f31) [1, 1, 1, 1, 1, 1, 1, 0, 1, 1, 0] []) .normal ⟨[.b neg_0, .u, .i .i64 exp_2, .u, .u, .p (some (0, 0)), .u, .u, .u, .u, .i .i64 drop_10, .b tiny_11, .b lost_12, .u, .u, .u, .u, .u, .u, .u, .u, .u, .u, .u, .u, .u, .u, .u, .u, .u, .u, .u, .u, .u, .u, .u, .u, .u, .u, .u, .u, .u, .u, .u, .u, .u, .u, .u, .u, .u, .u, .u, .u, .u, .u, .u, .u, .u, .u, .u, .u, .u, .u, .u, .u, .u, .u, .u, .u, .u, .u, .u, .u, .u, .u, .u, .u, .u, .u, .u, .u, .u, .u, .u, .u, .u, .u, .u, .u, .u, .u, .b t_91, .u, .u, .u, .u, .u, .u, .u, .u, .u, .u, .u, .u, .u, .u, .u, .u, .u, .u, .u, .u, .u, .u, .u, .u, .u, .u, .u, .u, .u, .u, .u, .u, .u, .u, .u, .u, .u, .u, .u, .u, .u, .u, .u, .u, .u, .u, .u, .u, .u], ofL [.row [.i .u64 h0_0, .i .u64 h0_1] 0 0 true true none], 1, 0⟩) ∧
    (∀ (neg_0 : Bool) (exp_2 : Int) (drop_10 : Int) (tiny_11 : Bool) (lost_12 : Bool) (t_79 : Bool) (h0_0 : Int) (h0_1 : Int) (r : Int × Int), round_Round.j2 k neg_0 exp_2 drop_10 tiny_11 lost_12 t_79 h0_0 h0_1 = some r → kont E0 (round_Round.Q a0 a1_0 a1_1 a2 a3 r) (frs (bodyOf Try.f31) [1, 1, 1, 1, 1, 1, 1, 0, 1, 0, 1, 1, 1, 1, 1, 0] []) .normal ⟨[.b neg_0, .u, .i .i64 exp_2, .u, .u, .p (some (0, 0)), .u, .u, .u, .u, .i .i64 drop_10, .b tiny_11, .b lost_12, .u, .u, .u, .u, .u, .u, .u, .u, .u, .u, .u, .u, .u, .u, .u, .u, .u, .u, .u, .u, .u, .u, .u, .u, .u, .u, .u, .u, .u, .u, .u, .u, .u, .u, .u, .u, .u, .u, .u, .u, .u, .u, .u, .u, .u, .u, .u, .u, .u, .u, .u, .u, .u, .u, .u, .u, .u, .u, .u, .u, .u, .u, .u, .u, .u, .u, .b t_79, .u, .u, .u, .u, .u, .u, .u, .u, .u, .u, .u, .u, .u, .u, .u, .u, .u, .u, .u, .u, .u, .u, .u, .u, .u, .u, .u, .u, .u, .u, .u, .u, .u, .u, .u, .u, .u, .u, .u, .u, .u, .u, .u, .u, .u, .u, .u, .u, .u, .u, .u, .u, .u, .u, .u, .u, .u, .u, .u, .u, .u], ofL [.row [.i .u64 h0_0, .i .u64 h0_1] 0 0 true true none], 1, 0⟩) ∧
    (∀ (neg_0 : Bool) (exp_2 : Int) (drop_10 : Int) (tiny_11 : Bool) (lost_12 : Bool) (h0_0 : Int) (h0_1 : Int) (r : Int × Int), round_Round.j4 k neg_0 exp_2 drop_10 tiny_11 lost_12 h0_0 h0_1 = some r → kont E0 (round_Round.Q a0 a1_0 a1_1 a2 a3 r) (frs (bodyOf Try.f31) [1, 1, 1, 1, 1, 1, 1, 0, 1] []) .normal ⟨[.b neg_0, .u, .i .i64 exp_2, .u, .u, .p (some (0, 0)), .u, .u, .u, .u, .i .i64 drop_10, .b tiny_11, .b lost_12, .u, .u, .u, .u, .u, .u, .u, .u, .u, .u, .u, .u, .u, .u, .u, .u, .u, .u, .u, .u, .u, .u, .u, .u, .u, .u, .u, .u, .u, .u, .u, .u, .u, .u, .u, .u, .u, .u, .u, .u, .u, .u, .u, .u, .u, .u, .u, .u, .u, .u, .u, .u, .u, .u, .u, .u, .u, .u, .u, .u, .u, .u, .u, .u, .u, .u, .u, .u, .u, .u, .u, .u, .u, .u, .u, .u, .u, .u, .u, .u, .u, .u, .u, .u, .u, .u, .u, .u, .u, .u, .u, .u, .u, .u, .u, .u, .u, .u, .u, .u, .u, .u, .u, .u, .u, .u, .u, .u, .u, .u, .u, .u, .u, .u, .u, .u, .u, .u, .u, .u, .u, .u, .u, .u, .u, .u, .u, .u], ofL [.row [.i .u64 h0_0, .i .u64 h0_1] 0 0 true true none], 1, 0⟩) ∧
    (∀ (neg_0 : Bool) (exp_2 : Int) (tiny_11 : Bool) (lost_12 : Bool) (m_16 : Int) (r : Int × Int), round_Round.j5 k neg_0 exp_2 tiny_11 lost_12 m_16 = some r → kont E0 (round_Round.Q a0 a1_0 a1_1 a2 a3 r) (frs (bodyOf Try.f31) [1, 1, 1, 1, 1, 1, 1, 1, 1, 1, 0, 1] []) .normal ⟨[.b neg_0, .u, .i .i64 exp_2, .u, .u, .u, .u, .u, .u, .u, .u, .b tiny_11, .b lost_12, .u, .u, .u, .i .u64 m_16, .u, .u, .u, .u, .u, .u, .u, .u, .u, .u, .u, .u, .u, .u, .u, .u, .u, .u, .u, .u, .u, .u, .u, .u, .u, .u, .u, .u, .u, .u, .u, .u, .u, .u, .u, .u, .u, .u, .u, .u, .u, .u, .u, .u, .u, .u, .u, .u, .u, .u, .u, .u, .u, .u, .u, .u, .u, .u, .u, .u, .u, .u, .u, .u, .u, .u, .u, .u, .u, .u, .u, .u, .u, .u, .u, .u, .u, .u, .u, .u, .u, .u, .u, .u, .u, .u, .u, .u, .u, .u, .u, .u, .u, .u, .u, .u, .u, .u, .u, .u, .u, .u, .u, .u, .u, .u, .u, .u, .u, .u, .u, .u, .u, .u, .u, .u, .u, .u, .u, .u, .u, .u, .u, .u], ofL [], 0, 0⟩) ∧
    (∀ (neg_0 : Bool) (exp_2 : Int) (m_16 : Int) (f_17 : Int) (r : Int × Int), round_Round.j6 k neg_0 exp_2 m_16 f_17 = some r → kont E0 (round_Round.Q a0 a1_0 a1_1 a2 a3 r) (frs (bodyOf Try.f31) [1, 1, 1, 1, 1, 1, 1, 1, 1, 1, 1, 1, 0, 1] []) .normal ⟨[.b neg_0, .u, .i .i64 exp_2, .u, .u, .u, .u, .u, .u, .u, .u, .u, .u, .u, .u, .u, .i .u64 m_16, .i .u8 f_17, .u, .u, .u, .u, .u, .u, .u, .u, .u, .u, .u, .u, .u, .u, .u, .u, .u, .u, .u, .u, .u, .u, .u, .u, .u, .u, .u, .u, .u, .u, .u, .u, .u, .u, .u, .u, .u, .u, .u, .u, .u, .u, .u, .u, .u, .u, .u, .u, .u, .u, .u, .u, .u, .u, .u, .u, .u, .u, .u, .u, .u, .u, .u, .u, .u, .u, .u, .u, .u, .u, .u, .u, .u, .u, .u, .u, .u, .u, .u, .u, .u, .u, .u, .u, .u, .u, .u, .u, .u, .u, .u, .u, .u, .u, .u, .u, .u, .u, .u, .u, .u, .u, .u, .u, .u, .u, .u, .u, .u, .u, .u, .u, .u, .u, .u, .u, .u, .u, .u, .u, .u, .u, .u], ofL [], 0, 0⟩) := by
  induction k with
  | zero => exact ⟨fun _ _ _ _ _ _ _ r h => by simp [round_Round.j0] at h, fun _ _ _ _ _ _ _ _ _ _ _ _ r h => by simp [round_Round.j1] at h, fun _ _ _ _ _ _ _ _ r h => by simp [round_Round.j3] at h, fun _ _ _ _ _ _ _ _ r h => by simp [round_Round.j2] at h, fun _ _ _ _ _ _ _ r h => by simp [round_Round.j4] at h, fun _ _ _ _ _ r h => by simp [round_Round.j5] at h, fun _ _ _ _ r h => by simp [round_Round.j6] at h⟩
  | succ k ih =>
    obtain ⟨ih0, ih1, ih2, ih3, ih4, ih5, ih6⟩ := ih
    refine ⟨?_, ?_, ?_, ?_, ?_, ?_, ?_⟩
    · intro neg_0 exp_2 more_3 drop_10 tiny_11 h0_0 h0_1 r H
      unfold round_Round.j0 at H
      simp only [bodyOf, Try.f31, frs, sub, if_true, if_false, Nat.one_ne_zero]
      refine k_seq ?_
      refine w_seq ?_
      refine wR fun K hK => ?_
      refine g_mv rfl rfl (gT ?_)
      refine g_as rfl rfl (gT ?_)
      refine g_nil (hK _ _ _ ?_)
      refine k_seq ?_
      refine w_seq ?_
      refine w_seq ?_
      refine wR fun K hK => ?_
      refine g_mv rfl rfl (gT ?_)
      refine g_bin rfl rfl rfl rfl rfl (gT ?_)
      refine g_nil (hK _ _ _ ?_)
      refine k_seq ?_
      rcases its H with ⟨c9, H⟩ | ⟨c9, H⟩
      · have c9b := decide_eq_true c9; try simp only [c9b, nrm]
        refine w_cond rfl (fun _ => ?_) (fun h => Bool.noConfusion h)
        refine w_seq ?_
        refine wR fun K hK => ?_
        refine g_as rfl rfl (gT ?_)
        refine g_nil (hK _ _ _ ?_)
        refine k_seq ?_
        refine w_seq ?_
        refine wR fun K hK => ?_
        refine g_lda rfl rfl ag66 sz66 rfl rfl (Nat.le_of_ble_eq_true rfl) (gT ?_)
        refine g_mv rfl rfl (gT ?_)
        obtain ⟨q10, hq10, H⟩ := bnd H
        refine g_cs [] rfl rfl (by rfl) Try.func35 rfl (by decide) (wide_Wide_Right.does hq10) ⟨Nat.le_of_ble_eq_true rfl, Nat.le_of_ble_eq_true rfl⟩ ?_; refine gC ?_
        refine g_mv rfl rfl (gT ?_)
        refine g_ext rfl rfl rfl (Nat.le_of_ble_eq_true rfl) (gT ?_)
        refine g_ext rfl rfl rfl (Nat.le_of_ble_eq_true rfl) (gT ?_)
        refine g_alloc rfl rfl zr66 (gU ?_)
        refine g_st rfl rfl sz66 rfl rfl rfl (by rfl) (Nat.le_of_ble_eq_true rfl) (gU ?_)
        refine g_as rfl rfl (gT ?_)
        refine g_nil (hK _ _ _ ?_)
        refine k_seq ?_
        refine w_seq ?_
        refine wR fun K hK => ?_
        refine g_lda rfl rfl ag66 sz66 rfl rfl (Nat.le_of_ble_eq_true rfl) (gT ?_)
        refine g_mv rfl rfl (gT ?_)
        refine g_mv rfl rfl (gT ?_)
        obtain ⟨q11, hq11, H⟩ := bnd H
        refine g_cs [] rfl rfl (by rfl) Try.func40 rfl (by decide) (round_split.does hq11) ⟨Nat.le_of_ble_eq_true rfl, Nat.le_of_ble_eq_true rfl⟩ ?_; refine gC ?_
        refine g_mv rfl rfl (gT ?_)
        refine g_ext rfl rfl rfl (Nat.le_of_ble_eq_true rfl) (gT ?_)
        refine g_ext rfl rfl rfl (Nat.le_of_ble_eq_true rfl) (gT ?_)
        refine g_as rfl rfl (gT ?_)
        refine g_as rfl rfl (gT ?_)
        refine g_nil (hK _ _ _ ?_)
        refine k_seq ?_
        refine w_seq ?_
        refine wR fun K hK => ?_
        refine g_mv rfl rfl (gT ?_)
        refine g_mv rfl rfl (gT ?_)
        rcases its H with ⟨c12, H⟩ | ⟨c12, H⟩
        · have c12b : q11.1 = true := c12; try simp only [c12b, nrm]
          refine g_sk rfl rfl (gT ?_)
          refine g_pick rfl rfl rfl (gT ?_)
          refine g_mv rfl rfl (gT ?_)
          refine g_sk rfl rfl (gT ?_)
          refine g_pick rfl rfl rfl (gT ?_)
          refine g_as rfl rfl (gT ?_)
          refine g_nil (hK _ _ _ ?_)
          refine k_wk (σ := [0, 45]) [0, 1, 0, 1, 4, 0, 0, 0, 0, 0] rfl (by decide) rfl ?_; refine gC ?_
          exact gI (ih1 neg_0 exp_2 more_3 drop_10 tiny_11 true true q11.2 h0_0 h0_1 q10.1 q10.2.1 r H)
        · have c12b : q11.1 = false := Bool.eq_false_iff.mpr c12; try simp only [c12b, nrm]
          refine g_mv rfl rfl (gT ?_)
          refine g_pick rfl rfl rfl (gT ?_)
          refine g_mv rfl rfl (gT ?_)
          rcases its H with ⟨c13, H⟩ | ⟨c13, H⟩
          · have c13b : q11.2 = true := c13; try simp only [c13b, nrm]
            refine g_sk rfl rfl (gT ?_)
            refine g_pick rfl rfl rfl (gT ?_)
            refine g_as rfl rfl (gT ?_)
            refine g_nil (hK _ _ _ ?_)
            refine k_wk (σ := [0, 45]) [0, 1, 0, 1, 4, 0, 0, 0, 0, 0] rfl (by decide) rfl ?_; refine gC ?_
            exact gI (ih1 neg_0 exp_2 more_3 drop_10 tiny_11 true false true h0_0 h0_1 q10.1 q10.2.1 r H)
          · have c13b : q11.2 = false := Bool.eq_false_iff.mpr c13; try simp only [c13b, nrm]
            refine g_mv rfl rfl (gT ?_)
            refine g_pick rfl rfl rfl (gT ?_)
            refine g_as rfl rfl (gT ?_)
            refine g_nil (hK _ _ _ ?_)
            refine k_wk (σ := [0, 45]) [0, 1, 0, 1, 4, 0, 0, 0, 0, 0] rfl (by decide) rfl ?_; refine gC ?_
            exact gI (ih1 neg_0 exp_2 more_3 drop_10 tiny_11 more_3 false false h0_0 h0_1 q10.1 q10.2.1 r H)
      · have c9b := decide_eq_false c9; try simp only [c9b, nrm]
        refine w_cond rfl (fun h => Bool.noConfusion h) (fun _ => ?_)
        refine w_seq ?_
        refine wR fun K hK => ?_
        refine g_mv rfl rfl (gT ?_)
        refine g_bin rfl rfl rfl rfl rfl (gT ?_)
        refine g_mv rfl rfl (gT ?_)
        rcases its H with ⟨c14, H⟩ | ⟨c14, H⟩
        · have c14b := decide_eq_true c14; try simp only [c14b, nrm]
          refine g_mv rfl rfl (gT ?_)
          refine g_un rfl rfl rfl rfl (gT ?_)
          refine g_pick rfl rfl rfl (gT ?_)
          refine g_nil (hK _ _ _ ?_)
          refine k_wk (σ := [0]) [0, 1, 2, 4, 0, 0, 78] rfl (by decide) rfl ?_; refine gC ?_
          exact gI (ih2 neg_0 exp_2 drop_10 tiny_11 more_3 (!more_3) h0_0 h0_1 r H)
        · have c14b := decide_eq_false c14; try simp only [c14b, nrm]
          refine g_sk rfl rfl (gT ?_)
          refine g_sk rfl rfl (gT ?_)
          refine g_pick rfl rfl rfl (gT ?_)
          refine g_nil (hK _ _ _ ?_)
          refine k_wk (σ := [0]) [0, 1, 2, 4, 0, 0, 78] rfl (by decide) rfl ?_; refine gC ?_
          exact gI (ih2 neg_0 exp_2 drop_10 tiny_11 more_3 false h0_0 h0_1 r H)
    · intro neg_0 exp_2 more_3 drop_10 tiny_11 lost_12 half_13 fell_15 h0_0 h0_1 h1_0 h1_1 r H
      unfold round_Round.j1 at H
      simp only [bodyOf, Try.f31, frs, sub, if_true, if_false, Nat.one_ne_zero]
      refine k_seq ?_
      refine w_seq ?_
      refine wR fun K hK => ?_
      refine g_lda rfl rfl ag66 sz66 rfl rfl (Nat.le_of_ble_eq_true rfl) (gT ?_)
      refine g_st rfl rfl sz66 rfl rfl rfl (by rfl) (Nat.le_of_ble_eq_true rfl) (gU ?_)
      refine g_nil (hK _ _ _ ?_)
      refine k_seq ?_
      refine w_seq ?_
      refine wR fun K hK => ?_
      refine g_mv rfl rfl (gT ?_)
      refine g_mv rfl rfl (gT ?_)
      rcases its H with ⟨c15, H⟩ | ⟨c15, H⟩
      · have c15b : half_13 = true := c15; try simp only [c15b, nrm]
        refine g_mv rfl rfl (gT ?_)
        refine g_mv rfl rfl (gT ?_)
        rcases its H with ⟨c16, H⟩ | ⟨c16, H⟩
        · have c16b : fell_15 = true := c16; try simp only [c16b, nrm]
          refine g_sk rfl rfl (gT ?_)
          refine g_pick rfl rfl rfl (gT ?_)
          refine g_mv rfl rfl (gT ?_)
          refine g_sk rfl rfl (gT ?_)
          refine g_sk rfl rfl (gT ?_)
          refine g_sk rfl rfl (gT ?_)
          refine g_sk rfl rfl (gT ?_)
          refine g_pick rfl rfl rfl (gT ?_)
          refine g_pick rfl rfl rfl (gT ?_)
          refine g_nil (hK _ _ _ ?_)
          refine k_wk (σ := [0]) [0, 1, 2, 4, 0, 0, 66] rfl (by decide) rfl ?_; refine gC ?_
          exact gI (ih3 neg_0 exp_2 drop_10 tiny_11 lost_12 true h1_0 h1_1 r H)
        · have c16b : fell_15 = false := Bool.eq_false_iff.mpr c16; try simp only [c16b, nrm]
          refine g_mv rfl rfl (gT ?_)
          refine g_pick rfl rfl rfl (gT ?_)
          refine g_mv rfl rfl (gT ?_)
          rcases its H with ⟨c17, H⟩ | ⟨c17, H⟩
          · have c17b : more_3 = true := c17; try simp only [c17b, nrm]
            refine g_sk rfl rfl (gT ?_)
            refine g_sk rfl rfl (gT ?_)
            refine g_sk rfl rfl (gT ?_)
            refine g_sk rfl rfl (gT ?_)
            refine g_pick rfl rfl rfl (gT ?_)
            refine g_pick rfl rfl rfl (gT ?_)
            refine g_nil (hK _ _ _ ?_)
            refine k_wk (σ := [0]) [0, 1, 2, 4, 0, 0, 66] rfl (by decide) rfl ?_; refine gC ?_
            exact gI (ih3 neg_0 exp_2 drop_10 tiny_11 lost_12 true h1_0 h1_1 r H)
          · have c17b : more_3 = false := Bool.eq_false_iff.mpr c17; try simp only [c17b, nrm]
            refine g_fd rfl rfl fa66_1 rfl (gT ?_)
            refine g_ldc rfl rfl ag23 sz23 rfl rfl rfl (gT ?_)
            refine g_bin rfl rfl rfl rfl rfl (gT ?_)
            refine g_bin rfl rfl rfl rfl rfl (gT ?_)
            refine g_pick rfl rfl rfl (gT ?_)
            refine g_pick rfl rfl rfl (gT ?_)
            refine g_nil (hK _ _ _ ?_)
            refine k_wk (σ := [0]) [0, 1, 2, 4, 0, 0, 66] rfl (by decide) rfl ?_; refine gC ?_
            exact gI (ih3 neg_0 exp_2 drop_10 tiny_11 lost_12 ((Go.bits .and .u64 h1_1 1) == 1) h1_0 h1_1 r H)
      · have c15b : half_13 = false := Bool.eq_false_iff.mpr c15; try simp only [c15b, nrm]
        refine g_sk rfl rfl (gT ?_)
        refine g_sk rfl rfl (gT ?_)
        refine g_sk rfl rfl (gT ?_)
        refine g_sk rfl rfl (gT ?_)
        refine g_sk rfl rfl (gT ?_)
        refine g_sk rfl rfl (gT ?_)
        refine g_sk rfl rfl (gT ?_)
        refine g_sk rfl rfl (gT ?_)
        refine g_sk rfl rfl (gT ?_)
        refine g_sk rfl rfl (gT ?_)
        refine g_pick rfl rfl rfl (gT ?_)
        refine g_nil (hK _ _ _ ?_)
        refine k_wk (σ := [0]) [0, 1, 2, 4, 0, 0, 66] rfl (by decide) rfl ?_; refine gC ?_
        exact gI (ih3 neg_0 exp_2 drop_10 tiny_11 lost_12 false h1_0 h1_1 r H)
    · intro neg_0 exp_2 drop_10 tiny_11 lost_12 t_91 h0_0 h0_1 r H
      unfold round_Round.j3 at H
      simp only [bodyOf, Try.f31, frs, sub, if_true, if_false, Nat.one_ne_zero]
      refine k_seq ?_
      rcases its H with ⟨c18, H⟩ | ⟨c18, H⟩
      · have c18b : t_91 = true := c18; try simp only [c18b, nrm]
        refine w_cond rfl (fun _ => ?_) (fun h => Bool.noConfusion h)
        refine wR fun K hK => ?_
        refine g_lda rfl rfl ag66 sz66 rfl rfl (Nat.le_of_ble_eq_true rfl) (gT ?_)
        refine g_mv rfl rfl (gT ?_)
        refine g_un rfl rfl rfl rfl (gT ?_)
        obtain ⟨q19, hq19, H⟩ := bnd H
        refine g_cs [] rfl rfl (by rfl) Try.func34 rfl (by decide) (wide_Wide_Left.does hq19) ⟨Nat.le_of_ble_eq_true rfl, Nat.le_of_ble_eq_true rfl⟩ ?_; refine gC ?_
        refine g_st rfl rfl sz66 rfl rfl rfl (by rfl) (Nat.le_of_ble_eq_true rfl) (gU ?_)
        refine g_nil (hK _ _ _ ?_)
        refine k_wk (σ := [0]) [0, 1, 2, 4, 0, 0] rfl (by decide) rfl ?_; refine gC ?_
        exact gI (ih4 neg_0 exp_2 drop_10 tiny_11 lost_12 q19.1 q19.2 r H)
      · have c18b : t_91 = false := Bool.eq_false_iff.mpr c18; try simp only [c18b, nrm]
        refine w_cond rfl (fun h => Bool.noConfusion h) (fun _ => ?_)
        refine w_seq ?_
        refine wR fun K hK => ?_
        refine g_mv rfl rfl (gT ?_)
        refine g_bin rfl rfl rfl rfl rfl (gT ?_)
        refine g_nil (hK _ _ _ ?_)
        refine k_seq ?_
        rcases its H with ⟨c20, H⟩ | ⟨c20, H⟩
        · have c20b := decide_eq_true c20; try simp only [c20b, nrm]
          refine w_cond rfl (fun _ => ?_) (fun h => Bool.noConfusion h)
          refine wR fun K hK => ?_
          refine g_lda rfl rfl ag66 sz66 rfl rfl (Nat.le_of_ble_eq_true rfl) (gT ?_)
          refine g_mv rfl rfl (gT ?_)
          refine g_un rfl rfl rfl rfl (gT ?_)
          obtain ⟨q21, hq21, H⟩ := bnd H
          refine g_cs [] rfl rfl (by rfl) Try.func34 rfl (by decide) (wide_Wide_Left.does hq21) ⟨Nat.le_of_ble_eq_true rfl, Nat.le_of_ble_eq_true rfl⟩ ?_; refine gC ?_
          refine g_st rfl rfl sz66 rfl rfl rfl (by rfl) (Nat.le_of_ble_eq_true rfl) (gU ?_)
          refine g_nil (hK _ _ _ ?_)
          refine k_wk (σ := [0]) [0, 1, 2, 4, 0, 0] rfl (by decide) rfl ?_; refine gC ?_
          exact gI (ih4 neg_0 exp_2 drop_10 tiny_11 lost_12 q21.1 q21.2 r H)
        · have c20b := decide_eq_false c20; try simp only [c20b, nrm]
          refine w_cond rfl (fun h => Bool.noConfusion h) (fun _ => ?_)
          refine w_skip ?_
          refine k_wk (σ := [0]) [0, 1, 2, 4, 0, 0] rfl (by decide) rfl ?_; refine gC ?_
          exact gI (ih4 neg_0 exp_2 drop_10 tiny_11 lost_12 h0_0 h0_1 r H)
    · intro neg_0 exp_2 drop_10 tiny_11 lost_12 t_79 h0_0 h0_1 r H
      unfold round_Round.j2 at H
      simp only [bodyOf, Try.f31, frs, sub, if_true, if_false, Nat.one_ne_zero]
      refine k_seq ?_
      rcases its H with ⟨c22, H⟩ | ⟨c22, H⟩
      · have c22b : t_79 = true := c22; try simp only [c22b, nrm]
        refine w_cond rfl (fun _ => ?_) (fun h => Bool.noConfusion h)
        refine wR fun K hK => ?_
        refine g_lda rfl rfl ag66 sz66 rfl rfl (Nat.le_of_ble_eq_true rfl) (gT ?_)
        refine g_bd rfl rfl zr66 Try.underlying66 (pl := [(0, 1), (1, 1)]) (by kernel_rfl) ?_; refine gB ?_
        obtain ⟨q23, hq23, H⟩ := bnd H
        refine g_cs [] rfl rfl (by rfl) Try.func36 rfl (by decide) (wide_Wide_Add.does hq23) ⟨Nat.le_of_ble_eq_true rfl, Nat.le_of_ble_eq_true rfl⟩ ?_; refine gC ?_
        refine g_mv rfl rfl (gT ?_)
        refine g_ext rfl rfl rfl (Nat.le_of_ble_eq_true rfl) (gT ?_)
        refine g_ext rfl rfl rfl (Nat.le_of_ble_eq_true rfl) (gT ?_)
        refine g_st rfl rfl sz66 rfl rfl rfl (by rfl) (Nat.le_of_ble_eq_true rfl) (gU ?_)
        refine g_nil (hK _ _ _ ?_)
        refine k_wk (σ := [0]) [0, 1, 2, 4, 0, 0] rfl (by decide) rfl ?_; refine gC ?_
        exact gI (ih4 neg_0 exp_2 drop_10 tiny_11 lost_12 q23.1 q23.2.1 r H)
      · have c22b : t_79 = false := Bool.eq_false_iff.mpr c22; try simp only [c22b, nrm]
        refine w_cond rfl (fun h => Bool.noConfusion h) (fun _ => ?_)
        refine w_skip ?_
        refine k_wk (σ := [0]) [0, 1, 2, 4, 0, 0] rfl (by decide) rfl ?_; refine gC ?_
        exact gI (ih4 neg_0 exp_2 drop_10 tiny_11 lost_12 h0_0 h0_1 r H)
    · intro neg_0 exp_2 drop_10 tiny_11 lost_12 h0_0 h0_1 r H
      unfold round_Round.j4 at H
      simp only [bodyOf, Try.f31, frs, sub, if_true, if_false, Nat.one_ne_zero]
      refine k_seq ?_
      refine w_seq ?_
      refine wR fun K hK => ?_
      refine g_mv rfl rfl (gT ?_)
      refine g_mv rfl rfl (gT ?_)
      refine g_bin rfl rfl rfl rfl rfl (gT ?_)
      refine g_as rfl rfl (gT ?_)
      refine g_nil (hK _ _ _ ?_)
      refine k_seq ?_
      refine w_seq ?_
      refine wR fun K hK => ?_
      refine g_fd rfl rfl fa66_1 rfl (gT ?_)
      refine g_ldc rfl rfl ag23 sz23 rfl rfl rfl (gT ?_)
      refine g_as rfl rfl (gT ?_)
      refine g_nil (hK _ _ _ ?_)
      refine k_seq ?_
      refine w_seq ?_
      refine w_seq ?_
      refine wR fun K hK => ?_
      refine g_mv rfl rfl (gT ?_)
      refine g_bin rfl rfl rfl rfl rfl (gT ?_)
      refine g_nil (hK _ _ _ ?_)
      refine k_seq ?_
      rcases its H with ⟨c24, H⟩ | ⟨c24, H⟩
      · have c24b := beq_iff_eq.mpr c24; have c24n := bne_eq_false_iff_eq.mpr c24; try simp only [c24b, c24n, nrm]
        refine w_cond rfl (fun _ => ?_) (fun h => Bool.noConfusion h)
        refine wR fun K hK => ?_
        refine g_mv rfl rfl (gT ?_)
        refine g_shrc (p := 2) rfl rfl rfl rfl (by decide) (by rfl) (gT ?_)
        refine g_mv rfl rfl (gT ?_)
        refine g_bin rfl rfl rfl rfl rfl (gT ?_)
        refine g_as rfl rfl (gT ?_)
        refine g_as rfl rfl (gT ?_)
        refine g_nil (hK _ _ _ ?_)
        refine k_wk (σ := []) [0, 1, 8, 0, 3] rfl (by decide) rfl ?_; refine gC ?_
        exact gI (ih5 neg_0 (wrap64 ((wrap64 (exp_2 + drop_10)) + 1)) tiny_11 lost_12 (h0_1 / 2) r H)
      · have c24b := beq_eq_false_iff_ne.mpr c24; have c24n := bne_iff_ne.mpr c24; try simp only [c24b, c24n, nrm]
        refine w_cond rfl (fun h => Bool.noConfusion h) (fun _ => ?_)
        refine w_skip ?_
        refine k_wk (σ := []) [0, 1, 8, 0, 3] rfl (by decide) rfl ?_; refine gC ?_
        exact gI (ih5 neg_0 (wrap64 (exp_2 + drop_10)) tiny_11 lost_12 h0_1 r H)
    · intro neg_0 exp_2 tiny_11 lost_12 m_16 r H
      unfold round_Round.j5 at H
      simp only [bodyOf, Try.f31, frs, sub, if_true, if_false, Nat.one_ne_zero]
      refine k_seq ?_
      refine w_seq ?_
      refine wR fun K hK => ?_
      refine g_as rfl rfl (gT ?_)
      refine g_nil (hK _ _ _ ?_)
      refine k_seq ?_
      refine w_seq ?_
      refine w_seq ?_
      refine wR fun K hK => ?_
      refine g_mv rfl rfl (gT ?_)
      refine g_nil (hK _ _ _ ?_)
      refine k_seq ?_
      rcases its H with ⟨c25, H⟩ | ⟨c25, H⟩
      · have c25b : lost_12 = true := c25; try simp only [c25b, nrm]
        refine w_cond rfl (fun _ => ?_) (fun h => Bool.noConfusion h)
        refine w_seq ?_
        refine wR fun K hK => ?_
        refine g_mv rfl rfl (gT ?_)
        refine g_bin rfl rfl rfl rfl rfl (gT ?_)
        refine g_as rfl rfl (gT ?_)
        refine g_nil (hK _ _ _ ?_)
        refine k_seq ?_
        refine w_seq ?_
        refine wR fun K hK => ?_
        refine g_mv rfl rfl (gT ?_)
        refine g_nil (hK _ _ _ ?_)
        refine k_seq ?_
        rcases its H with ⟨c26, H⟩ | ⟨c26, H⟩
        · have c26b : tiny_11 = true := c26; try simp only [c26b, nrm]
          refine w_cond rfl (fun _ => ?_) (fun h => Bool.noConfusion h)
          refine wR fun K hK => ?_
          refine g_mv rfl rfl (gT ?_)
          refine g_bin rfl rfl rfl rfl rfl (gT ?_)
          refine g_as rfl rfl (gT ?_)
          refine g_nil (hK _ _ _ ?_)
          refine k_wk (σ := []) [0, 1, 13, 0] rfl (by decide) rfl ?_; refine gC ?_
          exact gI (ih6 neg_0 exp_2 m_16 (Go.bits .or .u8 (Go.bits .or .u8 0 1) 2) r H)
        · have c26b : tiny_11 = false := Bool.eq_false_iff.mpr c26; try simp only [c26b, nrm]
          refine w_cond rfl (fun h => Bool.noConfusion h) (fun _ => ?_)
          refine w_skip ?_
          refine k_wk (σ := []) [0, 1, 13, 0] rfl (by decide) rfl ?_; refine gC ?_
          exact gI (ih6 neg_0 exp_2 m_16 (Go.bits .or .u8 0 1) r H)
      · have c25b : lost_12 = false := Bool.eq_false_iff.mpr c25; try simp only [c25b, nrm]
        refine w_cond rfl (fun h => Bool.noConfusion h) (fun _ => ?_)
        refine w_skip ?_
        refine k_wk (σ := []) [0, 1, 13, 0] rfl (by decide) rfl ?_; refine gC ?_
        exact gI (ih6 neg_0 exp_2 m_16 0 r H)
    · intro neg_0 exp_2 m_16 f_17 r H
      unfold round_Round.j6 at H
      simp only [bodyOf, Try.f31, frs, sub, if_true, if_false, Nat.one_ne_zero]
      refine k_seq ?_
      refine w_seq ?_
      refine w_block ?_
      refine w_seq ?_
      refine wR fun K hK => ?_
      refine g_mv rfl rfl (gT ?_)
      refine g_bin rfl rfl rfl rfl rfl (gT ?_)
      refine g_as rfl rfl (gT ?_)
      refine g_nil (hK _ _ _ ?_)
      refine k_seq ?_
      rcases its H with ⟨c27, H⟩ | ⟨c27, H⟩
      · have c27b := decide_eq_true c27; try simp only [c27b, nrm]
        refine w_cond rfl (fun _ => ?_) (fun h => Bool.noConfusion h)
        refine w_seq ?_
        refine wR fun K hK => ?_
        refine g_mv rfl rfl (gT ?_)
        refine g_mv rfl rfl (gT ?_)
        obtain ⟨q28, hq28, H⟩ := bnd H
        refine g_cs [] rfl rfl (by rfl) Try.func13 rfl (by decide) (word_Make.does hq28) ⟨Nat.le_of_ble_eq_true rfl, Nat.le_of_ble_eq_true rfl⟩ ?_; refine gC ?_
        refine g_mv rfl rfl (gT ?_)
        refine g_as rfl rfl (gT ?_)
        refine g_as rfl rfl (gT ?_)
        refine g_nil (hK _ _ _ ?_)
        refine k_seq ?_
        refine w_ret ?_
        refine fin_wp (τ := []) rfl (by decide) ?_; rw [← Option.some.inj H]; simp only [Try.f31]; exact gF
      · have c27b := decide_eq_false c27; try simp only [c27b, nrm]
        refine w_cond rfl (fun h => Bool.noConfusion h) (fun _ => ?_)
        refine w_seq ?_
        refine wR fun K hK => ?_
        refine g_mv rfl rfl (gT ?_)
        refine g_bin rfl rfl rfl rfl rfl (gT ?_)
        refine g_bin rfl rfl rfl rfl rfl (gT ?_)
        refine g_as rfl rfl (gT ?_)
        refine g_nil (hK _ _ _ ?_)
        refine k_seq ?_
        rcases its H with ⟨c29, H⟩ | ⟨c29, H⟩
        · have c29b := decide_eq_true c29; try simp only [c29b, nrm]
          refine w_cond rfl (fun _ => ?_) (fun h => Bool.noConfusion h)
          refine w_seq ?_
          refine wR fun K hK => ?_
          refine g_mv rfl rfl (gT ?_)
          obtain ⟨q30, hq30, H⟩ := bnd H
          refine g_cs [] rfl rfl (by rfl) Try.func13 rfl (by decide) (word_Make.does hq30) ⟨Nat.le_of_ble_eq_true rfl, Nat.le_of_ble_eq_true rfl⟩ ?_; refine gC ?_
          refine g_mv rfl rfl (gT ?_)
          refine g_bin rfl rfl rfl rfl rfl (gT ?_)
          refine g_bin rfl rfl rfl rfl rfl (gT ?_)
          refine g_as rfl rfl (gT ?_)
          refine g_as rfl rfl (gT ?_)
          refine g_nil (hK _ _ _ ?_)
          refine k_seq ?_
          refine w_ret ?_
          refine fin_wp (τ := []) rfl (by decide) ?_; rw [← Option.some.inj H]; simp only [Try.f31]; exact gF
        · have c29b := decide_eq_false c29; try simp only [c29b, nrm]
          refine w_cond rfl (fun h => Bool.noConfusion h) (fun _ => ?_)
          refine w_skip ?_
          refine k_block ?_
          refine k_seq ?_
          refine w_seq ?_
          refine wR fun K hK => ?_
          refine g_mv rfl rfl (gT ?_)
          refine g_mv rfl rfl (gT ?_)
          refine g_bin rfl rfl rfl rfl rfl (gT ?_)
          refine g_mv rfl rfl (gT ?_)
          obtain ⟨q31, hq31, H⟩ := bnd H
          refine g_cs [] rfl rfl (by rfl) Try.func13 rfl (by decide) (word_Make.does hq31) ⟨Nat.le_of_ble_eq_true rfl, Nat.le_of_ble_eq_true rfl⟩ ?_; refine gC ?_
          refine g_mv rfl rfl (gT ?_)
          refine g_as rfl rfl (gT ?_)
          refine g_as rfl rfl (gT ?_)
          refine g_nil (hK _ _ _ ?_)
          refine k_seq ?_
          refine w_ret ?_
          refine fin_wp (τ := []) rfl (by decide) ?_; rw [← Option.some.inj H]; simp only [Try.f31]; exact gF
set_option maxHeartbeats 8000000 in
set_option maxRecDepth 100000 in
theorem round_Round.does {k : Nat} {a0 : Bool} {a1_0 : Int} {a1_1 : Int} {a2 : Int} {a3 : Bool} {r : Int × Int} (H : round_Round.f k a0 a1_0 a1_1 a2 a3 = some r) : Do E0 (.fn 31 [.b a0, .a [.i .u64 a1_0, .i .u64 a1_1], .i .i64 a2, .b a3] [] (.t [.i .u64 r.1, .i .u8 r.2]) []) := by
  obtain ⟨ih0, ih1, ih2, ih3, ih4, ih5, ih6⟩ := round_Round.does_l (a0 := a0) (a1_0 := a1_0) (a1_1 := a1_1) (a2 := a2) (a3 := a3) k
  refine fn_wpl Try.func31 rfl (Q := (round_Round.Q a0 a1_0 a1_1 a2 a3 r)) (fun s h => h) ?_
  unfold round_Round.f at H
  simp only [Try.ntmps31, List.length, List.replicate, Nat.reduceAdd, Nat.reduceSub, List.cons_append, List.nil_append]
  refine w_seq ?_
  refine wR fun K hK => ?_
  refine g_box rfl rfl rfl (by rfl) (gU ?_)
  refine g_as rfl rfl (gT ?_)
  refine g_as rfl rfl (gT ?_)
  refine g_nil (hK _ _ _ ?_)
  refine k_seq ?_
  refine w_seq ?_
  refine wR fun K hK => ?_
  refine g_mv rfl rfl (gT ?_)
  refine g_min rfl rfl rfl rfl (m := mn _ _) rfl (gT ?_)
  refine g_max rfl rfl rfl rfl (m := mx _ _) rfl (gT ?_)
  refine g_as rfl rfl (gT ?_)
  refine g_nil (hK _ _ _ ?_)
  refine k_seq ?_
  refine w_seq ?_
  refine w_seq ?_
  refine wR fun K hK => ?_
  refine g_lda rfl rfl ag66 sz66 rfl rfl (Nat.le_of_ble_eq_true rfl) (gT ?_)
  obtain ⟨q1, hq1, H⟩ := bnd H
  refine g_cs [] rfl rfl (by rfl) Try.func38 rfl (by decide) (wide_Wide_Zero.does hq1) ⟨Nat.le_of_ble_eq_true rfl, Nat.le_of_ble_eq_true rfl⟩ ?_; refine gC ?_
  refine g_nil (hK _ _ _ ?_)
  refine k_seq ?_
  rcases its H with ⟨c2, H⟩ | ⟨c2, H⟩
  · have c2b : q1 = true := c2; try simp only [c2b, nrm]
    refine w_cond rfl (fun _ => ?_) (fun h => Bool.noConfusion h)
    refine w_seq ?_
    refine w_seq ?_
    refine wR fun K hK => ?_
    refine g_mv rfl rfl (gT ?_)
    refine g_un rfl rfl rfl rfl (gT ?_)
    refine g_nil (hK _ _ _ ?_)
    refine k_seq ?_
    rcases its H with ⟨c3, H⟩ | ⟨c3, H⟩
    · have c3b : a3 = true := c3; try simp only [c3b, nrm]
      refine w_cond rfl (fun h => Bool.noConfusion h) (fun _ => ?_)
      refine w_skip ?_
      refine k_seq ?_
      refine w_seq ?_
      refine wR fun K hK => ?_
      refine g_mv rfl rfl (gT ?_)
      obtain ⟨q4, hq4, H⟩ := bnd H
      refine g_cs [] rfl rfl (by rfl) Try.func13 rfl (by decide) (word_Make.does hq4) ⟨Nat.le_of_ble_eq_true rfl, Nat.le_of_ble_eq_true rfl⟩ ?_; refine gC ?_
      refine g_as rfl rfl (gT ?_)
      refine g_as rfl rfl (gT ?_)
      refine g_nil (hK _ _ _ ?_)
      refine k_seq ?_
      refine w_ret ?_
      refine fin_wp (τ := []) rfl (by decide) ?_; rw [← Option.some.inj H]; simp only [Try.f31]; exact gF
    · have c3b : a3 = false := Bool.eq_false_iff.mpr c3; try simp only [c3b, nrm]
      refine w_cond rfl (fun _ => ?_) (fun h => Bool.noConfusion h)
      refine w_seq ?_
      refine wR fun K hK => ?_
      refine g_mv rfl rfl (gT ?_)
      obtain ⟨q5, hq5, H⟩ := bnd H
      refine g_cs [] rfl rfl (by rfl) Try.func13 rfl (by decide) (word_Make.does hq5) ⟨Nat.le_of_ble_eq_true rfl, Nat.le_of_ble_eq_true rfl⟩ ?_; refine gC ?_
      refine g_as rfl rfl (gT ?_)
      refine g_as rfl rfl (gT ?_)
      refine g_nil (hK _ _ _ ?_)
      refine k_seq ?_
      refine w_ret ?_
      refine fin_wp (τ := []) rfl (by decide) ?_; rw [← Option.some.inj H]; simp only [Try.f31]; exact gF
  · have c2b : q1 = false := Bool.eq_false_iff.mpr c2; try simp only [c2b, nrm]
    refine w_cond rfl (fun h => Bool.noConfusion h) (fun _ => ?_)
    refine w_skip ?_
    refine k_seq ?_
    refine w_seq ?_
    refine wR fun K hK => ?_
    refine g_lda rfl rfl ag66 sz66 rfl rfl (Nat.le_of_ble_eq_true rfl) (gT ?_)
    obtain ⟨q6, hq6, H⟩ := bnd H
    refine g_cs [] rfl rfl (by rfl) Try.func39 rfl (by decide) (wide_Wide_Len.does hq6) ⟨Nat.le_of_ble_eq_true rfl, Nat.le_of_ble_eq_true rfl⟩ ?_; refine gC ?_
    refine g_bin rfl rfl rfl rfl rfl (gT ?_)
    refine g_as rfl rfl (gT ?_)
    refine g_nil (hK _ _ _ ?_)
    refine k_seq ?_
    refine w_seq ?_
    refine wR fun K hK => ?_
    refine g_mv rfl rfl (gT ?_)
    refine g_lda rfl rfl ag66 sz66 rfl rfl (Nat.le_of_ble_eq_true rfl) (gT ?_)
    obtain ⟨q7, hq7, H⟩ := bnd H
    refine g_cs [] rfl rfl (by rfl) Try.func39 rfl (by decide) (wide_Wide_Len.does hq7) ⟨Nat.le_of_ble_eq_true rfl, Nat.le_of_ble_eq_true rfl⟩ ?_; refine gC ?_
    refine g_bin rfl rfl rfl rfl rfl (gT ?_)
    refine g_bin rfl rfl rfl rfl rfl (gT ?_)
    refine g_as rfl rfl (gT ?_)
    refine g_nil (hK _ _ _ ?_)
    refine k_seq ?_
    refine w_seq ?_
    refine w_seq ?_
    refine wR fun K hK => ?_
    refine g_mv rfl rfl (gT ?_)
    refine g_mv rfl rfl (gT ?_)
    refine g_bin rfl rfl rfl rfl rfl (gT ?_)
    refine g_bin rfl rfl rfl rfl rfl (gT ?_)
    refine g_nil (hK _ _ _ ?_)
    refine k_seq ?_
    rcases its H with ⟨c8, H⟩ | ⟨c8, H⟩
    · have c8b := decide_eq_true c8; try simp only [c8b, nrm]
      refine w_cond rfl (fun _ => ?_) (fun h => Bool.noConfusion h)
      refine wR fun K hK => ?_
      refine g_mv rfl rfl (gT ?_)
      refine g_bin rfl rfl rfl rfl rfl (gT ?_)
      refine g_as rfl rfl (gT ?_)
      refine g_nil (hK _ _ _ ?_)
      refine k_wk (σ := [0]) [0, 1, 0, 1, 4, 0] rfl (by decide) rfl ?_; refine gC ?_
      exact gI (ih0 a0 (mx (-100000) (mn a2 100000)) a3 (wrap64 ((-1074) - (mx (-100000) (mn a2 100000)))) (decide ((wrap64 ((mx (-100000) (mn a2 100000)) + q7)) < (-1021))) a1_0 a1_1 r H)
    · have c8b := decide_eq_false c8; try simp only [c8b, nrm]
      refine w_cond rfl (fun h => Bool.noConfusion h) (fun _ => ?_)
      refine w_skip ?_
      refine k_wk (σ := [0]) [0, 1, 0, 1, 4, 0] rfl (by decide) rfl ?_; refine gC ?_
      exact gI (ih0 a0 (mx (-100000) (mn a2 100000)) a3 (wrap64 (q6 - 53)) (decide ((wrap64 ((mx (-100000) (mn a2 100000)) + q7)) < (-1021))) a1_0 a1_1 r H)

set_option maxHeartbeats 8000000 in
set_option maxRecDepth 100000 in
theorem wide_Wide_Sub.does {a0_0 : Int} {a0_1 : Int} {a1_0 : Int} {a1_1 : Int} {r : Int × Int × Bool} (H : wide_Wide_Sub.f a0_0 a0_1 a1_0 a1_1 = some r) : Do E0 (.fn 37 [.a [.i .u64 a0_0, .i .u64 a0_1], .a [.i .u64 a1_0, .i .u64 a1_1]] [] (.t [.a [.i .u64 r.1, .i .u64 r.2.1], .b r.2.2]) []) := by
  refine fn_wpl Try.func37 rfl (Q := (wide_Wide_Sub.Q a0_0 a0_1 a1_0 a1_1 r)) (fun s h => h) ?_
  unfold wide_Wide_Sub.f at H
  simp only [Try.ntmps37, List.length, List.replicate, Nat.reduceAdd, Nat.reduceSub, List.cons_append, List.nil_append]
  refine w_seq ?_
  refine wR fun K hK => ?_
  refine g_box rfl rfl rfl (by rfl) (gU ?_)
  refine g_box rfl rfl rfl (by rfl) (gU ?_)
  refine g_alloc rfl rfl zr66 (gU ?_)
  refine g_as rfl rfl (gT ?_)
  refine g_nil (hK _ _ _ ?_)
  refine k_seq ?_
  refine w_seq ?_
  refine wR fun K hK => ?_
  refine g_fd rfl rfl fa66_1 rfl (gT ?_)
  refine g_ldc rfl rfl ag23 sz23 rfl rfl rfl (gT ?_)
  refine g_fd rfl rfl fa66_1 rfl (gT ?_)
  refine g_ldc rfl rfl ag23 sz23 rfl rfl rfl (gT ?_)
  obtain ⟨q1, hq1, H⟩ := bnd H
  refine g_ex rfl rfl Try.func42 rfl (bits_Sub64.ext hq1) (gT ?_)
  refine g_mv rfl rfl (gT ?_)
  refine g_ext rfl rfl rfl (Nat.le_of_ble_eq_true rfl) (gT ?_)
  refine g_ext rfl rfl rfl (Nat.le_of_ble_eq_true rfl) (gT ?_)
  refine g_as rfl rfl (gT ?_)
  refine g_as rfl rfl (gT ?_)
  refine g_nil (hK _ _ _ ?_)
  refine k_seq ?_
  refine w_seq ?_
  refine wR fun K hK => ?_
  refine g_fd rfl rfl fa66_0 rfl (gT ?_)
  refine g_ldc rfl rfl ag23 sz23 rfl rfl rfl (gT ?_)
  refine g_fd rfl rfl fa66_0 rfl (gT ?_)
  refine g_ldc rfl rfl ag23 sz23 rfl rfl rfl (gT ?_)
  refine g_mv rfl rfl (gT ?_)
  obtain ⟨q2, hq2, H⟩ := bnd H
  refine g_ex rfl rfl Try.func42 rfl (bits_Sub64.ext hq2) (gT ?_)
  refine g_mv rfl rfl (gT ?_)
  refine g_ext rfl rfl rfl (Nat.le_of_ble_eq_true rfl) (gT ?_)
  refine g_ext rfl rfl rfl (Nat.le_of_ble_eq_true rfl) (gT ?_)
  refine g_as rfl rfl (gT ?_)
  refine g_as rfl rfl (gT ?_)
  refine g_nil (hK _ _ _ ?_)
  refine k_seq ?_
  refine w_seq ?_
  refine wR fun K hK => ?_
  refine g_mv rfl rfl (gT ?_)
  refine g_mv rfl rfl (gT ?_)
  refine g_bd rfl rfl zr66 Try.underlying66 (pl := [(0, 1), (1, 1)]) (by kernel_rfl) ?_; refine gB ?_
  refine g_mv rfl rfl (gT ?_)
  refine g_bin rfl rfl rfl rfl rfl (gT ?_)
  refine g_st rfl rfl sz66 rfl rfl rfl (by rfl) (Nat.le_of_ble_eq_true rfl) (gU ?_)
  refine g_as rfl rfl (gT ?_)
  refine g_nil (hK _ _ _ ?_)
  refine k_seq ?_
  refine w_ret ?_
  refine fin_wp (τ := []) rfl (by decide) ?_; rw [← Option.some.inj H]; simp only [Try.f37, ag66, sz66, nrm, nrmw, nrmc, nrme, nrmo, nrml, nrmb, nrmx, Nat.reduceEqDiff, Nat.reduceBEq, Nat.zero_add, Nat.add_zero, Nat.mul_one, List.length_cons, List.length_nil, List.length_map, List.length_set, List.length_replicate, List.drop_zero, List.drop_succ_cons, List.drop_nil, List.take_zero, List.take_succ_cons, List.take_nil, Nat.le_refl, if_true, if_false, Option.any_none, Option.any_some, List.contains_nil, Bool.not_false, Bool.or_true, Bool.true_or, Bool.or_false, Bool.false_or, Bool.and_true, Bool.true_and, Bool.and_self, reduceCtorEq, beq_self_eq_true, List.map_cons, List.map_nil, List.append_nil, List.nil_append, List.contains_cons, List.filter_cons, List.filter_nil, List.cons_append, Bool.false_eq_true, true_and, and_true, List.getElem_toArray, List.getElem_cons_zero, List.getElem_cons_succ, Nat.reduceAdd, Nat.reduceMul, Nat.reduceLT, Nat.reduceSub, Nat.reduceLeDiff]; try (first | rfl | exact ⟨rfl, trivial⟩ | exact ⟨rfl, rfl⟩)

set_option maxHeartbeats 8000000 in
set_option maxRecDepth 100000 in
theorem soft_Add.does_l {a0 : Int} {a1 : Int} (k : Nat) : (∀ (a_0 : Int) (b_1 : Int) (x_9 : Int) (y_10 : Int) (t_37 : Bool) (r : Int × Int), soft_Add.j0 k a_0 b_1 x_9 y_10 t_37 = some r → kont E0 (soft_Add.Q a0 a1 r) (frs (bodyOf Try.f28) [1, 1, 1, 0, 0, 0] []) .normal ⟨[.i .u64 a_0, .i .u64 b_1, .u, .u, .u, .u, .u, .u, .u, .i .i64 x_9, .i .i64 y_10, .u, .u, .u, .u, .u, .u, .u, .u, .u, .u, .u, .u, .u, .u, .u, .u, .u, .u, .u, .u, .u, .u, .u, .u, .u, .u, .b t_37, .u, .u, .u, .u, .u, .u, .u, .u, .u, .u, .u, .u, .u, .u, .u, .u, .u, .u, .u, .u, .u, .u, .u, .u, .u, .u, .u, .u, .u, .u, .u, .u, .u, .u, .u, .u, .u, .u, .u, .u, .u, .u, .u, .u, .u, .u, .u, .u, .u, .u, .u, .u, .u, .u, .u, .u, .u, .u, .u, .u, .u, .u, .u, .u, .u, .u, .u, .u, .u, .u, .u, .u, .u, .u, .u, .u, .u, .u, .u, .u, .u, .u, .u, .u, .u, .u, .u, .u, .u, .u, .u, .u, .u, .u, .u, .u, .u, .u, .u, .u, .u, .u, .u, .u, .u, .u, .u, .u, .u, .u, .u, .u, .u, .u, .u], ofL [], 0, 0⟩) ∧
    (∀ (a_0 : Int) (b_1 : Int) (x_9 : Int) (y_10 : Int) (t_57 : Bool) (r : Int × Int), soft_Add.j1 k a_0 b_1 x_9 y_10 t_57 = some r → kont E0 (soft_Add.Q a0 a1 r) (frs (bodyOf Try.f28) [1, 1, 1, 0, 0, 1, 1, 1, 1, 1, 1, 0] []) .normal ⟨[.i .u64 a_0, .i .u64 b_1, .u, .u, .u, .u, .u, .u, .u, .i .i64 x_9, .i .i64 y_10, .u, .u, .u, .u, .u, .u, .u, .u, .u, .u, .u, .u, .u, .u, .u, .u, .u, .u, .u, .u, .u, .u, .u, .u, .u, .u, .u, .u, .u, .u, .u, .u, .u, .u, .u, .u, .u, .u, .u, .u, .u, .u, .u, .u, .u, .u, .b t_57, .u, .u, .u, .u, .u, .u, .u, .u, .u, .u, .u, .u, .u, .u, .u, .u, .u, .u, .u, .u, .u, .u, .u, .u, .u, .u, .u, .u, .u, .u, .u, .u, .u, .u, .u, .u, .u, .u, .u, .u, .u, .u, .u, .u, .u, .u, .u, .u, .u, .u, .u, .u, .u, .u, .u, .u, .u, .u, .u, .u, .u, .u, .u, .u, .u, .u, .u, .u, .u, .u, .u, .u, .u, .u, .u, .u, .u, .u, .u, .u, .u, .u, .u, .u, .u, .u, .u, .u, .u, .u, .u, .u, .u, .u, .u], ofL [], 0, 0⟩) ∧
    (∀ (a_0 : Int) (b_1 : Int) (r : Int × Int), soft_Add.j2 k a_0 b_1 = some r → kont E0 (soft_Add.Q a0 a1 r) (frs (bodyOf Try.f28) [1, 1, 1, 1, 0, 1] []) .normal ⟨[.i .u64 a_0, .i .u64 b_1, .u, .u, .u, .u, .u, .u, .u, .u, .u, .u, .u, .u, .u, .u, .u, .u, .u, .u, .u, .u, .u, .u, .u, .u, .u, .u, .u, .u, .u, .u, .u, .u, .u, .u, .u, .u, .u, .u, .u, .u, .u, .u, .u, .u, .u, .u, .u, .u, .u, .u, .u, .u, .u, .u, .u, .u, .u, .u, .u, .u, .u, .u, .u, .u, .u, .u, .u, .u, .u, .u, .u, .u, .u, .u, .u, .u, .u, .u, .u, .u, .u, .u, .u, .u, .u, .u, .u, .u, .u, .u, .u, .u, .u, .u, .u, .u, .u, .u, .u, .u, .u, .u, .u, .u, .u, .u, .u, .u, .u, .u, .u, .u, .u, .u, .u, .u, .u, .u, .u, .u, .u, .u, .u, .u, .u, .u, .u, .u, .u, .u, .u, .u, .u, .u, .u, .u, .u, .u, .u, .u, .u, .u, .u, .u, .u, .u, .u, .u, .u, .u, .u], ofL [], 0, 0⟩) ∧
    (∀ (a_0 : Int) (e_12 : Int) (low_17 : Bool) (h0_0 : Int) (h0_1 : Int) (h1_0 : Int) (h1_1 : Int) (r : Int × Int), soft_Add.j3 k a_0 e_12 low_17 h0_0 h0_1 h1_0 h1_1 = some r → kont E0 (soft_Add.Q a0 a1 r) (frs (bodyOf Try.f28) [1, 1, 1, 1, 1, 1, 1, 1, 1, 1, 0, 1] []) .normal ⟨[.i .u64 a_0, .u, .u, .u, .u, .u, .u, .u, .u, .u, .u, .u, .i .i64 e_12, .u, .u, .p (some (0, 0)), .p (some (1, 0)), .b low_17, .u, .u, .u, .u, .u, .u, .u, .u, .u, .u, .u, .u, .u, .u, .u, .u, .u, .u, .u, .u, .u, .u, .u, .u, .u, .u, .u, .u, .u, .u, .u, .u, .u, .u, .u, .u, .u, .u, .u, .u, .u, .u, .u, .u, .u, .u, .u, .u, .u, .u, .u, .u, .u, .u, .u, .u, .u, .u, .u, .u, .u, .u, .u, .u, .u, .u, .u, .u, .u, .u, .u, .u, .u, .u, .u, .u, .u, .u, .u, .u, .u, .u, .u, .u, .u, .u, .u, .u, .u, .u, .u, .u, .u, .u, .u, .u, .u, .u, .u, .u, .u, .u, .u, .u, .u, .u, .u, .u, .u, .u, .u, .u, .u, .u, .u, .u, .u, .u, .u, .u, .u, .u, .u, .u, .u, .u, .u, .u, .u, .u, .u, .u, .u, .u, .u], ofL [.row [.i .u64 h0_0, .i .u64 h0_1] 0 0 true true none, .row [.i .u64 h1_0, .i .u64 h1_1] 0 0 true true none], 2, 0⟩) ∧
    (∀ (a_0 : Int) (e_12 : Int) (low_17 : Bool) (t_143 : Bool) (h0_0 : Int) (h0_1 : Int) (r : Int × Int), soft_Add.j4 k a_0 e_12 low_17 t_143 h0_0 h0_1 = some r → kont E0 (soft_Add.Q a0 a1 r) (frs (bodyOf Try.f28) [1, 1, 1, 1, 1, 1, 1, 1, 1, 1, 1, 1, 0, 0] []) .normal ⟨[.i .u64 a_0, .u, .u, .u, .u, .u, .u, .u, .u, .u, .u, .u, .i .i64 e_12, .u, .u, .u, .u, .b low_17, .u, .u, .p (some (0, 0)), .u, .u, .u, .u, .u, .u, .u, .u, .u, .u, .u, .u, .u, .u, .u, .u, .u, .u, .u, .u, .u, .u, .u, .u, .u, .u, .u, .u, .u, .u, .u, .u, .u, .u, .u, .u, .u, .u, .u, .u, .u, .u, .u, .u, .u, .u, .u, .u, .u, .u, .u, .u, .u, .u, .u, .u, .u, .u, .u, .u, .u, .u, .u, .u, .u, .u, .u, .u, .u, .u, .u, .u, .u, .u, .u, .u, .u, .u, .u, .u, .u, .u, .u, .u, .u, .u, .u, .u, .u, .u, .u, .u, .u, .u, .u, .u, .u, .u, .u, .u, .u, .u, .u, .u, .u, .u, .u, .u, .u, .u, .u, .u, .u, .u, .u, .u, .u, .u, .u, .u, .u, .u, .b t_143, .u, .u, .u, .u, .u, .u, .u, .u, .u], ofL [.row [.i .u64 h0_0, .i .u64 h0_1] 0 0 true true none], 1, 0⟩) := by
  induction k with
  | zero => exact ⟨fun _ _ _ _ _ r h => by simp [soft_Add.j0] at h, fun _ _ _ _ _ r h => by simp [soft_Add.j1] at h, fun _ _ r h => by simp [soft_Add.j2] at h, fun _ _ _ _ _ _ _ r h => by simp [soft_Add.j3] at h, fun _ _ _ _ _ _ r h => by simp [soft_Add.j4] at h⟩
  | succ k ih =>
    obtain ⟨ih0, ih1, ih2, ih3, ih4⟩ := ih
    refine ⟨?_, ?_, ?_, ?_, ?_⟩
    · intro a_0 b_1 x_9 y_10 t_37 r H
      unfold soft_Add.j0 at H
      simp only [bodyOf, Try.f28, frs, sub, if_true, if_false, Nat.one_ne_zero]
      refine k_seq ?_
      rcases its H with ⟨c7, H⟩ | ⟨c7, H⟩
      · have c7b : t_37 = true := c7; try simp only [c7b, nrm]
        refine w_cond rfl (fun _ => ?_) (fun h => Bool.noConfusion h)
        refine w_seq ?_
        refine wR fun K hK => ?_
        refine g_as rfl rfl (gT ?_)
        refine g_as rfl rfl (gT ?_)
        refine g_nil (hK _ _ _ ?_)
        refine k_seq ?_
        refine w_ret ?_
        refine fin_wp (τ := []) rfl (by decide) ?_; rw [← Option.some.inj H]; simp only [Try.f28]; exact gF
      · have c7b : t_37 = false := Bool.eq_false_iff.mpr c7; try simp only [c7b, nrm]
        refine w_cond rfl (fun h => Bool.noConfusion h) (fun _ => ?_)
        refine w_seq ?_
        refine wR fun K hK => ?_
        refine g_mv rfl rfl (gT ?_)
        refine g_bin rfl rfl rfl rfl rfl (gT ?_)
        refine g_as rfl rfl (gT ?_)
        refine g_nil (hK _ _ _ ?_)
        refine k_seq ?_
        rcases its H with ⟨c8, H⟩ | ⟨c8, H⟩
        · have c8b := beq_iff_eq.mpr c8; have c8n := bne_eq_false_iff_eq.mpr c8; try simp only [c8b, c8n, nrm]
          refine w_cond rfl (fun _ => ?_) (fun h => Bool.noConfusion h)
          refine w_seq ?_
          refine wR fun K hK => ?_
          refine g_mv rfl rfl (gT ?_)
          refine g_as rfl rfl (gT ?_)
          refine g_as rfl rfl (gT ?_)
          refine g_nil (hK _ _ _ ?_)
          refine k_seq ?_
          refine w_ret ?_
          refine fin_wp (τ := []) rfl (by decide) ?_; rw [← Option.some.inj H]; simp only [Try.f28]; exact gF
        · have c8b := beq_eq_false_iff_ne.mpr c8; have c8n := bne_iff_ne.mpr c8; try simp only [c8b, c8n, nrm]
          refine w_cond rfl (fun h => Bool.noConfusion h) (fun _ => ?_)
          refine w_seq ?_
          refine wR fun K hK => ?_
          refine g_mv rfl rfl (gT ?_)
          refine g_bin rfl rfl rfl rfl rfl (gT ?_)
          refine g_as rfl rfl (gT ?_)
          refine g_nil (hK _ _ _ ?_)
          refine k_seq ?_
          rcases its H with ⟨c9, H⟩ | ⟨c9, H⟩
          · have c9b := beq_iff_eq.mpr c9; have c9n := bne_eq_false_iff_eq.mpr c9; try simp only [c9b, c9n, nrm]
            refine w_cond rfl (fun _ => ?_) (fun h => Bool.noConfusion h)
            refine w_seq ?_
            refine wR fun K hK => ?_
            refine g_mv rfl rfl (gT ?_)
            refine g_as rfl rfl (gT ?_)
            refine g_as rfl rfl (gT ?_)
            refine g_nil (hK _ _ _ ?_)
            refine k_seq ?_
            refine w_ret ?_
            refine fin_wp (τ := []) rfl (by decide) ?_; rw [← Option.some.inj H]; simp only [Try.f28]; exact gF
          · have c9b := beq_eq_false_iff_ne.mpr c9; have c9n := bne_iff_ne.mpr c9; try simp only [c9b, c9n, nrm]
            refine w_cond rfl (fun h => Bool.noConfusion h) (fun _ => ?_)
            refine w_seq ?_
            refine wR fun K hK => ?_
            refine g_mv rfl rfl (gT ?_)
            refine g_bin rfl rfl rfl rfl rfl (gT ?_)
            refine g_mv rfl rfl (gT ?_)
            rcases its H with ⟨c10, H⟩ | ⟨c10, H⟩
            · have c10b := beq_iff_eq.mpr c10; have c10n := bne_eq_false_iff_eq.mpr c10; try simp only [c10b, c10n, nrm]
              refine g_mv rfl rfl (gT ?_)
              refine g_bin rfl rfl rfl rfl rfl (gT ?_)
              refine g_pick rfl rfl rfl (gT ?_)
              refine g_as rfl rfl (gT ?_)
              refine g_nil (hK _ _ _ ?_)
              refine k_wk (σ := []) [0, 0, 7, 0, 46] rfl (by decide) rfl ?_; refine gC ?_
              exact gI (ih1 a_0 b_1 x_9 y_10 (y_10 == 1) r H)
            · have c10b := beq_eq_false_iff_ne.mpr c10; have c10n := bne_iff_ne.mpr c10; try simp only [c10b, c10n, nrm]
              refine g_sk rfl rfl (gT ?_)
              refine g_sk rfl rfl (gT ?_)
              refine g_pick rfl rfl rfl (gT ?_)
              refine g_as rfl rfl (gT ?_)
              refine g_nil (hK _ _ _ ?_)
              refine k_wk (σ := []) [0, 0, 7, 0, 46] rfl (by decide) rfl ?_; refine gC ?_
              exact gI (ih1 a_0 b_1 x_9 y_10 false r H)
    · intro a_0 b_1 x_9 y_10 t_57 r H
      unfold soft_Add.j1 at H
      simp only [bodyOf, Try.f28, frs, sub, if_true, if_false, Nat.one_ne_zero]
      refine k_seq ?_
      rcases its H with ⟨c11, H⟩ | ⟨c11, H⟩
      · have c11b : t_57 = true := c11; try simp only [c11b, nrm]
        refine w_cond rfl (fun _ => ?_) (fun h => Bool.noConfusion h)
        refine w_seq ?_
        refine wR fun K hK => ?_
        refine g_mv rfl rfl (gT ?_)
        refine g_mv rfl rfl (gT ?_)
        refine g_bin rfl rfl rfl rfl rfl (gT ?_)
        refine g_as rfl rfl (gT ?_)
        refine g_as rfl rfl (gT ?_)
        refine g_nil (hK _ _ _ ?_)
        refine k_seq ?_
        refine w_ret ?_
        refine fin_wp (τ := []) rfl (by decide) ?_; rw [← Option.some.inj H]; simp only [Try.f28]; exact gF
      · have c11b : t_57 = false := Bool.eq_false_iff.mpr c11; try simp only [c11b, nrm]
        refine w_cond rfl (fun h => Bool.noConfusion h) (fun _ => ?_)
        refine w_seq ?_
        refine wR fun K hK => ?_
        refine g_mv rfl rfl (gT ?_)
        refine g_bin rfl rfl rfl rfl rfl (gT ?_)
        refine g_as rfl rfl (gT ?_)
        refine g_nil (hK _ _ _ ?_)
        refine k_seq ?_
        rcases its H with ⟨c12, H⟩ | ⟨c12, H⟩
        · have c12b := beq_iff_eq.mpr c12; have c12n := bne_eq_false_iff_eq.mpr c12; try simp only [c12b, c12n, nrm]
          refine w_cond rfl (fun _ => ?_) (fun h => Bool.noConfusion h)
          refine w_seq ?_
          refine wR fun K hK => ?_
          refine g_mv rfl rfl (gT ?_)
          refine g_as rfl rfl (gT ?_)
          refine g_as rfl rfl (gT ?_)
          refine g_nil (hK _ _ _ ?_)
          refine k_seq ?_
          refine w_ret ?_
          refine fin_wp (τ := []) rfl (by decide) ?_; rw [← Option.some.inj H]; simp only [Try.f28]; exact gF
        · have c12b := beq_eq_false_iff_ne.mpr c12; have c12n := bne_iff_ne.mpr c12; try simp only [c12b, c12n, nrm]
          refine w_cond rfl (fun h => Bool.noConfusion h) (fun _ => ?_)
          refine w_seq ?_
          refine wR fun K hK => ?_
          refine g_mv rfl rfl (gT ?_)
          refine g_bin rfl rfl rfl rfl rfl (gT ?_)
          refine g_as rfl rfl (gT ?_)
          refine g_nil (hK _ _ _ ?_)
          refine k_seq ?_
          rcases its H with ⟨c13, H⟩ | ⟨c13, H⟩
          · have c13b := beq_iff_eq.mpr c13; have c13n := bne_eq_false_iff_eq.mpr c13; try simp only [c13b, c13n, nrm]
            refine w_cond rfl (fun _ => ?_) (fun h => Bool.noConfusion h)
            refine w_seq ?_
            refine wR fun K hK => ?_
            refine g_mv rfl rfl (gT ?_)
            refine g_as rfl rfl (gT ?_)
            refine g_as rfl rfl (gT ?_)
            refine g_nil (hK _ _ _ ?_)
            refine k_seq ?_
            refine w_ret ?_
            refine fin_wp (τ := []) rfl (by decide) ?_; rw [← Option.some.inj H]; simp only [Try.f28]; exact gF
          · have c13b := beq_eq_false_iff_ne.mpr c13; have c13n := bne_iff_ne.mpr c13; try simp only [c13b, c13n, nrm]
            refine w_cond rfl (fun h => Bool.noConfusion h) (fun _ => ?_)
            refine w_skip ?_
            refine k_block ?_
            refine k_seq ?_
            refine w_seq ?_
            refine w_seq ?_
            refine wR fun K hK => ?_
            refine g_mv rfl rfl (gT ?_)
            obtain ⟨q14, hq14, H⟩ := bnd H
            refine g_cs [] rfl rfl (by rfl) Try.func8 rfl (by decide) (word_Abs.does hq14) ⟨Nat.le_of_ble_eq_true rfl, Nat.le_of_ble_eq_true rfl⟩ ?_; refine gC ?_
            refine g_mv rfl rfl (gT ?_)
            obtain ⟨q15, hq15, H⟩ := bnd H
            refine g_cs [] rfl rfl (by rfl) Try.func8 rfl (by decide) (word_Abs.does hq15) ⟨Nat.le_of_ble_eq_true rfl, Nat.le_of_ble_eq_true rfl⟩ ?_; refine gC ?_
            refine g_bin rfl rfl rfl rfl rfl (gT ?_)
            refine g_nil (hK _ _ _ ?_)
            refine k_seq ?_
            rcases its H with ⟨c16, H⟩ | ⟨c16, H⟩
            · have c16b := decide_eq_true c16; try simp only [c16b, nrm]
              refine w_cond rfl (fun _ => ?_) (fun h => Bool.noConfusion h)
              refine wR fun K hK => ?_
              refine g_mv rfl rfl (gT ?_)
              refine g_mv rfl rfl (gT ?_)
              refine g_as rfl rfl (gT ?_)
              refine g_as rfl rfl (gT ?_)
              refine g_nil (hK _ _ _ ?_)
              refine k_wk (σ := []) [0, 0] rfl (by decide) rfl ?_; refine gC ?_
              exact gI (ih2 b_1 a_0 r H)
            · have c16b := decide_eq_false c16; try simp only [c16b, nrm]
              refine w_cond rfl (fun h => Bool.noConfusion h) (fun _ => ?_)
              refine w_skip ?_
              refine k_wk (σ := []) [0, 0] rfl (by decide) rfl ?_; refine gC ?_
              exact gI (ih2 a_0 b_1 r H)
    · intro a_0 b_1 r H
      unfold soft_Add.j2 at H
      simp only [bodyOf, Try.f28, frs, sub, if_true, if_false, Nat.one_ne_zero]
      refine k_seq ?_
      refine w_seq ?_
      refine wR fun K hK => ?_
      refine g_mv rfl rfl (gT ?_)
      obtain ⟨q17, hq17, H⟩ := bnd H
      refine g_cs [] rfl rfl (by rfl) Try.func30 rfl (by decide) (word_Parts.does hq17) ⟨Nat.le_of_ble_eq_true rfl, Nat.le_of_ble_eq_true rfl⟩ ?_; refine gC ?_
      refine g_mv rfl rfl (gT ?_)
      refine g_ext rfl rfl rfl (Nat.le_of_ble_eq_true rfl) (gT ?_)
      refine g_ext rfl rfl rfl (Nat.le_of_ble_eq_true rfl) (gT ?_)
      refine g_as rfl rfl (gT ?_)
      refine g_as rfl rfl (gT ?_)
      refine g_nil (hK _ _ _ ?_)
      refine k_seq ?_
      refine w_seq ?_
      refine wR fun K hK => ?_
      refine g_mv rfl rfl (gT ?_)
      obtain ⟨q18, hq18, H⟩ := bnd H
      refine g_cs [] rfl rfl (by rfl) Try.func30 rfl (by decide) (word_Parts.does hq18) ⟨Nat.le_of_ble_eq_true rfl, Nat.le_of_ble_eq_true rfl⟩ ?_; refine gC ?_
      refine g_mv rfl rfl (gT ?_)
      refine g_ext rfl rfl rfl (Nat.le_of_ble_eq_true rfl) (gT ?_)
      refine g_ext rfl rfl rfl (Nat.le_of_ble_eq_true rfl) (gT ?_)
      refine g_as rfl rfl (gT ?_)
      refine g_as rfl rfl (gT ?_)
      refine g_nil (hK _ _ _ ?_)
      refine k_seq ?_
      refine w_seq ?_
      refine wR fun K hK => ?_
      refine g_mv rfl rfl (gT ?_)
      refine g_bd rfl rfl zr66 Try.underlying66 (pl := [(0, 1), (1, 1)]) (by kernel_rfl) ?_; refine gB ?_
      obtain ⟨q19, hq19, H⟩ := bnd H
      refine g_cs [] rfl rfl (by rfl) Try.func34 rfl (by decide) (wide_Wide_Left.does hq19) ⟨Nat.le_of_ble_eq_true rfl, Nat.le_of_ble_eq_true rfl⟩ ?_; refine gC ?_
      refine g_alloc rfl rfl zr66 (gU ?_)
      refine g_st rfl rfl sz66 rfl rfl rfl (by rfl) (Nat.le_of_ble_eq_true rfl) (gU ?_)
      refine g_nil (hK _ _ _ ?_)
      refine k_seq ?_
      refine w_seq ?_
      refine wR fun K hK => ?_
      refine g_mv rfl rfl (gT ?_)
      refine g_bd rfl rfl zr66 Try.underlying66 (pl := [(0, 1), (1, 1)]) (by kernel_rfl) ?_; refine gB ?_
      obtain ⟨q20, hq20, H⟩ := bnd H
      refine g_cs [] rfl rfl (by rfl) Try.func34 rfl (by decide) (wide_Wide_Left.does hq20) ⟨Nat.le_of_ble_eq_true rfl, Nat.le_of_ble_eq_true rfl⟩ ?_; refine gC ?_
      refine g_mv rfl rfl (gT ?_)
      refine g_mv rfl rfl (gT ?_)
      refine g_bin rfl rfl rfl rfl rfl (gT ?_)
      obtain ⟨q21, hq21, H⟩ := bnd H
      refine g_cs [] rfl rfl (by rfl) Try.func35 rfl (by decide) (wide_Wide_Right.does hq21) ⟨Nat.le_of_ble_eq_true rfl, Nat.le_of_ble_eq_true rfl⟩ ?_; refine gC ?_
      refine g_mv rfl rfl (gT ?_)
      refine g_ext rfl rfl rfl (Nat.le_of_ble_eq_true rfl) (gT ?_)
      refine g_ext rfl rfl rfl (Nat.le_of_ble_eq_true rfl) (gT ?_)
      refine g_alloc rfl rfl zr66 (gU ?_)
      refine g_st rfl rfl sz66 rfl rfl rfl (by rfl) (Nat.le_of_ble_eq_true rfl) (gU ?_)
      refine g_as rfl rfl (gT ?_)
      refine g_nil (hK _ _ _ ?_)
      refine k_seq ?_
      refine w_seq ?_
      refine w_seq ?_
      refine wR fun K hK => ?_
      refine g_mv rfl rfl (gT ?_)
      obtain ⟨q22, hq22, H⟩ := bnd H
      refine g_cs [] rfl rfl (by rfl) Try.func32 rfl (by decide) (word_Neg.does hq22) ⟨Nat.le_of_ble_eq_true rfl, Nat.le_of_ble_eq_true rfl⟩ ?_; refine gC ?_
      refine g_mv rfl rfl (gT ?_)
      obtain ⟨q23, hq23, H⟩ := bnd H
      refine g_cs [] rfl rfl (by rfl) Try.func32 rfl (by decide) (word_Neg.does hq23) ⟨Nat.le_of_ble_eq_true rfl, Nat.le_of_ble_eq_true rfl⟩ ?_; refine gC ?_
      refine g_eqb rfl rfl Try.underlying4 rfl rfl (gT ?_)
      refine g_nil (hK _ _ _ ?_)
      refine k_seq ?_
      rcases its H with ⟨c24, H⟩ | ⟨c24, H⟩
      · have c24b : (q22 == q23) = true := c24; try simp only [c24b, nrm]
        refine w_cond rfl (fun _ => ?_) (fun h => Bool.noConfusion h)
        refine w_seq ?_
        refine wR fun K hK => ?_
        refine g_lda rfl rfl ag66 sz66 rfl rfl (Nat.le_of_ble_eq_true rfl) (gT ?_)
        refine g_lda rfl rfl ag66 sz66 rfl rfl (Nat.le_of_ble_eq_true rfl) (gT ?_)
        obtain ⟨q25, hq25, H⟩ := bnd H
        refine g_cs [] rfl rfl (by rfl) Try.func36 rfl (by decide) (wide_Wide_Add.does hq25) ⟨Nat.le_of_ble_eq_true rfl, Nat.le_of_ble_eq_true rfl⟩ ?_; refine gC ?_
        refine g_mv rfl rfl (gT ?_)
        refine g_ext rfl rfl rfl (Nat.le_of_ble_eq_true rfl) (gT ?_)
        refine g_ext rfl rfl rfl (Nat.le_of_ble_eq_true rfl) (gT ?_)
        refine g_alloc rfl rfl zr66 (gU ?_)
        refine g_st rfl rfl sz66 rfl rfl rfl (by rfl) (Nat.le_of_ble_eq_true rfl) (gU ?_)
        refine g_as rfl rfl (gT ?_)
        refine g_nil (hK _ _ _ ?_)
        refine k_seq ?_
        refine w_seq ?_
        refine wD fun K hK => ?_
        refine g_mv rfl rfl (gT ?_)
        obtain ⟨q26, hq26, H⟩ := bnd H
        refine g_cs [] rfl rfl (by rfl) Try.func32 rfl (by decide) (word_Neg.does hq26) ⟨Nat.le_of_ble_eq_true rfl, Nat.le_of_ble_eq_true rfl⟩ ?_; refine gC ?_
        refine g_lda rfl rfl ag66 sz66 rfl rfl (Nat.le_of_ble_eq_true rfl) (gT ?_)
        refine g_mv rfl rfl (gT ?_)
        refine g_bin rfl rfl rfl rfl rfl (gT ?_)
        refine g_mv rfl rfl (gT ?_)
        obtain ⟨q27, hq27, H⟩ := bnd H
        refine g_cs [] rfl rfl (by rfl) Try.func31 rfl (by decide) (round_Round.does hq27) ⟨Nat.le_of_ble_eq_true rfl, Nat.le_of_ble_eq_true rfl⟩ ?_; refine gC ?_
        refine g_ext rfl rfl rfl (Nat.le_of_ble_eq_true rfl) (gT ?_)
        refine g_ext rfl rfl rfl (Nat.le_of_ble_eq_true rfl) (gT ?_)
        refine g_as rfl rfl (gT ?_)
        refine g_as rfl rfl (gT ?_)
        refine g_nil (hK _ _ _ (by kernel_rfl) ?_)
        refine k_seq ?_
        refine w_ret ?_
        refine fin_wp (τ := []) rfl (by decide) ?_; rw [← Option.some.inj H]; simp only [Try.f28]; exact gF
      · have c24b : (q22 == q23) = false := Bool.eq_false_iff.mpr c24; try simp only [c24b, nrm]
        refine w_cond rfl (fun h => Bool.noConfusion h) (fun _ => ?_)
        refine w_skip ?_
        refine k_seq ?_
        refine w_seq ?_
        refine w_seq ?_
        refine wR fun K hK => ?_
        refine g_mv rfl rfl (gT ?_)
        refine g_nil (hK _ _ _ ?_)
        refine k_seq ?_
        rcases its H with ⟨c28, H⟩ | ⟨c28, H⟩
        · have c28b : q21.2.2 = true := c28; try simp only [c28b, nrm]
          refine w_cond rfl (fun _ => ?_) (fun h => Bool.noConfusion h)
          refine wR fun K hK => ?_
          refine g_lda rfl rfl ag66 sz66 rfl rfl (Nat.le_of_ble_eq_true rfl) (gT ?_)
          refine g_bd rfl rfl zr66 Try.underlying66 (pl := [(0, 1), (1, 1)]) (by kernel_rfl) ?_; refine gB ?_
          obtain ⟨q29, hq29, H⟩ := bnd H
          refine g_cs [] rfl rfl (by rfl) Try.func36 rfl (by decide) (wide_Wide_Add.does hq29) ⟨Nat.le_of_ble_eq_true rfl, Nat.le_of_ble_eq_true rfl⟩ ?_; refine gC ?_
          refine g_mv rfl rfl (gT ?_)
          refine g_ext rfl rfl rfl (Nat.le_of_ble_eq_true rfl) (gT ?_)
          refine g_ext rfl rfl rfl (Nat.le_of_ble_eq_true rfl) (gT ?_)
          refine g_st rfl rfl sz66 rfl rfl rfl (by rfl) (Nat.le_of_ble_eq_true rfl) (gU ?_)
          refine g_nil (hK _ _ _ ?_)
          refine k_wk (σ := [68, 116]) [0, 11, 2, 0, 0] rfl (by decide) rfl ?_; refine gC ?_
          exact gI (ih3 a_0 q17.2 true q19.1 q19.2 q29.1 q29.2.1 r H)
        · have c28b : q21.2.2 = false := Bool.eq_false_iff.mpr c28; try simp only [c28b, nrm]
          refine w_cond rfl (fun h => Bool.noConfusion h) (fun _ => ?_)
          refine w_skip ?_
          refine k_wk (σ := [68, 116]) [0, 11, 2, 0, 0] rfl (by decide) rfl ?_; refine gC ?_
          exact gI (ih3 a_0 q17.2 false q19.1 q19.2 q21.1 q21.2.1 r H)
    · intro a_0 e_12 low_17 h0_0 h0_1 h1_0 h1_1 r H
      unfold soft_Add.j3 at H
      simp only [bodyOf, Try.f28, frs, sub, if_true, if_false, Nat.one_ne_zero]
      refine k_seq ?_
      refine w_seq ?_
      refine wR fun K hK => ?_
      refine g_lda rfl rfl ag66 sz66 rfl rfl (Nat.le_of_ble_eq_true rfl) (gT ?_)
      refine g_lda rfl rfl ag66 sz66 rfl rfl (Nat.le_of_ble_eq_true rfl) (gT ?_)
      obtain ⟨q30, hq30, H⟩ := bnd H
      refine g_cs [] rfl rfl (by rfl) Try.func37 rfl (by decide) (wide_Wide_Sub.does hq30) ⟨Nat.le_of_ble_eq_true rfl, Nat.le_of_ble_eq_true rfl⟩ ?_; refine gC ?_
      refine g_mv rfl rfl (gT ?_)
      refine g_ext rfl rfl rfl (Nat.le_of_ble_eq_true rfl) (gT ?_)
      refine g_ext rfl rfl rfl (Nat.le_of_ble_eq_true rfl) (gT ?_)
      refine g_alloc rfl rfl zr66 (gU ?_)
      refine g_st rfl rfl sz66 rfl rfl rfl (by rfl) (Nat.le_of_ble_eq_true rfl) (gU ?_)
      refine g_as rfl rfl (gT ?_)
      refine g_nil (hK _ _ _ ?_)
      refine k_seq ?_
      refine w_seq ?_
      refine w_seq ?_
      refine wR fun K hK => ?_
      refine g_lda rfl rfl ag66 sz66 rfl rfl (Nat.le_of_ble_eq_true rfl) (gT ?_)
      obtain ⟨q31, hq31, H⟩ := bnd H
      refine g_cs [] rfl rfl (by rfl) Try.func38 rfl (by decide) (wide_Wide_Zero.does hq31) ⟨Nat.le_of_ble_eq_true rfl, Nat.le_of_ble_eq_true rfl⟩ ?_; refine gC ?_
      refine g_mv rfl rfl (gT ?_)
      rcases its H with ⟨c32, H⟩ | ⟨c32, H⟩
      · have c32b : q31 = true := c32; try simp only [c32b, nrm]
        refine g_mv rfl rfl (gT ?_)
        refine g_un rfl rfl rfl rfl (gT ?_)
        refine g_pick rfl rfl rfl (gT ?_)
        refine g_nil (hK _ _ _ ?_)
        refine k_wk (σ := [26]) [0, 11, 4, 2, 122] rfl (by decide) rfl ?_; refine gC ?_
        exact gI (ih4 a_0 e_12 low_17 (!low_17) q30.1 q30.2.1 r H)
      · have c32b : q31 = false := Bool.eq_false_iff.mpr c32; try simp only [c32b, nrm]
        refine g_sk rfl rfl (gT ?_)
        refine g_sk rfl rfl (gT ?_)
        refine g_pick rfl rfl rfl (gT ?_)
        refine g_nil (hK _ _ _ ?_)
        refine k_wk (σ := [26]) [0, 11, 4, 2, 122] rfl (by decide) rfl ?_; refine gC ?_
        exact gI (ih4 a_0 e_12 low_17 false q30.1 q30.2.1 r H)
    · intro a_0 e_12 low_17 t_143 h0_0 h0_1 r H
      unfold soft_Add.j4 at H
      simp only [bodyOf, Try.f28, frs, sub, if_true, if_false, Nat.one_ne_zero]
      refine k_seq ?_
      rcases its H with ⟨c33, H⟩ | ⟨c33, H⟩
      · have c33b : t_143 = true := c33; try simp only [c33b, nrm]
        refine w_cond rfl (fun _ => ?_) (fun h => Bool.noConfusion h)
        refine w_seq ?_
        refine wR fun K hK => ?_
        refine g_as rfl rfl (gT ?_)
        refine g_as rfl rfl (gT ?_)
        refine g_nil (hK _ _ _ ?_)
        refine k_seq ?_
        refine w_ret ?_
        refine fin_wp (τ := []) rfl (by decide) ?_; rw [← Option.some.inj H]; simp only [Try.f28]; exact gF
      · have c33b : t_143 = false := Bool.eq_false_iff.mpr c33; try simp only [c33b, nrm]
        refine w_cond rfl (fun h => Bool.noConfusion h) (fun _ => ?_)
        refine w_skip ?_
        refine k_seq ?_
        refine w_seq ?_
        refine wD fun K hK => ?_
        refine g_mv rfl rfl (gT ?_)
        obtain ⟨q34, hq34, H⟩ := bnd H
        refine g_cs [] rfl rfl (by rfl) Try.func32 rfl (by decide) (word_Neg.does hq34) ⟨Nat.le_of_ble_eq_true rfl, Nat.le_of_ble_eq_true rfl⟩ ?_; refine gC ?_
        refine g_lda rfl rfl ag66 sz66 rfl rfl (Nat.le_of_ble_eq_true rfl) (gT ?_)
        refine g_mv rfl rfl (gT ?_)
        refine g_bin rfl rfl rfl rfl rfl (gT ?_)
        refine g_mv rfl rfl (gT ?_)
        obtain ⟨q35, hq35, H⟩ := bnd H
        refine g_cs [] rfl rfl (by rfl) Try.func31 rfl (by decide) (round_Round.does hq35) ⟨Nat.le_of_ble_eq_true rfl, Nat.le_of_ble_eq_true rfl⟩ ?_; refine gC ?_
        refine g_ext rfl rfl rfl (Nat.le_of_ble_eq_true rfl) (gT ?_)
        refine g_ext rfl rfl rfl (Nat.le_of_ble_eq_true rfl) (gT ?_)
        refine g_as rfl rfl (gT ?_)
        refine g_as rfl rfl (gT ?_)
        refine g_nil (hK _ _ _ (by kernel_rfl) ?_)
        refine k_seq ?_
        refine w_ret ?_
        refine fin_wp (τ := []) rfl (by decide) ?_; rw [← Option.some.inj H]; simp only [Try.f28]; exact gF
set_option maxHeartbeats 8000000 in
set_option maxRecDepth 100000 in
theorem soft_Add.does {k : Nat} {a0 : Int} {a1 : Int} {r : Int × Int} (H : soft_Add.f k a0 a1 = some r) : Do E0 (.fn 28 [.i .u64 a0, .i .u64 a1] [] (.t [.i .u64 r.1, .i .u8 r.2]) []) := by
  obtain ⟨ih0, ih1, ih2, ih3, ih4⟩ := soft_Add.does_l (a0 := a0) (a1 := a1) k
  refine fn_wpl Try.func28 rfl (Q := (soft_Add.Q a0 a1 r)) (fun s h => h) ?_
  unfold soft_Add.f at H
  simp only [Try.ntmps28, List.length, List.replicate, Nat.reduceAdd, Nat.reduceSub, List.cons_append, List.nil_append]
  refine w_seq ?_
  refine wR fun K hK => ?_
  refine g_as rfl rfl (gT ?_)
  refine g_as rfl rfl (gT ?_)
  refine g_nil (hK _ _ _ ?_)
  refine k_seq ?_
  refine w_seq ?_
  refine w_seq ?_
  refine wR fun K hK => ?_
  refine g_mv rfl rfl (gT ?_)
  refine g_mv rfl rfl (gT ?_)
  refine g_bsl (k := .u64) (xs := [a0, a1]) rfl rfl Try.underlying22 sz23 zr23 (by decide) rfl rfl rfl (gU ?_)
  obtain ⟨q1, hq1, H⟩ := bnd H
  refine g_cs [] rfl rfl (by rfl) Try.func33 rfl (by decide) (soft_nan.does hq1) ⟨Nat.le_of_ble_eq_true rfl, Nat.le_of_ble_eq_true rfl⟩ ?_; refine gC ?_
  refine g_mv rfl rfl (gT ?_)
  refine g_ext rfl rfl rfl (Nat.le_of_ble_eq_true rfl) (gT ?_)
  refine g_ext rfl rfl rfl (Nat.le_of_ble_eq_true rfl) (gT ?_)
  refine g_ext rfl rfl rfl (Nat.le_of_ble_eq_true rfl) (gT ?_)
  refine g_as rfl rfl (gT ?_)
  refine g_as rfl rfl (gT ?_)
  refine g_as rfl rfl (gT ?_)
  refine g_nil (hK _ _ _ ?_)
  refine k_seq ?_
  refine w_seq ?_
  refine wR fun K hK => ?_
  refine g_mv rfl rfl (gT ?_)
  refine g_nil (hK _ _ _ ?_)
  refine k_seq ?_
  rcases its H with ⟨c2, H⟩ | ⟨c2, H⟩
  · have c2b : q1.2.2 = true := c2; try simp only [c2b, nrm]
    refine w_cond rfl (fun _ => ?_) (fun h => Bool.noConfusion h)
    refine w_seq ?_
    refine wR fun K hK => ?_
    refine g_mv rfl rfl (gT ?_)
    refine g_mv rfl rfl (gT ?_)
    refine g_as rfl rfl (gT ?_)
    refine g_as rfl rfl (gT ?_)
    refine g_nil (hK _ _ _ ?_)
    refine k_seq ?_
    refine w_ret ?_
    refine fin_wp (τ := []) rfl (by decide) ?_; rw [← Option.some.inj H]; simp only [Try.f28]; exact gF
  · have c2b : q1.2.2 = false := Bool.eq_false_iff.mpr c2; try simp only [c2b, nrm]
    refine w_cond rfl (fun h => Bool.noConfusion h) (fun _ => ?_)
    refine w_skip ?_
    refine k_seq ?_
    refine w_seq ?_
    refine wR fun K hK => ?_
    refine g_mv rfl rfl (gT ?_)
    obtain ⟨q3, hq3, H⟩ := bnd H
    refine g_cs [] rfl rfl (by rfl) Try.func22 rfl (by decide) (word_Kind.does hq3) ⟨Nat.le_of_ble_eq_true rfl, Nat.le_of_ble_eq_true rfl⟩ ?_; refine gC ?_
    refine g_mv rfl rfl (gT ?_)
    obtain ⟨q4, hq4, H⟩ := bnd H
    refine g_cs [] rfl rfl (by rfl) Try.func22 rfl (by decide) (word_Kind.does hq4) ⟨Nat.le_of_ble_eq_true rfl, Nat.le_of_ble_eq_true rfl⟩ ?_; refine gC ?_
    refine g_as rfl rfl (gT ?_)
    refine g_as rfl rfl (gT ?_)
    refine g_nil (hK _ _ _ ?_)
    refine k_seq ?_
    refine w_seq ?_
    refine w_block ?_
    refine w_seq ?_
    refine wR fun K hK => ?_
    refine g_mv rfl rfl (gT ?_)
    refine g_bin rfl rfl rfl rfl rfl (gT ?_)
    refine g_mv rfl rfl (gT ?_)
    rcases its H with ⟨c5, H⟩ | ⟨c5, H⟩
    · have c5b := beq_iff_eq.mpr c5; have c5n := bne_eq_false_iff_eq.mpr c5; try simp only [c5b, c5n, nrm]
      refine g_mv rfl rfl (gT ?_)
      refine g_bin rfl rfl rfl rfl rfl (gT ?_)
      refine g_pick rfl rfl rfl (gT ?_)
      refine g_mv rfl rfl (gT ?_)
      rcases its H with ⟨c6, H⟩ | ⟨c6, H⟩
      · have c6b := beq_iff_eq.mpr c6; have c6n := bne_eq_false_iff_eq.mpr c6; try simp only [c6b, c6n, nrm]
        refine g_mv rfl rfl (gT ?_)
        refine g_mv rfl rfl (gT ?_)
        refine g_bin rfl rfl rfl rfl rfl (gT ?_)
        refine g_pick rfl rfl rfl (gT ?_)
        refine g_as rfl rfl (gT ?_)
        refine g_nil (hK _ _ _ ?_)
        refine k_wk (σ := []) [0, 0, 7, 0, 26] rfl (by decide) rfl ?_; refine gC ?_
        exact gI (ih0 a0 a1 q3 q4 (a0 != a1) r H)
      · have c6b := beq_eq_false_iff_ne.mpr c6; have c6n := bne_iff_ne.mpr c6; try simp only [c6b, c6n, nrm]
        refine g_sk rfl rfl (gT ?_)
        refine g_sk rfl rfl (gT ?_)
        refine g_sk rfl rfl (gT ?_)
        refine g_pick rfl rfl rfl (gT ?_)
        refine g_as rfl rfl (gT ?_)
        refine g_nil (hK _ _ _ ?_)
        refine k_wk (σ := []) [0, 0, 7, 0, 26] rfl (by decide) rfl ?_; refine gC ?_
        exact gI (ih0 a0 a1 q3 q4 false r H)
    · have c5b := beq_eq_false_iff_ne.mpr c5; have c5n := bne_iff_ne.mpr c5; try simp only [c5b, c5n, nrm]
      refine g_sk rfl rfl (gT ?_)
      refine g_sk rfl rfl (gT ?_)
      refine g_pick rfl rfl rfl (gT ?_)
      refine g_mv rfl rfl (gT ?_)
      refine g_sk rfl rfl (gT ?_)
      refine g_sk rfl rfl (gT ?_)
      refine g_sk rfl rfl (gT ?_)
      refine g_pick rfl rfl rfl (gT ?_)
      refine g_as rfl rfl (gT ?_)
      refine g_nil (hK _ _ _ ?_)
      refine k_wk (σ := []) [0, 0, 7, 0, 26] rfl (by decide) rfl ?_; refine gC ?_
      exact gI (ih0 a0 a1 q3 q4 false r H)

set_option maxHeartbeats 8000000 in
set_option maxRecDepth 100000 in
theorem soft_Calc_note.does {s0_0 : Int} {a1 : Int} {a2 : Int} {r : Int × Int} (H : soft_Calc_note.f s0_0 a1 a2 = some r) : Do E0 (.fn 27 [.p (some (0, 0)), .i .u64 a1, .i .u8 a2] [.row [.i .u8 s0_0] 0 0 true false none] (.i .u64 r.1) [.row [.i .u8 r.2] 0 0 true false none]) := by
  refine fn_wpl Try.func27 rfl (Q := (soft_Calc_note.Q s0_0 a1 a2 r)) (fun s h => h) ?_
  unfold soft_Calc_note.f at H
  simp only [Try.ntmps27, List.length, List.replicate, Nat.reduceAdd, Nat.reduceSub, List.cons_append, List.nil_append]
  refine w_seq ?_
  refine wR fun K hK => ?_
  refine g_as rfl rfl (gT ?_)
  refine g_nil (hK _ _ _ ?_)
  refine k_seq ?_
  refine w_seq ?_
  refine w_seq ?_
  refine wR fun K hK => ?_
  refine g_mv rfl rfl (gT ?_)
  refine g_same rfl rfl (c := .b true) (by simp only [nrm]; simp only [binV, sameV, V.same, Go.Rk.Rd.of, Go.Rk.Rd.bind, Try.underlying59]; rfl) (gT ?_)
  refine g_nil (hK _ _ _ ?_)
  refine k_seq ?_
  refine w_cond rfl (fun _ => ?_) (fun h => Bool.noConfusion h)
  refine wR fun K hK => ?_
  refine g_mv rfl rfl (gT ?_)
  refine g_nc rfl rfl rfl (gT ?_)
  refine g_fd rfl rfl fa55_0 rfl (gT ?_)
  refine g_ldc rfl rfl ag53 sz53 rfl rfl rfl (gT ?_)
  refine g_mv rfl rfl (gT ?_)
  refine g_bin rfl rfl rfl rfl rfl (gT ?_)
  refine g_nc rfl rfl rfl (gT ?_)
  refine g_fd rfl rfl fa55_0 rfl (gT ?_)
  refine g_st rfl rfl sz53 rfl rfl rfl (by rfl) (Nat.le_of_ble_eq_true rfl) (gU ?_)
  refine g_nil (hK _ _ _ ?_)
  refine k_seq ?_
  refine w_seq ?_
  refine wR fun K hK => ?_
  refine g_mv rfl rfl (gT ?_)
  refine g_as rfl rfl (gT ?_)
  refine g_nil (hK _ _ _ ?_)
  refine k_seq ?_
  refine w_ret ?_
  refine fin_wp (τ := [0]) rfl (by decide) ?_; rw [← Option.some.inj H]; simp only [Try.f27]; exact gF

set_option maxHeartbeats 8000000 in
set_option maxRecDepth 100000 in
theorem soft_Calc_Add.does {k : Nat} {s0_0 : Int} {a1 : Int} {a2 : Int} {r : Int × Int} (H : soft_Calc_Add.f k s0_0 a1 a2 = some r) : Do E0 (.fn 23 [.p (some (0, 0)), .i .u64 a1, .i .u64 a2] [.row [.i .u8 s0_0] 0 0 true false none] (.i .u64 r.1) [.row [.i .u8 r.2] 0 0 true false none]) := by
  refine fn_wpl Try.func23 rfl (Q := (soft_Calc_Add.Q s0_0 a1 a2 r)) (fun s h => h) ?_
  unfold soft_Calc_Add.f at H
  simp only [Try.ntmps23, List.length, List.replicate, Nat.reduceAdd, Nat.reduceSub, List.cons_append, List.nil_append]
  refine w_seq ?_
  refine wR fun K hK => ?_
  refine g_as rfl rfl (gT ?_)
  refine g_nil (hK _ _ _ ?_)
  refine k_seq ?_
  refine w_seq ?_
  refine wR fun K hK => ?_
  refine g_mv rfl rfl (gT ?_)
  refine g_mv rfl rfl (gT ?_)
  refine g_mv rfl rfl (gT ?_)
  obtain ⟨q1, hq1, H⟩ := bnd H
  refine g_cs [] rfl rfl (by rfl) Try.func28 rfl (by decide) (soft_Add.does hq1) ⟨Nat.le_of_ble_eq_true rfl, Nat.le_of_ble_eq_true rfl⟩ ?_; refine gC ?_
  refine g_ext rfl rfl rfl (Nat.le_of_ble_eq_true rfl) (gT ?_)
  refine g_ext rfl rfl rfl (Nat.le_of_ble_eq_true rfl) (gT ?_)
  obtain ⟨q2, hq2, H⟩ := bnd H
  refine g_cs [0] rfl rfl (by rfl) Try.func27 rfl (by decide) (soft_Calc_note.does hq2) ⟨Nat.le_of_ble_eq_true rfl, Nat.le_of_ble_eq_true rfl⟩ ?_; refine gC ?_
  refine g_as rfl rfl (gT ?_)
  refine g_nil (hK _ _ _ ?_)
  refine k_seq ?_
  refine w_ret ?_
  refine fin_wp (τ := [0]) rfl (by decide) ?_; rw [← Option.some.inj H]; simp only [Try.f23]; exact gF

set_option maxHeartbeats 8000000 in
set_option maxRecDepth 100000 in
theorem more_Scale.does_l {a0 : Int} {a1 : Int} (k : Nat) : (∀ (a_0 : Int) (n_1 : Int) (t_14 : Bool) (r : Int × Int), more_Scale.j0 k a_0 n_1 t_14 = some r → kont E0 (more_Scale.Q a0 a1 r) (frs (bodyOf Try.f25) [1, 0, 1, 0, 1, 1, 0, 1] []) .normal ⟨[.i .u64 a_0, .i .i64 n_1, .u, .u, .u, .u, .u, .u, .u, .u, .u, .u, .u, .u, .b t_14, .u, .u, .u, .u, .u, .u, .u, .u, .u, .u, .u, .u, .u, .u, .u, .u, .u, .u, .u, .u], ofL [], 0, 0⟩) := by
  induction k with
  | zero => exact fun _ _ _ r h => by simp [more_Scale.j0] at h
  | succ k ih =>
    have ih0 := ih
    refine ?_
    · intro a_0 n_1 t_14 r H
      unfold more_Scale.j0 at H
      simp only [bodyOf, Try.f25, frs, sub, if_true, if_false, Nat.one_ne_zero]
      refine k_seq ?_
      rcases its H with ⟨c6, H⟩ | ⟨c6, H⟩
      · have c6b : t_14 = true := c6; try simp only [c6b, nrm]
        refine w_cond rfl (fun _ => ?_) (fun h => Bool.noConfusion h)
        refine w_seq ?_
        refine wR fun K hK => ?_
        refine g_mv rfl rfl (gT ?_)
        refine g_as rfl rfl (gT ?_)
        refine g_as rfl rfl (gT ?_)
        refine g_nil (hK _ _ _ ?_)
        refine k_seq ?_
        refine w_ret ?_
        refine fin_wp (τ := []) rfl (by decide) ?_; rw [← Option.some.inj H]; simp only [Try.f25]; exact gF
      · have c6b : t_14 = false := Bool.eq_false_iff.mpr c6; try simp only [c6b, nrm]
        refine w_cond rfl (fun h => Bool.noConfusion h) (fun _ => ?_)
        refine w_skip ?_
        refine k_block ?_
        refine k_seq ?_
        refine w_seq ?_
        refine wR fun K hK => ?_
        refine g_mv rfl rfl (gT ?_)
        obtain ⟨q7, hq7, H⟩ := bnd H
        refine g_cs [] rfl rfl (by rfl) Try.func30 rfl (by decide) (word_Parts.does hq7) ⟨Nat.le_of_ble_eq_true rfl, Nat.le_of_ble_eq_true rfl⟩ ?_; refine gC ?_
        refine g_mv rfl rfl (gT ?_)
        refine g_ext rfl rfl rfl (Nat.le_of_ble_eq_true rfl) (gT ?_)
        refine g_ext rfl rfl rfl (Nat.le_of_ble_eq_true rfl) (gT ?_)
        refine g_as rfl rfl (gT ?_)
        refine g_as rfl rfl (gT ?_)
        refine g_nil (hK _ _ _ ?_)
        refine k_seq ?_
        refine w_seq ?_
        refine wR fun K hK => ?_
        refine g_mv rfl rfl (gT ?_)
        obtain ⟨q8, hq8, H⟩ := bnd H
        refine g_cs [] rfl rfl (by rfl) Try.func32 rfl (by decide) (word_Neg.does hq8) ⟨Nat.le_of_ble_eq_true rfl, Nat.le_of_ble_eq_true rfl⟩ ?_; refine gC ?_
        refine g_mv rfl rfl (gT ?_)
        refine g_bd rfl rfl zr66 Try.underlying66 (pl := [(0, 1), (1, 1)]) (by kernel_rfl) ?_; refine gB ?_
        refine g_mv rfl rfl (gT ?_)
        refine g_mv rfl rfl (gT ?_)
        refine g_min rfl rfl rfl rfl (m := mn _ _) rfl (gT ?_)
        refine g_max rfl rfl rfl rfl (m := mx _ _) rfl (gT ?_)
        refine g_bin rfl rfl rfl rfl rfl (gT ?_)
        obtain ⟨q9, hq9, H⟩ := bnd H
        refine g_cs [] rfl rfl (by rfl) Try.func31 rfl (by decide) (round_Round.does hq9) ⟨Nat.le_of_ble_eq_true rfl, Nat.le_of_ble_eq_true rfl⟩ ?_; refine gC ?_
        refine g_ext rfl rfl rfl (Nat.le_of_ble_eq_true rfl) (gT ?_)
        refine g_ext rfl rfl rfl (Nat.le_of_ble_eq_true rfl) (gT ?_)
        refine g_as rfl rfl (gT ?_)
        refine g_as rfl rfl (gT ?_)
        refine g_nil (hK _ _ _ ?_)
        refine k_seq ?_
        refine w_ret ?_
        refine fin_wp (τ := []) rfl (by decide) ?_; rw [← Option.some.inj H]; simp only [Try.f25]; exact gF
set_option maxHeartbeats 8000000 in
set_option maxRecDepth 100000 in
theorem more_Scale.does {k : Nat} {a0 : Int} {a1 : Int} {r : Int × Int} (H : more_Scale.f k a0 a1 = some r) : Do E0 (.fn 25 [.i .u64 a0, .i .i64 a1] [] (.t [.i .u64 r.1, .i .u8 r.2]) []) := by
  obtain ih0 := more_Scale.does_l (a0 := a0) (a1 := a1) k
  refine fn_wpl Try.func25 rfl (Q := (more_Scale.Q a0 a1 r)) (fun s h => h) ?_
  unfold more_Scale.f at H
  simp only [Try.ntmps25, List.length, List.replicate, Nat.reduceAdd, Nat.reduceSub, List.cons_append, List.nil_append]
  refine w_seq ?_
  refine wR fun K hK => ?_
  refine g_as rfl rfl (gT ?_)
  refine g_as rfl rfl (gT ?_)
  refine g_nil (hK _ _ _ ?_)
  refine k_seq ?_
  refine w_seq ?_
  refine w_seq ?_
  refine wR fun K hK => ?_
  refine g_mv rfl rfl (gT ?_)
  obtain ⟨q1, hq1, H⟩ := bnd H
  refine g_cs [] rfl rfl (by rfl) Try.func22 rfl (by decide) (word_Kind.does hq1) ⟨Nat.le_of_ble_eq_true rfl, Nat.le_of_ble_eq_true rfl⟩ ?_; refine gC ?_
  refine g_nil (hK _ _ _ ?_)
  refine k_seq ?_
  refine w_block ?_
  refine w_seq ?_
  refine wR fun K hK => ?_
  refine g_bin rfl rfl rfl rfl rfl (gT ?_)
  refine g_as rfl rfl (gT ?_)
  refine g_nil (hK _ _ _ ?_)
  refine k_seq ?_
  rcases its H with ⟨c2, H⟩ | ⟨c2, H⟩
  · have c2b := beq_iff_eq.mpr c2; have c2n := bne_eq_false_iff_eq.mpr c2; try simp only [c2b, c2n, nrm]
    refine w_cond rfl (fun _ => ?_) (fun h => Bool.noConfusion h)
    refine w_seq ?_
    refine w_seq ?_
    refine wR fun K hK => ?_
    refine g_mv rfl rfl (gT ?_)
    obtain ⟨q3, hq3, H⟩ := bnd H
    refine g_cs [] rfl rfl (by rfl) Try.func29 rfl (by decide) (word_Signals.does hq3) ⟨Nat.le_of_ble_eq_true rfl, Nat.le_of_ble_eq_true rfl⟩ ?_; refine gC ?_
    refine g_nil (hK _ _ _ ?_)
    refine k_seq ?_
    rcases its H with ⟨c4, H⟩ | ⟨c4, H⟩
    · have c4b : q3 = true := c4; try simp only [c4b, nrm]
      refine w_cond rfl (fun _ => ?_) (fun h => Bool.noConfusion h)
      refine w_seq ?_
      refine wR fun K hK => ?_
      refine g_as rfl rfl (gT ?_)
      refine g_as rfl rfl (gT ?_)
      refine g_nil (hK _ _ _ ?_)
      refine k_seq ?_
      refine w_ret ?_
      refine fin_wp (τ := []) rfl (by decide) ?_; rw [← Option.some.inj H]; simp only [Try.f25]; exact gF
    · have c4b : q3 = false := Bool.eq_false_iff.mpr c4; try simp only [c4b, nrm]
      refine w_cond rfl (fun h => Bool.noConfusion h) (fun _ => ?_)
      refine w_skip ?_
      refine k_seq ?_
      refine w_seq ?_
      refine wR fun K hK => ?_
      refine g_as rfl rfl (gT ?_)
      refine g_as rfl rfl (gT ?_)
      refine g_nil (hK _ _ _ ?_)
      refine k_seq ?_
      refine w_ret ?_
      refine fin_wp (τ := []) rfl (by decide) ?_; rw [← Option.some.inj H]; simp only [Try.f25]; exact gF
  · have c2b := beq_eq_false_iff_ne.mpr c2; have c2n := bne_iff_ne.mpr c2; try simp only [c2b, c2n, nrm]
    refine w_cond rfl (fun h => Bool.noConfusion h) (fun _ => ?_)
    refine w_seq ?_
    refine w_seq ?_
    refine wR fun K hK => ?_
    refine g_bin rfl rfl rfl rfl rfl (gT ?_)
    refine g_as rfl rfl (gT ?_)
    refine g_nil (hK _ _ _ ?_)
    refine k_seq ?_
    rcases its H with ⟨c5, H⟩ | ⟨c5, H⟩
    · have c5b := beq_iff_eq.mpr c5; have c5n := bne_eq_false_iff_eq.mpr c5; try simp only [c5b, c5n, nrm]
      refine w_cond rfl (fun _ => ?_) (fun h => Bool.noConfusion h)
      refine w_skip ?_
      refine k_wk (σ := []) [0, 0, 12] rfl (by decide) rfl ?_; refine gC ?_
      exact gI (ih0 a0 a1 true r H)
    · have c5b := beq_eq_false_iff_ne.mpr c5; have c5n := bne_iff_ne.mpr c5; try simp only [c5b, c5n, nrm]
      refine w_cond rfl (fun h => Bool.noConfusion h) (fun _ => ?_)
      refine wR fun K hK => ?_
      refine g_bin rfl rfl rfl rfl rfl (gT ?_)
      refine g_as rfl rfl (gT ?_)
      refine g_nil (hK _ _ _ ?_)
      refine k_wk (σ := []) [0, 0, 12] rfl (by decide) rfl ?_; refine gC ?_
      exact gI (ih0 a0 a1 (q1 == 1) r H)

theorem bal_Balance_level.len_l (k : Nat) : (∀ (i_2 : Int) (col_8 : Int) (row_9 : Int) (k_10 : Int) (h0_0 : Int) (h0_1 : Int) (h1 : List Int) (h2 : List Int) (h3 : List Int) (h4_0 : Int) (h4_1 : Int) (h4_2 : Int) (h5 : Int) (r : Bool × Int × Int × (List Int) × (List Int) × (List Int)), bal_Balance_level.l0 k i_2 col_8 row_9 k_10 h0_0 h0_1 h1 h2 h3 h4_0 h4_1 h4_2 h5 = some r → r.2.2.2.1.length = h1.length ∧ r.2.2.2.2.1.length = h2.length ∧ r.2.2.2.2.2.length = h3.length) ∧
    (∀ (i_2 : Int) (col_8 : Int) (row_9 : Int) (t_55 : Bool) (h0_0 : Int) (h0_1 : Int) (h1 : List Int) (h2 : List Int) (h3 : List Int) (h4_0 : Int) (h4_1 : Int) (h4_2 : Int) (r : Bool × Int × Int × (List Int) × (List Int) × (List Int)), bal_Balance_level.j1 k i_2 col_8 row_9 t_55 h0_0 h0_1 h1 h2 h3 h4_0 h4_1 h4_2 = some r → r.2.2.2.1.length = h1.length ∧ r.2.2.2.2.1.length = h2.length ∧ r.2.2.2.2.2.length = h3.length) ∧
    (∀ (i_2 : Int) (p_11 : Int) (all_13 : Int) (t_86 : Int) (t_87 : Int) (h0_0 : Int) (h0_1 : Int) (h1 : List Int) (h2 : List Int) (h3 : List Int) (h4_1 : Int) (h4_2 : Int) (h5_0 : Int) (h5_1 : Int) (h5_2 : Int) (h6 : List Int) (r : Bool × Int × Int × (List Int) × (List Int) × (List Int)), bal_Balance_level.l1 k i_2 p_11 all_13 t_86 t_87 h0_0 h0_1 h1 h2 h3 h4_1 h4_2 h5_0 h5_1 h5_2 h6 = some r → r.2.2.2.1.length = h1.length ∧ r.2.2.2.2.1.length = h2.length ∧ r.2.2.2.2.2.length = h3.length) := by
  induction k with
  | zero => exact ⟨fun _ _ _ _ _ _ _ _ _ _ _ _ _ r h => by simp [bal_Balance_level.l0] at h, fun _ _ _ _ _ _ _ _ _ _ _ _ r h => by simp [bal_Balance_level.j1] at h, fun _ _ _ _ _ _ _ _ _ _ _ _ _ _ _ _ r h => by simp [bal_Balance_level.l1] at h⟩
  | succ k ih =>
    obtain ⟨ih0, ih1, ih2⟩ := ih
    refine ⟨?_, ?_, ?_⟩
    · intro i_2 col_8 row_9 k_10 h0_0 h0_1 h1 h2 h3 h4_0 h4_1 h4_2 h5 r H
      unfold bal_Balance_level.l0 at H
      rcases its H with ⟨c1, H⟩ | ⟨c1, H⟩
      · skip
        rcases its H with ⟨c2, H⟩ | ⟨c2, H⟩
        · skip
          have ih_ := ih0 i_2 col_8 row_9 (wrap64 (k_10 + 1)) h0_0 h0_1 h1 h2 h3 h4_0 h4_1 h4_2 h5 r H; first | exact ih_ | omega | (simp only [List.length_set, List.length_append, List.length_replicate] at ih_ ⊢; omega)
        · skip
          obtain ⟨q3, hq3, H⟩ := bnd H
          obtain ⟨q4, hq4, H⟩ := bnd H
          obtain ⟨q5, hq5, H⟩ := bnd H
          obtain ⟨q6, hq6, H⟩ := bnd H
          obtain ⟨q7, hq7, H⟩ := bnd H
          obtain ⟨q8, hq8, H⟩ := bnd H
          have ih_ := ih0 i_2 q5.1 q8.1 (wrap64 (k_10 + 1)) h0_0 h0_1 h1 h2 h3 h4_0 h4_1 h4_2 q8.2 r H; first | exact ih_ | omega | (simp only [List.length_set, List.length_append, List.length_replicate] at ih_ ⊢; omega)
      · skip
        obtain ⟨q9, hq9, H⟩ := bnd H
        rcases its H with ⟨c10, H⟩ | ⟨c10, H⟩
        · skip
          obtain ⟨q11, hq11, H⟩ := bnd H
          have ih_ := ih1 i_2 col_8 row_9 (q11 != 3) h0_0 h0_1 h1 h2 h3 h4_0 h4_1 h4_2 r H; first | exact ih_ | omega | (simp only [List.length_set, List.length_append, List.length_replicate] at ih_ ⊢; omega)
        · skip
          have ih_ := ih1 i_2 col_8 row_9 true h0_0 h0_1 h1 h2 h3 h4_0 h4_1 h4_2 r H; first | exact ih_ | omega | (simp only [List.length_set, List.length_append, List.length_replicate] at ih_ ⊢; omega)
    · intro i_2 col_8 row_9 t_55 h0_0 h0_1 h1 h2 h3 h4_0 h4_1 h4_2 r H
      unfold bal_Balance_level.j1 at H
      rcases its H with ⟨c12, H⟩ | ⟨c12, H⟩
      · skip
        have hr_ := Option.some.inj H; clear H; subst hr_; (repeat' apply And.intro) <;> first | rfl | omega | (simp only [List.length_set, cpy_len]; done) | (simp only [List.length_set, cpy_len]; omega)
      · skip
        obtain ⟨q13, hq13, H⟩ := bnd H
        obtain ⟨q14, hq14, H⟩ := bnd H
        obtain ⟨c15, H⟩ := it1 H
        obtain ⟨c16, H⟩ := it1 H
        rcases its H with ⟨c17, H⟩ | ⟨c17, H⟩
        · skip
          have hr_ := Option.some.inj H; clear H; subst hr_; (repeat' apply And.intro) <;> first | rfl | omega | (simp only [List.length_set, cpy_len]; done) | (simp only [List.length_set, cpy_len]; omega)
        · skip
          obtain ⟨q18, hq18, H⟩ := bnd H
          have ih_ := ih2 i_2 (mx (wrap64 ((-200) - (rd h3 i_2))) (mn (wrap64 (Int.tdiv (wrap64 (q13 - q14)) 2)) (wrap64 (200 - (rd h3 i_2))))) 0 h4_0 0 h0_0 h0_1 h1 h2 h3 h4_1 h4_2 q18.1 q18.2.1 q18.2.2.1 q18.2.2.2 r H; first | exact ih_ | omega | (simp only [List.length_set, List.length_append, List.length_replicate] at ih_ ⊢; omega)
    · intro i_2 p_11 all_13 t_86 t_87 h0_0 h0_1 h1 h2 h3 h4_1 h4_2 h5_0 h5_1 h5_2 h6 r H
      unfold bal_Balance_level.l1 at H
      rcases its H with ⟨c19, H⟩ | ⟨c19, H⟩
      · skip
        rcases its H with ⟨c20, H⟩ | ⟨c20, H⟩
        · skip
          have ih_ := ih2 i_2 p_11 all_13 t_86 (wrap64 (t_87 + 1)) h0_0 h0_1 h1 h2 h3 h4_1 h4_2 h5_0 h5_1 h5_2 h6 r H; first | exact ih_ | omega | (simp only [List.length_set, List.length_append, List.length_replicate] at ih_ ⊢; omega)
        · skip
          obtain ⟨q21, hq21, H⟩ := bnd H
          obtain ⟨q22, hq22, H⟩ := bnd H
          obtain ⟨q23, hq23, H⟩ := bnd H
          obtain ⟨q24, hq24, H⟩ := bnd H
          obtain ⟨q25, hq25, H⟩ := bnd H
          have zq25_0 := mat_Matrix_Set.len hq25
          (try simp only [List.length_set, List.length_replicate, List.length_append, List.length_cons, List.length_nil, Nat.zero_add] at zq25_0)
          obtain ⟨q26, hq26, H⟩ := bnd H
          have zq26_0 := mat_Matrix_Set.len hq26
          (try simp only [List.length_set, List.length_replicate, List.length_append, List.length_cons, List.length_nil, Nat.zero_add] at zq26_0)
          have ih_ := ih2 i_2 p_11 (Go.bits .or .u8 all_13 (Go.bits .or .u8 q22.2 q24.2)) t_86 (wrap64 (t_87 + 1)) h0_0 h0_1 h1 h2 h3 h4_1 h4_2 h5_0 h5_1 h5_2 q26 r H; first | exact ih_ | omega | (simp only [List.length_set, List.length_append, List.length_replicate] at ih_ ⊢; omega)
      · skip
        rcases its H with ⟨c27, H⟩ | ⟨c27, H⟩
        · skip
          obtain ⟨c28, H⟩ := it1 H
          obtain ⟨c29, H⟩ := it1 H
          have hr_ := Option.some.inj H; clear H; subst hr_; (repeat' apply And.intro) <;> first | rfl | omega | (simp only [List.length_set, cpy_len]; done) | (simp only [List.length_set, cpy_len]; omega)
        · skip
          have hr_ := Option.some.inj H; clear H; subst hr_; (repeat' apply And.intro) <;> first | rfl | omega | (simp only [List.length_set, cpy_len]; done) | (simp only [List.length_set, cpy_len]; omega)
theorem bal_Balance_level.len {k : Nat} {l0_0 : List Int} {l0_1 : List Int} {s0_2 : Int} {s0_3 : Int} {a1_0 : Int} {a1_1 : Int} {a1_2 : Int} {l1_3 : List Int} {a2 : Int} {r : Bool × Int × Int × (List Int) × (List Int) × (List Int)} (H : bal_Balance_level.f k l0_0 l0_1 s0_2 s0_3 a1_0 a1_1 a1_2 l1_3 a2 = some r) : r.2.2.2.1.length = l1_3.length ∧ r.2.2.2.2.1.length = l0_0.length ∧ r.2.2.2.2.2.length = l0_1.length := by
  obtain ⟨ih0, ih1, ih2⟩ := bal_Balance_level.len_l k
  unfold bal_Balance_level.f at H
  have ih_ := ih0 a2 0 0 s0_2 s0_2 s0_3 l1_3 l0_0 l0_1 a1_0 a1_1 a1_2 0 r H; first | exact ih_ | omega | (simp only [List.length_set, List.length_append, List.length_replicate] at ih_ ⊢; omega)
set_option maxHeartbeats 8000000 in
set_option maxRecDepth 100000 in
theorem bal_Balance_level.does_l {l0_0 : List Int} {l0_1 : List Int} {s0_2 : Int} {s0_3 : Int} {a1_0 : Int} {a1_1 : Int} {a1_2 : Int} {l1_3 : List Int} {a2 : Int} (k : Nat) : (∀ (i_2 : Int) (col_8 : Int) (row_9 : Int) (k_10 : Int) (h0_0 : Int) (h0_1 : Int) (h1 : List Int) (h2 : List Int) (h3 : List Int) (h4_0 : Int) (h4_1 : Int) (h4_2 : Int) (h5 : Int) (r : Bool × Int × Int × (List Int) × (List Int) × (List Int)), bal_Balance_level.l0 k i_2 col_8 row_9 k_10 h0_0 h0_1 h1 h2 h3 h4_0 h4_1 h4_2 h5 = some r → wk_ E0 (bal_Balance_level.Q l0_0 l0_1 s0_2 s0_3 a1_0 a1_1 a1_2 l1_3 a2 r) (frs (bodyOf Try.f18) [1, 1, 1, 0, 1, 0] []) (sub (bodyOf Try.f18) [1, 1, 1, 0, 1, 0]) ⟨[.p (some (0, 0)), .u, .i .i64 i_2, .u, .p (some (4, 0)), .u, .u, .p (some (5, 0)), .i .u64 col_8, .i .u64 row_9, .i .i64 k_10, .u, .u, .u, .u, .u, .u, .u, .u, .u, .u, .u, .u, .u, .u, .u, .u, .u, .u, .u, .u, .u, .u, .u, .u, .u, .u, .u, .u, .u, .u, .u, .u, .u, .u, .u, .u, .u, .u, .u, .u, .u, .u, .u, .u, .u, .u, .u, .u, .u, .u, .u, .u, .u, .u, .u, .u, .u, .u, .u, .u, .u, .u, .u, .u, .u, .u, .u, .u, .u, .u, .u, .u, .u, .u, .u, .u, .u, .u, .u, .u, .u, .u, .u, .u, .u, .u, .u, .u, .u, .u, .u, .u, .u, .u, .u, .u, .u, .u, .u, .u, .u, .u, .u, .u, .u, .u, .u, .u, .u, .u, .u, .u, .u, .u, .u, .u, .u, .u, .u, .u, .u, .u, .u, .u, .u, .u, .u, .u, .u, .u, .u, .u, .u, .u], ofL [.row [.s (some (2, 0)) h2.length, .s (some (3, 0)) h3.length, .i .i64 h0_0, .i .i64 h0_1] 0 0 true false none, .row (h1.map (V.i .u64)) 2 1 true false none, .row (h2.map (V.i .i64)) 2 1 true false none, .row (h3.map (V.i .i64)) 2 1 true false none, .row [.i .i64 h4_0, .i .i64 h4_1, .i .i64 h4_2, .s (some (1, 0)) h1.length] 0 0 true true none, .row [.i .u8 h5] 0 0 true true none], 6, 4⟩) ∧
    (∀ (i_2 : Int) (col_8 : Int) (row_9 : Int) (t_55 : Bool) (h0_0 : Int) (h0_1 : Int) (h1 : List Int) (h2 : List Int) (h3 : List Int) (h4_0 : Int) (h4_1 : Int) (h4_2 : Int) (r : Bool × Int × Int × (List Int) × (List Int) × (List Int)), bal_Balance_level.j1 k i_2 col_8 row_9 t_55 h0_0 h0_1 h1 h2 h3 h4_0 h4_1 h4_2 = some r → kont E0 (bal_Balance_level.Q l0_0 l0_1 s0_2 s0_3 a1_0 a1_1 a1_2 l1_3 a2 r) (frs (bodyOf Try.f18) [1, 1, 1, 1, 0, 0] []) .normal ⟨[.p (some (0, 0)), .u, .i .i64 i_2, .u, .p (some (4, 0)), .u, .u, .u, .i .u64 col_8, .i .u64 row_9, .u, .u, .u, .u, .u, .u, .u, .u, .u, .u, .u, .u, .u, .u, .u, .u, .u, .u, .u, .u, .u, .u, .u, .u, .u, .u, .u, .u, .u, .u, .u, .u, .u, .u, .u, .u, .u, .u, .u, .u, .u, .u, .u, .u, .u, .b t_55, .u, .u, .u, .u, .u, .u, .u, .u, .u, .u, .u, .u, .u, .u, .u, .u, .u, .u, .u, .u, .u, .u, .u, .u, .u, .u, .u, .u, .u, .u, .u, .u, .u, .u, .u, .u, .u, .u, .u, .u, .u, .u, .u, .u, .u, .u, .u, .u, .u, .u, .u, .u, .u, .u, .u, .u, .u, .u, .u, .u, .u, .u, .u, .u, .u, .u, .u, .u, .u, .u, .u, .u, .u, .u, .u, .u, .u, .u, .u, .u, .u, .u, .u, .u, .u, .u, .u, .u, .u], ofL [.row [.s (some (2, 0)) h2.length, .s (some (3, 0)) h3.length, .i .i64 h0_0, .i .i64 h0_1] 0 0 true false none, .row (h1.map (V.i .u64)) 2 1 true false none, .row (h2.map (V.i .i64)) 2 1 true false none, .row (h3.map (V.i .i64)) 2 1 true false none, .row [.i .i64 h4_0, .i .i64 h4_1, .i .i64 h4_2, .s (some (1, 0)) h1.length] 0 0 true true none], 5, 4⟩) ∧
    (∀ (i_2 : Int) (p_11 : Int) (all_13 : Int) (t_86 : Int) (t_87 : Int) (h0_0 : Int) (h0_1 : Int) (h1 : List Int) (h2 : List Int) (h3 : List Int) (h4_1 : Int) (h4_2 : Int) (h5_0 : Int) (h5_1 : Int) (h5_2 : Int) (h6 : List Int) (r : Bool × Int × Int × (List Int) × (List Int) × (List Int)), bal_Balance_level.l1 k i_2 p_11 all_13 t_86 t_87 h0_0 h0_1 h1 h2 h3 h4_1 h4_2 h5_0 h5_1 h5_2 h6 = some r → wk_ E0 (bal_Balance_level.Q l0_0 l0_1 s0_2 s0_3 a1_0 a1_1 a1_2 l1_3 a2 r) (frs (bodyOf Try.f18) [1, 1, 1, 1, 1, 1, 1, 1, 1, 1, 0, 1, 0] []) (sub (bodyOf Try.f18) [1, 1, 1, 1, 1, 1, 1, 1, 1, 1, 0, 1, 0]) ⟨[.p (some (0, 0)), .u, .i .i64 i_2, .u, .p (some (4, 0)), .u, .u, .u, .u, .u, .u, .i .i64 p_11, .p (some (5, 0)), .i .u8 all_13, .u, .u, .u, .u, .u, .u, .u, .u, .u, .u, .u, .u, .u, .u, .u, .u, .u, .u, .u, .u, .u, .u, .u, .u, .u, .u, .u, .u, .u, .u, .u, .u, .u, .u, .u, .u, .u, .u, .u, .u, .u, .u, .u, .u, .u, .u, .u, .u, .u, .u, .u, .u, .u, .u, .u, .u, .u, .u, .u, .u, .u, .u, .u, .u, .u, .u, .u, .u, .u, .u, .u, .u, .i .i64 t_86, .i .i64 t_87, .u, .u, .u, .u, .u, .u, .u, .u, .u, .u, .u, .u, .u, .u, .u, .u, .u, .u, .u, .u, .u, .u, .u, .u, .u, .u, .u, .u, .u, .u, .u, .u, .u, .u, .u, .u, .u, .u, .u, .u, .u, .u, .u, .u, .u, .u, .u, .u, .u, .u, .u, .u, .u, .u, .u, .u, .u], ofL [.row [.s (some (2, 0)) h2.length, .s (some (3, 0)) h3.length, .i .i64 h0_0, .i .i64 h0_1] 0 0 true false none, .row (h1.map (V.i .u64)) 2 1 true false none, .row (h2.map (V.i .i64)) 2 1 true false none, .row (h3.map (V.i .i64)) 2 1 true false none, .row [.i .i64 t_86, .i .i64 h4_1, .i .i64 h4_2, .s (some (1, 0)) h1.length] 0 0 true true none, .row [.i .i64 h5_0, .i .i64 h5_1, .i .i64 h5_2, .s (some (6, 0)) h6.length] 0 0 true true none, .row (h6.map (V.i .u64)) 2 1 true true none], 7, 4⟩) := by
  induction k with
  | zero => exact ⟨fun _ _ _ _ _ _ _ _ _ _ _ _ _ r h => by simp [bal_Balance_level.l0] at h, fun _ _ _ _ _ _ _ _ _ _ _ _ r h => by simp [bal_Balance_level.j1] at h, fun _ _ _ _ _ _ _ _ _ _ _ _ _ _ _ _ r h => by simp [bal_Balance_level.l1] at h⟩
  | succ k ih =>
    obtain ⟨ih0, ih1, ih2⟩ := ih
    refine ⟨?_, ?_, ?_⟩
    · intro i_2 col_8 row_9 k_10 h0_0 h0_1 h1 h2 h3 h4_0 h4_1 h4_2 h5 r H
      unfold bal_Balance_level.l0 at H
      simp only [bodyOf, Try.f18, frs, sub, if_true, if_false, Nat.one_ne_zero]
      refine w_loop ?_
      refine w_seq ?_
      refine w_seq ?_
      refine wR fun K hK => ?_
      refine g_mv rfl rfl (gT ?_)
      refine g_mv rfl rfl (gT ?_)
      refine g_nc rfl rfl rfl (gT ?_)
      refine g_fd rfl rfl fa29_3 rfl (gT ?_)
      refine g_ldc rfl rfl ag3 sz3 rfl rfl rfl (gT ?_)
      refine g_bin rfl rfl rfl rfl rfl (gT ?_)
      refine g_nil (hK _ _ _ ?_)
      refine k_seq ?_
      rcases its H with ⟨c1, H⟩ | ⟨c1, H⟩
      · have c1b := decide_eq_true c1; try simp only [c1b, nrm]
        refine w_cond rfl (fun _ => ?_) (fun h => Bool.noConfusion h)
        refine w_skip ?_
        refine k_seq ?_
        refine w_seq ?_
        refine w_block ?_
        refine w_seq ?_
        refine wR fun K hK => ?_
        refine g_mv rfl rfl (gT ?_)
        refine g_mv rfl rfl (gT ?_)
        refine g_bin rfl rfl rfl rfl rfl (gT ?_)
        refine g_nil (hK _ _ _ ?_)
        refine k_seq ?_
        rcases its H with ⟨c2, H⟩ | ⟨c2, H⟩
        · have c2b := beq_iff_eq.mpr c2; have c2n := bne_eq_false_iff_eq.mpr c2; try simp only [c2b, c2n, nrm]
          refine w_cond rfl (fun h => Bool.noConfusion h) (fun _ => ?_)
          refine w_skip ?_
          refine k_block ?_
          refine k_seq ?_
          refine wR fun K hK => ?_
          refine g_mv rfl rfl (gT ?_)
          refine g_bin rfl rfl rfl rfl rfl (gT ?_)
          refine g_as rfl rfl (gT ?_)
          refine g_nil (hK _ _ _ ?_)
          refine k_loop ?_
          refine w_wk (σ := [0, 1, 2, 3, 4, 5]) [0, 1, 1, 2, 0, 0, 0] rfl (by decide) ?_; refine gC ?_
          exact gI (ih0 i_2 col_8 row_9 (wrap64 (k_10 + 1)) h0_0 h0_1 h1 h2 h3 h4_0 h4_1 h4_2 h5 r H)
        · have c2b := beq_eq_false_iff_ne.mpr c2; have c2n := bne_iff_ne.mpr c2; try simp only [c2b, c2n, nrm]
          refine w_cond rfl (fun _ => ?_) (fun h => Bool.noConfusion h)
          refine wD fun K hK => ?_
          refine g_mv rfl rfl (gT ?_)
          refine g_lda rfl rfl ag26 sz26 rfl rfl (Nat.le_of_ble_eq_true rfl) (gT ?_)
          refine g_mv rfl rfl (gT ?_)
          refine g_mv rfl rfl (gT ?_)
          obtain ⟨q3, hq3, H⟩ := bnd H
          refine g_cs [] rfl rfl (by rfl) Try.func9 rfl (by decide) (mat_Matrix_At.does hq3) ⟨Nat.le_of_ble_eq_true rfl, Nat.le_of_ble_eq_true rfl⟩ ?_; refine gC ?_
          obtain ⟨q4, hq4, H⟩ := bnd H
          refine g_cs [] rfl rfl (by rfl) Try.func8 rfl (by decide) (word_Abs.does hq4) ⟨Nat.le_of_ble_eq_true rfl, Nat.le_of_ble_eq_true rfl⟩ ?_; refine gC ?_
          obtain ⟨q5, hq5, H⟩ := bnd H
          refine g_cs [5] rfl rfl (by rfl) Try.func23 rfl (by decide) (soft_Calc_Add.does hq5) ⟨Nat.le_of_ble_eq_true rfl, Nat.le_of_ble_eq_true rfl⟩ ?_; refine gC ?_
          refine g_mv rfl rfl (gT ?_)
          refine g_lda rfl rfl ag26 sz26 rfl rfl (Nat.le_of_ble_eq_true rfl) (gT ?_)
          refine g_mv rfl rfl (gT ?_)
          refine g_mv rfl rfl (gT ?_)
          obtain ⟨q6, hq6, H⟩ := bnd H
          refine g_cs [] rfl rfl (by rfl) Try.func9 rfl (by decide) (mat_Matrix_At.does hq6) ⟨Nat.le_of_ble_eq_true rfl, Nat.le_of_ble_eq_true rfl⟩ ?_; refine gC ?_
          obtain ⟨q7, hq7, H⟩ := bnd H
          refine g_cs [] rfl rfl (by rfl) Try.func8 rfl (by decide) (word_Abs.does hq7) ⟨Nat.le_of_ble_eq_true rfl, Nat.le_of_ble_eq_true rfl⟩ ?_; refine gC ?_
          obtain ⟨q8, hq8, H⟩ := bnd H
          refine g_cs [5] rfl rfl (by rfl) Try.func23 rfl (by decide) (soft_Calc_Add.does hq8) ⟨Nat.le_of_ble_eq_true rfl, Nat.le_of_ble_eq_true rfl⟩ ?_; refine gC ?_
          refine g_as rfl rfl (gT ?_)
          refine g_as rfl rfl (gT ?_)
          refine g_nil (hK _ _ _ (by kernel_rfl) ?_)
          refine k_block ?_
          refine k_seq ?_
          refine wR fun K hK => ?_
          refine g_mv rfl rfl (gT ?_)
          refine g_bin rfl rfl rfl rfl rfl (gT ?_)
          refine g_as rfl rfl (gT ?_)
          refine g_nil (hK _ _ _ ?_)
          refine k_loop ?_
          refine w_wk (σ := [0, 1, 2, 3, 4, 5]) [0, 1, 1, 2, 0, 0, 0] rfl (by decide) ?_; refine gC ?_
          exact gI (ih0 i_2 q5.1 q8.1 (wrap64 (k_10 + 1)) h0_0 h0_1 h1 h2 h3 h4_0 h4_1 h4_2 q8.2 r H)
      · have c1b := decide_eq_false c1; try simp only [c1b, nrm]
        refine w_cond rfl (fun h => Bool.noConfusion h) (fun _ => ?_)
        refine w_exit rfl ?_
        refine k_seq ?_
        refine w_seq ?_
        refine w_seq ?_
        refine wR fun K hK => ?_
        refine g_mv rfl rfl (gT ?_)
        obtain ⟨q9, hq9, H⟩ := bnd H
        refine g_cs [] rfl rfl (by rfl) Try.func22 rfl (by decide) (word_Kind.does hq9) ⟨Nat.le_of_ble_eq_true rfl, Nat.le_of_ble_eq_true rfl⟩ ?_; refine gC ?_
        refine g_bin rfl rfl rfl rfl rfl (gT ?_)
        refine g_mv rfl rfl (gT ?_)
        rcases its H with ⟨c10, H⟩ | ⟨c10, H⟩
        · have c10b := beq_iff_eq.mpr c10; have c10n := bne_eq_false_iff_eq.mpr c10; try simp only [c10b, c10n, nrm]
          refine g_mv rfl rfl (gT ?_)
          obtain ⟨q11, hq11, H⟩ := bnd H
          refine g_cs [] rfl rfl (by rfl) Try.func22 rfl (by decide) (word_Kind.does hq11) ⟨Nat.le_of_ble_eq_true rfl, Nat.le_of_ble_eq_true rfl⟩ ?_; refine gC ?_
          refine g_bin rfl rfl rfl rfl rfl (gT ?_)
          refine g_pick rfl rfl rfl (gT ?_)
          refine g_nil (hK _ _ _ ?_)
          refine k_wk (σ := [0, 1, 2, 3, 4]) [0, 1, 1, 3, 0, 45] rfl (by decide) rfl ?_; refine gC ?_
          exact gI (ih1 i_2 col_8 row_9 (q11 != 3) h0_0 h0_1 h1 h2 h3 h4_0 h4_1 h4_2 r H)
        · have c10b := beq_eq_false_iff_ne.mpr c10; have c10n := bne_iff_ne.mpr c10; try simp only [c10b, c10n, nrm]
          refine g_sk rfl rfl (gT ?_)
          refine g_sk rfl rfl (gT ?_)
          refine g_sk rfl rfl (gT ?_)
          refine g_pick rfl rfl rfl (gT ?_)
          refine g_nil (hK _ _ _ ?_)
          refine k_wk (σ := [0, 1, 2, 3, 4]) [0, 1, 1, 3, 0, 45] rfl (by decide) rfl ?_; refine gC ?_
          exact gI (ih1 i_2 col_8 row_9 true h0_0 h0_1 h1 h2 h3 h4_0 h4_1 h4_2 r H)
    · intro i_2 col_8 row_9 t_55 h0_0 h0_1 h1 h2 h3 h4_0 h4_1 h4_2 r H
      unfold bal_Balance_level.j1 at H
      simp only [bodyOf, Try.f18, frs, sub, if_true, if_false, Nat.one_ne_zero]
      refine k_seq ?_
      rcases its H with ⟨c12, H⟩ | ⟨c12, H⟩
      · have c12b : t_55 = true := c12; try simp only [c12b, nrm]
        refine w_cond rfl (fun _ => ?_) (fun h => Bool.noConfusion h)
        refine w_seq ?_
        refine wR fun K hK => ?_
        refine g_as rfl rfl (gT ?_)
        refine g_nil (hK _ _ _ ?_)
        refine k_seq ?_
        refine w_ret ?_
        refine fin_wp (τ := [0, 1, 2, 3]) rfl (by decide) ?_; rw [← Option.some.inj H]; simp only [Try.f18]; exact gF
      · have c12b : t_55 = false := Bool.eq_false_iff.mpr c12; try simp only [c12b, nrm]
        refine w_cond rfl (fun h => Bool.noConfusion h) (fun _ => ?_)
        refine w_skip ?_
        refine k_seq ?_
        refine w_seq ?_
        refine wR fun K hK => ?_
        refine g_mv rfl rfl (gT ?_)
        obtain ⟨q13, hq13, H⟩ := bnd H
        refine g_cs [] rfl rfl (by rfl) Try.func24 rfl (by decide) (word_Exp.does hq13) ⟨Nat.le_of_ble_eq_true rfl, Nat.le_of_ble_eq_true rfl⟩ ?_; refine gC ?_
        refine g_mv rfl rfl (gT ?_)
        obtain ⟨q14, hq14, H⟩ := bnd H
        refine g_cs [] rfl rfl (by rfl) Try.func24 rfl (by decide) (word_Exp.does hq14) ⟨Nat.le_of_ble_eq_true rfl, Nat.le_of_ble_eq_true rfl⟩ ?_; refine gC ?_
        refine g_bin rfl rfl rfl rfl rfl (gT ?_)
        refine g_quo rfl rfl rfl rfl (by first | assumption | omega) (gT ?_)
        refine g_as rfl rfl (gT ?_)
        refine g_nil (hK _ _ _ ?_)
        refine k_seq ?_
        refine w_seq ?_
        refine wD fun K hK => ?_
        refine g_mv rfl rfl (gT ?_)
        refine g_nc rfl rfl rfl (gT ?_)
        refine g_fd rfl rfl fa29_1 rfl (gT ?_)
        refine g_ldc rfl rfl ag27 sz27 rfl rfl rfl (gT ?_)
        refine g_mv rfl rfl (gT ?_)
        obtain ⟨c15, H⟩ := it1 H
        obtain ⟨c16, H⟩ := it1 H
        refine g_ixo rfl rfl Try.underlying27 sz3 rfl rfl (by first | assumption | omega) (by first | assumption | omega | (simp only [List.length_set, List.length_replicate] at *; omega)) (gT ?_)
        refine g_ldo rfl rfl ag3 sz3 rfl rfl (by first | assumption | omega | (simp only [List.length_set, List.length_replicate] at *; omega)) (gT ?_)
        refine g_bin rfl rfl rfl rfl rfl (gT ?_)
        refine g_mv rfl rfl (gT ?_)
        refine g_mv rfl rfl (gT ?_)
        refine g_nc rfl rfl rfl (gT ?_)
        refine g_fd rfl rfl fa29_1 rfl (gT ?_)
        refine g_ldc rfl rfl ag27 sz27 rfl rfl rfl (gT ?_)
        refine g_mv rfl rfl (gT ?_)
        refine g_ixo rfl rfl Try.underlying27 sz3 rfl rfl (by first | assumption | omega) (by first | assumption | omega | (simp only [List.length_set, List.length_replicate] at *; omega)) (gT ?_)
        refine g_ldo rfl rfl ag3 sz3 rfl rfl (by first | assumption | omega | (simp only [List.length_set, List.length_replicate] at *; omega)) (gT ?_)
        refine g_bin rfl rfl rfl rfl rfl (gT ?_)
        refine g_min rfl rfl rfl rfl (m := mn _ _) rfl (gT ?_)
        refine g_max rfl rfl rfl rfl (m := mx _ _) rfl (gT ?_)
        refine g_as rfl rfl (gT ?_)
        refine g_nil (hK _ _ _ (by kernel_rfl) ?_)
        refine k_seq ?_
        refine w_seq ?_
        refine w_seq ?_
        refine wR fun K hK => ?_
        refine g_mv rfl rfl (gT ?_)
        refine g_bin rfl rfl rfl rfl rfl (gT ?_)
        refine g_nil (hK _ _ _ ?_)
        refine k_seq ?_
        rcases its H with ⟨c17, H⟩ | ⟨c17, H⟩
        · have c17b := beq_iff_eq.mpr c17; have c17n := bne_eq_false_iff_eq.mpr c17; try simp only [c17b, c17n, nrm]
          refine w_cond rfl (fun _ => ?_) (fun h => Bool.noConfusion h)
          refine w_seq ?_
          refine wR fun K hK => ?_
          refine g_as rfl rfl (gT ?_)
          refine g_nil (hK _ _ _ ?_)
          refine k_seq ?_
          refine w_ret ?_
          refine fin_wp (τ := [0, 1, 2, 3]) rfl (by decide) ?_; rw [← Option.some.inj H]; simp only [Try.f18]; exact gF
        · have c17b := beq_eq_false_iff_ne.mpr c17; have c17n := bne_iff_ne.mpr c17; try simp only [c17b, c17n, nrm]
          refine w_cond rfl (fun h => Bool.noConfusion h) (fun _ => ?_)
          refine w_skip ?_
          refine k_seq ?_
          refine w_seq ?_
          refine wR fun K hK => ?_
          refine g_lda rfl rfl ag26 sz26 rfl rfl (Nat.le_of_ble_eq_true rfl) (gT ?_)
          obtain ⟨q18, hq18, H⟩ := bnd H
          refine g_cs [] rfl rfl (by rfl) Try.func15 rfl (by decide) (mat_Matrix_Clone.does hq18) ⟨Nat.le_of_ble_eq_true rfl, Nat.le_of_ble_eq_true rfl⟩ ?_; refine gC ?_
          refine g_alloc rfl rfl zr26 (gU ?_)
          refine g_st rfl rfl sz26 rfl rfl rfl (by rfl) (Nat.le_of_ble_eq_true rfl) (gU ?_)
          refine g_nil (hK _ _ _ ?_)
          refine k_seq ?_
          refine w_seq ?_
          refine wR fun K hK => ?_
          refine g_as rfl rfl (gT ?_)
          refine g_nil (hK _ _ _ ?_)
          refine k_seq ?_
          refine w_seq ?_
          refine w_seq ?_
          refine wR fun K hK => ?_
          refine g_fd rfl rfl fa26_0 rfl (gT ?_)
          refine g_ldc rfl rfl ag3 sz3 rfl rfl rfl (gT ?_)
          refine g_mv rfl rfl (gT ?_)
          refine g_nil (hK _ _ _ ?_)
          refine k_seq ?_
          refine w_block ?_
          refine w_wk (σ := [0, 1, 2, 3, 4, 129, 125]) [0, 1, 1, 6, 0, 0, 72, 0] rfl (by decide) ?_; refine gC ?_
          exact gI (ih2 i_2 (mx (wrap64 ((-200) - (rd h3 i_2))) (mn (wrap64 (Int.tdiv (wrap64 (q13 - q14)) 2)) (wrap64 (200 - (rd h3 i_2))))) 0 h4_0 0 h0_0 h0_1 h1 h2 h3 h4_1 h4_2 q18.1 q18.2.1 q18.2.2.1 q18.2.2.2 r H)
    · intro i_2 p_11 all_13 t_86 t_87 h0_0 h0_1 h1 h2 h3 h4_1 h4_2 h5_0 h5_1 h5_2 h6 r H
      unfold bal_Balance_level.l1 at H
      simp only [bodyOf, Try.f18, frs, sub, if_true, if_false, Nat.one_ne_zero]
      refine w_loop ?_
      refine w_seq ?_
      refine wR fun K hK => ?_
      refine g_bin rfl rfl rfl rfl rfl (gT ?_)
      refine g_nil (hK _ _ _ ?_)
      refine k_seq ?_
      refine w_seq ?_
      rcases its H with ⟨c19, H⟩ | ⟨c19, H⟩
      · have c19b := decide_eq_true c19; try simp only [c19b, nrm]
        refine w_cond rfl (fun _ => ?_) (fun h => Bool.noConfusion h)
        refine w_skip ?_
        refine k_seq ?_
        refine w_seq ?_
        refine w_block ?_
        refine w_seq ?_
        refine wR fun K hK => ?_
        refine g_mv rfl rfl (gT ?_)
        refine g_as rfl rfl (gT ?_)
        refine g_nil (hK _ _ _ ?_)
        refine k_seq ?_
        refine w_seq ?_
        refine wR fun K hK => ?_
        refine g_mv rfl rfl (gT ?_)
        refine g_mv rfl rfl (gT ?_)
        refine g_bin rfl rfl rfl rfl rfl (gT ?_)
        refine g_nil (hK _ _ _ ?_)
        refine k_seq ?_
        rcases its H with ⟨c20, H⟩ | ⟨c20, H⟩
        · have c20b := beq_iff_eq.mpr c20; have c20n := bne_eq_false_iff_eq.mpr c20; try simp only [c20b, c20n, nrm]
          refine w_cond rfl (fun h => Bool.noConfusion h) (fun _ => ?_)
          refine w_skip ?_
          refine k_block ?_
          refine k_seq ?_
          refine wR fun K hK => ?_
          refine g_bin rfl rfl rfl rfl rfl (gT ?_)
          refine g_mv rfl rfl (gT ?_)
          refine g_nil (hK _ _ _ ?_)
          refine k_loop ?_
          refine w_wk (σ := [0, 1, 2, 3, 4, 5, 6]) [0, 1, 1, 6, 0, 0, 72, 0] rfl (by decide) ?_; refine gC ?_
          exact gI (ih2 i_2 p_11 all_13 t_86 (wrap64 (t_87 + 1)) h0_0 h0_1 h1 h2 h3 h4_1 h4_2 h5_0 h5_1 h5_2 h6 r H)
        · have c20b := beq_eq_false_iff_ne.mpr c20; have c20n := bne_iff_ne.mpr c20; try simp only [c20b, c20n, nrm]
          refine w_cond rfl (fun _ => ?_) (fun h => Bool.noConfusion h)
          refine w_seq ?_
          refine wR fun K hK => ?_
          refine g_lda rfl rfl ag26 sz26 rfl rfl (Nat.le_of_ble_eq_true rfl) (gT ?_)
          refine g_mv rfl rfl (gT ?_)
          refine g_mv rfl rfl (gT ?_)
          obtain ⟨q21, hq21, H⟩ := bnd H
          refine g_cs [] rfl rfl (by rfl) Try.func9 rfl (by decide) (mat_Matrix_At.does hq21) ⟨Nat.le_of_ble_eq_true rfl, Nat.le_of_ble_eq_true rfl⟩ ?_; refine gC ?_
          refine g_mv rfl rfl (gT ?_)
          obtain ⟨q22, hq22, H⟩ := bnd H
          refine g_cs [] rfl rfl (by rfl) Try.func25 rfl (by decide) (more_Scale.does hq22) ⟨Nat.le_of_ble_eq_true rfl, Nat.le_of_ble_eq_true rfl⟩ ?_; refine gC ?_
          refine g_mv rfl rfl (gT ?_)
          refine g_ext rfl rfl rfl (Nat.le_of_ble_eq_true rfl) (gT ?_)
          refine g_ext rfl rfl rfl (Nat.le_of_ble_eq_true rfl) (gT ?_)
          refine g_as rfl rfl (gT ?_)
          refine g_as rfl rfl (gT ?_)
          refine g_nil (hK _ _ _ ?_)
          refine k_seq ?_
          refine w_seq ?_
          refine wR fun K hK => ?_
          refine g_lda rfl rfl ag26 sz26 rfl rfl (Nat.le_of_ble_eq_true rfl) (gT ?_)
          refine g_mv rfl rfl (gT ?_)
          refine g_mv rfl rfl (gT ?_)
          obtain ⟨q23, hq23, H⟩ := bnd H
          refine g_cs [] rfl rfl (by rfl) Try.func9 rfl (by decide) (mat_Matrix_At.does hq23) ⟨Nat.le_of_ble_eq_true rfl, Nat.le_of_ble_eq_true rfl⟩ ?_; refine gC ?_
          refine g_mv rfl rfl (gT ?_)
          refine g_un rfl rfl rfl rfl (gT ?_)
          obtain ⟨q24, hq24, H⟩ := bnd H
          refine g_cs [] rfl rfl (by rfl) Try.func25 rfl (by decide) (more_Scale.does hq24) ⟨Nat.le_of_ble_eq_true rfl, Nat.le_of_ble_eq_true rfl⟩ ?_; refine gC ?_
          refine g_mv rfl rfl (gT ?_)
          refine g_ext rfl rfl rfl (Nat.le_of_ble_eq_true rfl) (gT ?_)
          refine g_ext rfl rfl rfl (Nat.le_of_ble_eq_true rfl) (gT ?_)
          refine g_as rfl rfl (gT ?_)
          refine g_as rfl rfl (gT ?_)
          refine g_nil (hK _ _ _ ?_)
          refine k_seq ?_
          refine w_seq ?_
          refine wR fun K hK => ?_
          refine g_lda rfl rfl ag26 sz26 rfl rfl (Nat.le_of_ble_eq_true rfl) (gT ?_)
          refine g_mv rfl rfl (gT ?_)
          refine g_mv rfl rfl (gT ?_)
          refine g_mv rfl rfl (gT ?_)
          obtain ⟨q25, hq25, H⟩ := bnd H
          have zq25_0 := mat_Matrix_Set.len hq25
          (try simp only [List.length_set, List.length_replicate, List.length_append, List.length_cons, List.length_nil, Nat.zero_add] at zq25_0)
          refine g_cs [6] rfl rfl (by rfl) Try.func10 rfl (by decide) (mat_Matrix_Set.does hq25) ⟨Nat.le_of_ble_eq_true rfl, Nat.le_of_ble_eq_true rfl⟩ ?_; simp only [nrm, nrmw, nrmc, nrme, nrmo, nrml, nrmb, nrmx, Nat.reduceEqDiff, Nat.reduceBEq, Nat.zero_add, Nat.add_zero, Nat.mul_one, List.length_cons, List.length_nil, List.length_map, List.length_set, List.length_replicate, List.drop_zero, List.drop_succ_cons, List.drop_nil, List.take_zero, List.take_succ_cons, List.take_nil, Nat.le_refl, if_true, if_false, Option.any_none, Option.any_some, List.contains_nil, Bool.not_false, Bool.or_true, Bool.true_or, Bool.or_false, Bool.false_or, Bool.and_true, Bool.true_and, Bool.and_self, reduceCtorEq, beq_self_eq_true, List.map_cons, List.map_nil, List.append_nil, List.nil_append, List.contains_cons, List.filter_cons, List.filter_nil, List.cons_append, Bool.false_eq_true, true_and, and_true, List.getElem_toArray, List.getElem_cons_zero, List.getElem_cons_succ, Nat.reduceAdd, Nat.reduceMul, Nat.reduceLT, Nat.reduceSub, Nat.reduceLeDiff, ← zq25_0]
          refine g_nil (hK _ _ _ ?_)
          refine k_seq ?_
          refine w_seq ?_
          refine wR fun K hK => ?_
          refine g_lda rfl rfl ag26 sz26 rfl rfl (Nat.le_of_ble_eq_true rfl) (gT ?_)
          refine g_mv rfl rfl (gT ?_)
          refine g_mv rfl rfl (gT ?_)
          refine g_mv rfl rfl (gT ?_)
          obtain ⟨q26, hq26, H⟩ := bnd H
          have zq26_0 := mat_Matrix_Set.len hq26
          (try simp only [List.length_set, List.length_replicate, List.length_append, List.length_cons, List.length_nil, Nat.zero_add] at zq26_0)
          refine g_cs [6] rfl rfl (by rfl) Try.func10 rfl (by decide) (mat_Matrix_Set.does hq26) ⟨Nat.le_of_ble_eq_true rfl, Nat.le_of_ble_eq_true rfl⟩ ?_; simp only [nrm, nrmw, nrmc, nrme, nrmo, nrml, nrmb, nrmx, Nat.reduceEqDiff, Nat.reduceBEq, Nat.zero_add, Nat.add_zero, Nat.mul_one, List.length_cons, List.length_nil, List.length_map, List.length_set, List.length_replicate, List.drop_zero, List.drop_succ_cons, List.drop_nil, List.take_zero, List.take_succ_cons, List.take_nil, Nat.le_refl, if_true, if_false, Option.any_none, Option.any_some, List.contains_nil, Bool.not_false, Bool.or_true, Bool.true_or, Bool.or_false, Bool.false_or, Bool.and_true, Bool.true_and, Bool.and_self, reduceCtorEq, beq_self_eq_true, List.map_cons, List.map_nil, List.append_nil, List.nil_append, List.contains_cons, List.filter_cons, List.filter_nil, List.cons_append, Bool.false_eq_true, true_and, and_true, List.getElem_toArray, List.getElem_cons_zero, List.getElem_cons_succ, Nat.reduceAdd, Nat.reduceMul, Nat.reduceLT, Nat.reduceSub, Nat.reduceLeDiff, ← zq26_0]
          refine g_nil (hK _ _ _ ?_)
          refine k_seq ?_
          refine wR fun K hK => ?_
          refine g_mv rfl rfl (gT ?_)
          refine g_mv rfl rfl (gT ?_)
          refine g_mv rfl rfl (gT ?_)
          refine g_bin rfl rfl rfl rfl rfl (gT ?_)
          refine g_bin rfl rfl rfl rfl rfl (gT ?_)
          refine g_as rfl rfl (gT ?_)
          refine g_nil (hK _ _ _ ?_)
          refine k_block ?_
          refine k_seq ?_
          refine wR fun K hK => ?_
          refine g_bin rfl rfl rfl rfl rfl (gT ?_)
          refine g_mv rfl rfl (gT ?_)
          refine g_nil (hK _ _ _ ?_)
          refine k_loop ?_
          refine w_wk (σ := [0, 1, 2, 3, 4, 5, 6]) [0, 1, 1, 6, 0, 0, 72, 0] rfl (by decide) ?_; refine gC ?_
          exact gI (ih2 i_2 p_11 (Go.bits .or .u8 all_13 (Go.bits .or .u8 q22.2 q24.2)) t_86 (wrap64 (t_87 + 1)) h0_0 h0_1 h1 h2 h3 h4_1 h4_2 h5_0 h5_1 h5_2 q26 r H)
      · have c19b := decide_eq_false c19; try simp only [c19b, nrm]
        refine w_cond rfl (fun h => Bool.noConfusion h) (fun _ => ?_)
        refine w_exit rfl ?_
        refine k_seq ?_
        refine w_seq ?_
        refine w_seq ?_
        refine wR fun K hK => ?_
        refine g_mv rfl rfl (gT ?_)
        refine g_bin rfl rfl rfl rfl rfl (gT ?_)
        refine g_nil (hK _ _ _ ?_)
        refine k_seq ?_
        rcases its H with ⟨c27, H⟩ | ⟨c27, H⟩
        · have c27b := beq_iff_eq.mpr c27; have c27n := bne_eq_false_iff_eq.mpr c27; try simp only [c27b, c27n, nrm]
          refine w_cond rfl (fun h => Bool.noConfusion h) (fun _ => ?_)
          refine w_skip ?_
          refine k_seq ?_
          refine w_seq ?_
          refine wR fun K hK => ?_
          refine g_fd rfl rfl fa26_3 rfl (gT ?_)
          refine g_ldc rfl rfl ag22 sz22 rfl rfl rfl (gT ?_)
          refine g_fd rfl rfl fa26_3 rfl (gT ?_)
          refine g_ldc rfl rfl ag22 sz22 rfl rfl rfl (gT ?_)
          refine g_cp rfl rfl Try.underlying22 sz23 rfl rfl rfl rfl rfl rfl (gU ?_)
          refine g_nil (hK _ _ _ ?_)
          refine k_seq ?_
          refine w_seq ?_
          refine wR fun K hK => ?_
          refine g_mv rfl rfl (gT ?_)
          refine g_nc rfl rfl rfl (gT ?_)
          refine g_fd rfl rfl fa29_1 rfl (gT ?_)
          refine g_ldc rfl rfl ag27 sz27 rfl rfl rfl (gT ?_)
          refine g_mv rfl rfl (gT ?_)
          obtain ⟨c28, H⟩ := it1 H
          obtain ⟨c29, H⟩ := it1 H
          refine g_ixo rfl rfl Try.underlying27 sz3 rfl rfl (by first | assumption | omega) (by first | assumption | omega | (simp only [List.length_set, List.length_replicate] at *; omega)) (gT ?_)
          refine g_ldo rfl rfl ag3 sz3 rfl rfl (by first | assumption | omega | (simp only [List.length_set, List.length_replicate] at *; omega)) (gT ?_)
          refine g_mv rfl rfl (gT ?_)
          refine g_bin rfl rfl rfl rfl rfl (gT ?_)
          refine g_ixo rfl rfl Try.underlying27 sz3 rfl rfl (by first | assumption | omega) (by first | assumption | omega | (simp only [List.length_set, List.length_replicate] at *; omega)) (gT ?_)
          refine g_st rfl rfl sz3 rfl rfl rfl (by rfl) (by simp only [List.length_map, List.length_set, List.length_replicate]; first | assumption | omega) (gU ?_)
          refine g_nil (hK _ _ _ ?_)
          refine k_seq ?_
          refine w_seq ?_
          refine wR fun K hK => ?_
          refine g_as rfl rfl (gT ?_)
          refine g_nil (hK _ _ _ ?_)
          refine k_seq ?_
          refine w_ret ?_
          refine fin_wp (τ := [0, 1, 2, 3]) rfl (by decide) ?_; rw [← Option.some.inj H]; simp only [Try.f18]; exact gF
        · have c27b := beq_eq_false_iff_ne.mpr c27; have c27n := bne_iff_ne.mpr c27; try simp only [c27b, c27n, nrm]
          refine w_cond rfl (fun _ => ?_) (fun h => Bool.noConfusion h)
          refine w_seq ?_
          refine wR fun K hK => ?_
          refine g_as rfl rfl (gT ?_)
          refine g_nil (hK _ _ _ ?_)
          refine k_seq ?_
          refine w_ret ?_
          refine fin_wp (τ := [0, 1, 2, 3]) rfl (by decide) ?_; rw [← Option.some.inj H]; simp only [Try.f18]; exact gF
set_option maxHeartbeats 8000000 in
set_option maxRecDepth 100000 in
theorem bal_Balance_level.does {k : Nat} {l0_0 : List Int} {l0_1 : List Int} {s0_2 : Int} {s0_3 : Int} {a1_0 : Int} {a1_1 : Int} {a1_2 : Int} {l1_3 : List Int} {a2 : Int} {r : Bool × Int × Int × (List Int) × (List Int) × (List Int)} (H : bal_Balance_level.f k l0_0 l0_1 s0_2 s0_3 a1_0 a1_1 a1_2 l1_3 a2 = some r) : Do E0 (.fn 18 [.p (some (0, 0)), .a [.i .i64 a1_0, .i .i64 a1_1, .i .i64 a1_2, .s (some (1, 0)) l1_3.length], .i .i64 a2] [.row [.s (some (2, 0)) l0_0.length, .s (some (3, 0)) l0_1.length, .i .i64 s0_2, .i .i64 s0_3] 0 0 true false none, .row (l1_3.map (V.i .u64)) 2 1 true false none, .row (l0_0.map (V.i .i64)) 2 1 true false none, .row (l0_1.map (V.i .i64)) 2 1 true false none] (.b r.1) [.row [.s (some (2, 0)) r.2.2.2.2.1.length, .s (some (3, 0)) r.2.2.2.2.2.length, .i .i64 r.2.1, .i .i64 r.2.2.1] 0 0 true false none, .row (r.2.2.2.1.map (V.i .u64)) 2 1 true false none, .row (r.2.2.2.2.1.map (V.i .i64)) 2 1 true false none, .row (r.2.2.2.2.2.map (V.i .i64)) 2 1 true false none]) := by
  obtain ⟨ih0, ih1, ih2⟩ := bal_Balance_level.does_l (l0_0 := l0_0) (l0_1 := l0_1) (s0_2 := s0_2) (s0_3 := s0_3) (a1_0 := a1_0) (a1_1 := a1_1) (a1_2 := a1_2) (l1_3 := l1_3) (a2 := a2) k
  refine fn_wpl Try.func18 rfl (Q := (bal_Balance_level.Q l0_0 l0_1 s0_2 s0_3 a1_0 a1_1 a1_2 l1_3 a2 r)) (fun s h => h) ?_
  unfold bal_Balance_level.f at H
  simp only [Try.ntmps18, List.length, List.replicate, Nat.reduceAdd, Nat.reduceSub, List.cons_append, List.nil_append]
  refine w_seq ?_
  refine wR fun K hK => ?_
  refine g_box rfl rfl rfl (by rfl) (gU ?_)
  refine g_as rfl rfl (gT ?_)
  refine g_nil (hK _ _ _ ?_)
  refine k_seq ?_
  refine w_seq ?_
  refine wR fun K hK => ?_
  refine g_alloc rfl rfl zr55 (gU ?_)
  refine g_nil (hK _ _ _ ?_)
  refine k_seq ?_
  refine w_seq ?_
  refine wR fun K hK => ?_
  refine g_as rfl rfl (gT ?_)
  refine g_as rfl rfl (gT ?_)
  refine g_nil (hK _ _ _ ?_)
  refine k_seq ?_
  refine w_seq ?_
  refine w_seq ?_
  refine wR fun K hK => ?_
  refine g_mv rfl rfl (gT ?_)
  refine g_nc rfl rfl rfl (gT ?_)
  refine g_fd rfl rfl fa29_2 rfl (gT ?_)
  refine g_ldc rfl rfl ag3 sz3 rfl rfl rfl (gT ?_)
  refine g_as rfl rfl (gT ?_)
  refine g_nil (hK _ _ _ ?_)
  refine k_seq ?_
  refine w_block ?_
  refine w_wk (σ := [0, 1, 2, 3, 4, 12]) [0, 1, 1, 2, 0, 0, 0] rfl (by decide) ?_; refine gC ?_
  exact gI (ih0 a2 0 0 s0_2 s0_2 s0_3 l1_3 l0_0 l0_1 a1_0 a1_1 a1_2 0 r H)

set_option maxHeartbeats 8000000 in
set_option maxRecDepth 100000 in
theorem bal_Of.does_l {a0_0 : Int} {a0_1 : Int} {a0_2 : Int} {l0_3 : List Int} (k : Nat) : (∀ (t_23 : Bool) (h0_0 : Int) (h0_1 : Int) (h0_2 : Int) (h0_3 : List Int) (h1_0 : Int) (r : Int × Int × Int × (List Int) × (List Int) × (List Int) × Int × Int × Int), bal_Of.j0 k t_23 h0_0 h0_1 h0_2 h0_3 = some r → kont E0 (bal_Of.Q a0_0 a0_1 a0_2 l0_3 r) (frs (bodyOf Try.f6) [1, 0, 0, 0] []) .normal ⟨[.u, .p (some (0, 0)), .p (some (1, 0)), .p (some (2, 0)), .u, .u, .u, .u, .u, .u, .u, .u, .u, .u, .u, .u, .u, .u, .u, .u, .u, .u, .u, .b t_23, .u, .u, .u, .u, .u, .u, .u, .u, .u, .u, .u, .u, .u, .u, .u, .u, .u, .u, .u, .u, .u, .u, .u, .u, .u, .u, .u, .u, .u, .u, .u, .u, .u, .u, .u, .u, .u, .u, .u, .u, .u, .u, .u, .u, .u, .u, .u, .u, .u, .u, .u, .u, .u, .u, .u, .u, .u, .u, .u, .u, .u, .u, .u, .u, .u, .u, .u, .u, .u, .u, .u, .u, .u, .u, .u, .u, .u, .u, .u, .u, .u, .u, .u, .u, .u, .u, .u, .u, .u, .u, .u, .u, .u, .u, .u], ofL [.row [.i .i64 h0_0, .i .i64 h0_1, .i .i64 h0_2, .r (h0_3.map (V.i .u64)) h0_3.length true] 0 0 true true none, .row [.i .i64 h1_0, .i .i64 h1_0, .i .i64 h1_0, .s none 0] 0 0 true true none, .row [.s none 0, .s none 0, .i .i64 h1_0, .i .i64 h1_0] 0 0 true true none], 3, 0⟩) ∧
    (∀ (t_41 : Int) (t_42 : Int) (h0_0 : Int) (h2_0 : Int) (h2_1 : Int) (h2_2 : Int) (h3_0 : Int) (h4 : List Int) (h5 : List Int) (h6 : List Int) (r : Int × Int × Int × (List Int) × (List Int) × (List Int) × Int × Int × Int), bal_Of.l0 k t_41 t_42 h2_0 h2_1 h2_2 h3_0 h4 h5 h6 = some r → wk_ E0 (bal_Of.Q a0_0 a0_1 a0_2 l0_3 r) (frs (bodyOf Try.f6) [1, 0, 1, 1, 1, 1, 1, 0, 1, 0] []) (sub (bodyOf Try.f6) [1, 0, 1, 1, 1, 1, 1, 0, 1, 0]) ⟨[.u, .u, .p (some (0, 0)), .p (some (1, 0)), .u, .u, .p (some (2, 0)), .p (some (3, 0)), .u, .u, .u, .u, .u, .u, .u, .u, .u, .u, .u, .u, .u, .u, .u, .u, .u, .u, .u, .u, .u, .u, .u, .u, .u, .u, .u, .u, .u, .u, .u, .u, .u, .i .i64 t_41, .i .i64 t_42, .u, .u, .u, .u, .u, .u, .u, .u, .u, .u, .u, .u, .u, .u, .u, .u, .u, .u, .u, .u, .u, .u, .u, .u, .u, .u, .u, .u, .u, .u, .u, .u, .u, .u, .u, .u, .u, .u, .u, .u, .u, .u, .u, .u, .u, .u, .u, .u, .u, .u, .u, .u, .u, .u, .u, .u, .u, .u, .u, .u, .u, .u, .u, .u, .u, .u, .u, .u, .u, .u, .u, .u, .u, .u, .u, .u], ofL [.row [.i .i64 h0_0, .i .i64 h0_0, .i .i64 h0_0, .s none 0] 0 0 true true none, .row [.s none 0, .s none 0, .i .i64 h0_0, .i .i64 h0_0] 0 0 true true none, .row [.i .i64 h2_0, .i .i64 h2_1, .i .i64 h2_2, .s (some (4, 0)) h4.length] 0 0 true true none, .row [.s (some (5, 0)) h5.length, .s (some (6, 0)) h6.length, .i .i64 h3_0, .i .i64 t_41] 0 0 true true none, .row (h4.map (V.i .u64)) 2 1 true true none, .row (h5.map (V.i .i64)) 2 1 true true none, .row (h6.map (V.i .i64)) 2 1 true true none], 7, 0⟩) ∧
    (∀ (h0_0 : Int) (h2_0 : Int) (h2_1 : Int) (h2_2 : Int) (h3_0 : Int) (h3_1 : Int) (h4 : List Int) (h5 : List Int) (h6 : List Int) (r : Int × Int × Int × (List Int) × (List Int) × (List Int) × Int × Int × Int), bal_Of.l1 k h2_0 h2_1 h2_2 h3_0 h3_1 h4 h5 h6 = some r → wk_ E0 (bal_Of.Q a0_0 a0_1 a0_2 l0_3 r) (frs (bodyOf Try.f6) [1, 0, 1, 1, 1, 1, 1, 1, 1, 0, 0] []) (sub (bodyOf Try.f6) [1, 0, 1, 1, 1, 1, 1, 1, 1, 0, 0]) ⟨[.u, .u, .p (some (0, 0)), .p (some (1, 0)), .u, .u, .p (some (2, 0)), .p (some (3, 0)), .u, .u, .u, .u, .u, .u, .u, .u, .u, .u, .u, .u, .u, .u, .u, .u, .u, .u, .u, .u, .u, .u, .u, .u, .u, .u, .u, .u, .u, .u, .u, .u, .u, .u, .u, .u, .u, .u, .u, .u, .u, .u, .u, .u, .u, .u, .u, .u, .u, .u, .u, .u, .u, .u, .u, .u, .u, .u, .u, .u, .u, .u, .u, .u, .u, .u, .u, .u, .u, .u, .u, .u, .u, .u, .u, .u, .u, .u, .u, .u, .u, .u, .u, .u, .u, .u, .u, .u, .u, .u, .u, .u, .u, .u, .u, .u, .u, .u, .u, .u, .u, .u, .u, .u, .u, .u, .u, .u, .u, .u, .u], ofL [.row [.i .i64 h0_0, .i .i64 h0_0, .i .i64 h0_0, .s none 0] 0 0 true true none, .row [.s none 0, .s none 0, .i .i64 h0_0, .i .i64 h0_0] 0 0 true true none, .row [.i .i64 h2_0, .i .i64 h2_1, .i .i64 h2_2, .s (some (4, 0)) h4.length] 0 0 true true none, .row [.s (some (5, 0)) h5.length, .s (some (6, 0)) h6.length, .i .i64 h3_0, .i .i64 h3_1] 0 0 true true none, .row (h4.map (V.i .u64)) 2 1 true true none, .row (h5.map (V.i .i64)) 2 1 true true none, .row (h6.map (V.i .i64)) 2 1 true true none], 7, 0⟩) ∧
    (∀ (i_9 : Int) (h0_0 : Int) (h2_0 : Int) (h2_1 : Int) (h2_2 : Int) (h3_0 : Int) (h3_1 : Int) (h4 : List Int) (h5 : List Int) (h6 : List Int) (r : Int × Int × Int × (List Int) × (List Int) × (List Int) × Int × Int × Int), bal_Of.l2 k i_9 h2_0 h2_1 h2_2 h3_0 h3_1 h4 h5 h6 = some r → wk_ E0 (bal_Of.Q a0_0 a0_1 a0_2 l0_3 r) (frs (bodyOf Try.f6) [1, 0, 1, 1, 1, 1, 1, 1, 1, 0, 0, 0, 0, 0, 1, 0] []) (sub (bodyOf Try.f6) [1, 0, 1, 1, 1, 1, 1, 1, 1, 0, 0, 0, 0, 0, 1, 0]) ⟨[.u, .u, .p (some (0, 0)), .p (some (1, 0)), .u, .u, .p (some (2, 0)), .p (some (3, 0)), .u, .i .i64 i_9, .u, .u, .u, .u, .u, .u, .u, .u, .u, .u, .u, .u, .u, .u, .u, .u, .u, .u, .u, .u, .u, .u, .u, .u, .u, .u, .u, .u, .u, .u, .u, .u, .u, .u, .u, .u, .u, .u, .u, .u, .u, .u, .u, .u, .u, .u, .u, .u, .u, .u, .u, .u, .u, .u, .u, .u, .u, .u, .u, .u, .u, .u, .u, .u, .u, .u, .u, .u, .u, .u, .u, .u, .u, .u, .u, .u, .u, .u, .u, .u, .u, .u, .u, .u, .u, .u, .u, .u, .u, .u, .u, .u, .u, .u, .u, .u, .u, .u, .u, .u, .u, .u, .u, .u, .u, .u, .u, .u, .u], ofL [.row [.i .i64 h0_0, .i .i64 h0_0, .i .i64 h0_0, .s none 0] 0 0 true true none, .row [.s none 0, .s none 0, .i .i64 h0_0, .i .i64 h0_0] 0 0 true true none, .row [.i .i64 h2_0, .i .i64 h2_1, .i .i64 h2_2, .s (some (4, 0)) h4.length] 0 0 true true none, .row [.s (some (5, 0)) h5.length, .s (some (6, 0)) h6.length, .i .i64 h3_0, .i .i64 h3_1] 0 0 true true none, .row (h4.map (V.i .u64)) 2 1 true true none, .row (h5.map (V.i .i64)) 2 1 true true none, .row (h6.map (V.i .i64)) 2 1 true true none], 7, 0⟩) ∧
    (∀ (h0_0 : Int) (h2_0 : Int) (h2_1 : Int) (h2_2 : Int) (h3_0 : Int) (h3_1 : Int) (h4 : List Int) (h5 : List Int) (h6 : List Int) (r : Int × Int × Int × (List Int) × (List Int) × (List Int) × Int × Int × Int), bal_Of.l3 k h2_0 h2_1 h2_2 h3_0 h3_1 h4 h5 h6 = some r → wk_ E0 (bal_Of.Q a0_0 a0_1 a0_2 l0_3 r) (frs (bodyOf Try.f6) [1, 0, 1, 1, 1, 1, 1, 1, 1, 1, 1, 0, 0] []) (sub (bodyOf Try.f6) [1, 0, 1, 1, 1, 1, 1, 1, 1, 1, 1, 0, 0]) ⟨[.u, .u, .p (some (0, 0)), .p (some (1, 0)), .u, .u, .p (some (2, 0)), .p (some (3, 0)), .u, .u, .u, .u, .u, .u, .u, .u, .u, .u, .u, .u, .u, .u, .u, .u, .u, .u, .u, .u, .u, .u, .u, .u, .u, .u, .u, .u, .u, .u, .u, .u, .u, .u, .u, .u, .u, .u, .u, .u, .u, .u, .u, .u, .u, .u, .u, .u, .u, .u, .u, .u, .u, .u, .u, .u, .u, .u, .u, .u, .u, .u, .u, .u, .u, .u, .u, .u, .u, .u, .u, .u, .u, .u, .u, .u, .u, .u, .u, .u, .u, .u, .u, .u, .u, .u, .u, .u, .u, .u, .u, .u, .u, .u, .u, .u, .u, .u, .u, .u, .u, .u, .u, .u, .u, .u, .u, .u, .u, .u, .u], ofL [.row [.i .i64 h0_0, .i .i64 h0_0, .i .i64 h0_0, .s none 0] 0 0 true true none, .row [.s none 0, .s none 0, .i .i64 h0_0, .i .i64 h0_0] 0 0 true true none, .row [.i .i64 h2_0, .i .i64 h2_1, .i .i64 h2_2, .s (some (4, 0)) h4.length] 0 0 true true none, .row [.s (some (5, 0)) h5.length, .s (some (6, 0)) h6.length, .i .i64 h3_0, .i .i64 h3_1] 0 0 true true none, .row (h4.map (V.i .u64)) 2 1 true true none, .row (h5.map (V.i .i64)) 2 1 true true none, .row (h6.map (V.i .i64)) 2 1 true true none], 7, 0⟩) ∧
    (∀ (i_10 : Int) (h0_0 : Int) (h2_0 : Int) (h2_1 : Int) (h2_2 : Int) (h3_0 : Int) (h3_1 : Int) (h4 : List Int) (h5 : List Int) (h6 : List Int) (r : Int × Int × Int × (List Int) × (List Int) × (List Int) × Int × Int × Int), bal_Of.l4 k i_10 h2_0 h2_1 h2_2 h3_0 h3_1 h4 h5 h6 = some r → wk_ E0 (bal_Of.Q a0_0 a0_1 a0_2 l0_3 r) (frs (bodyOf Try.f6) [1, 0, 1, 1, 1, 1, 1, 1, 1, 1, 1, 0, 0, 0, 0, 0, 1, 0] []) (sub (bodyOf Try.f6) [1, 0, 1, 1, 1, 1, 1, 1, 1, 1, 1, 0, 0, 0, 0, 0, 1, 0]) ⟨[.u, .u, .p (some (0, 0)), .p (some (1, 0)), .u, .u, .p (some (2, 0)), .p (some (3, 0)), .u, .u, .i .i64 i_10, .u, .u, .u, .u, .u, .u, .u, .u, .u, .u, .u, .u, .u, .u, .u, .u, .u, .u, .u, .u, .u, .u, .u, .u, .u, .u, .u, .u, .u, .u, .u, .u, .u, .u, .u, .u, .u, .u, .u, .u, .u, .u, .u, .u, .u, .u, .u, .u, .u, .u, .u, .u, .u, .u, .u, .u, .u, .u, .u, .u, .u, .u, .u, .u, .u, .u, .u, .u, .u, .u, .u, .u, .u, .u, .u, .u, .u, .u, .u, .u, .u, .u, .u, .u, .u, .u, .u, .u, .u, .u, .u, .u, .u, .u, .u, .u, .u, .u, .u, .u, .u, .u, .u, .u, .u, .u, .u, .u], ofL [.row [.i .i64 h0_0, .i .i64 h0_0, .i .i64 h0_0, .s none 0] 0 0 true true none, .row [.s none 0, .s none 0, .i .i64 h0_0, .i .i64 h0_0] 0 0 true true none, .row [.i .i64 h2_0, .i .i64 h2_1, .i .i64 h2_2, .s (some (4, 0)) h4.length] 0 0 true true none, .row [.s (some (5, 0)) h5.length, .s (some (6, 0)) h6.length, .i .i64 h3_0, .i .i64 h3_1] 0 0 true true none, .row (h4.map (V.i .u64)) 2 1 true true none, .row (h5.map (V.i .i64)) 2 1 true true none, .row (h6.map (V.i .i64)) 2 1 true true none], 7, 0⟩) ∧
    (∀ (again_11 : Bool) (round_12 : Int) (h0_0 : Int) (h2_0 : Int) (h2_1 : Int) (h2_2 : Int) (h3_0 : Int) (h3_1 : Int) (h4 : List Int) (h5 : List Int) (h6 : List Int) (r : Int × Int × Int × (List Int) × (List Int) × (List Int) × Int × Int × Int), bal_Of.l5 k again_11 round_12 h2_0 h2_1 h2_2 h3_0 h3_1 h4 h5 h6 = some r → wk_ E0 (bal_Of.Q a0_0 a0_1 a0_2 l0_3 r) (frs (bodyOf Try.f6) [1, 0, 1, 1, 1, 1, 1, 1, 1, 1, 1, 1, 0, 1, 0] []) (sub (bodyOf Try.f6) [1, 0, 1, 1, 1, 1, 1, 1, 1, 1, 1, 1, 0, 1, 0]) ⟨[.u, .u, .p (some (0, 0)), .p (some (1, 0)), .u, .u, .p (some (2, 0)), .p (some (3, 0)), .u, .u, .u, .b again_11, .i .i64 round_12, .u, .u, .u, .u, .u, .u, .u, .u, .u, .u, .u, .u, .u, .u, .u, .u, .u, .u, .u, .u, .u, .u, .u, .u, .u, .u, .u, .u, .u, .u, .u, .u, .u, .u, .u, .u, .u, .u, .u, .u, .u, .u, .u, .u, .u, .u, .u, .u, .u, .u, .u, .u, .u, .u, .u, .u, .u, .u, .u, .u, .u, .u, .u, .u, .u, .u, .u, .u, .u, .u, .u, .u, .u, .u, .u, .u, .u, .u, .u, .u, .u, .u, .u, .u, .u, .u, .u, .u, .u, .u, .u, .u, .u, .u, .u, .u, .u, .u, .u, .u, .u, .u, .u, .u, .u, .u], ofL [.row [.i .i64 h0_0, .i .i64 h0_0, .i .i64 h0_0, .s none 0] 0 0 true true none, .row [.s none 0, .s none 0, .i .i64 h0_0, .i .i64 h0_0] 0 0 true true none, .row [.i .i64 h2_0, .i .i64 h2_1, .i .i64 h2_2, .s (some (4, 0)) h4.length] 0 0 true true none, .row [.s (some (5, 0)) h5.length, .s (some (6, 0)) h6.length, .i .i64 h3_0, .i .i64 h3_1] 0 0 true true none, .row (h4.map (V.i .u64)) 2 1 true true none, .row (h5.map (V.i .i64)) 2 1 true true none, .row (h6.map (V.i .i64)) 2 1 true true none], 7, 0⟩) ∧
    (∀ (round_12 : Int) (t_100 : Bool) (h0_0 : Int) (h2_0 : Int) (h2_1 : Int) (h2_2 : Int) (h3_0 : Int) (h3_1 : Int) (h4 : List Int) (h5 : List Int) (h6 : List Int) (r : Int × Int × Int × (List Int) × (List Int) × (List Int) × Int × Int × Int), bal_Of.j7 k round_12 t_100 h2_0 h2_1 h2_2 h3_0 h3_1 h4 h5 h6 = some r → kont E0 (bal_Of.Q a0_0 a0_1 a0_2 l0_3 r) (frs (bodyOf Try.f6) [1, 0, 1, 1, 1, 1, 1, 1, 1, 1, 1, 1, 0, 1, 0, 0, 0, 0] []) .normal ⟨[.u, .u, .p (some (0, 0)), .p (some (1, 0)), .u, .u, .p (some (2, 0)), .p (some (3, 0)), .u, .u, .u, .u, .i .i64 round_12, .u, .u, .u, .u, .u, .u, .u, .u, .u, .u, .u, .u, .u, .u, .u, .u, .u, .u, .u, .u, .u, .u, .u, .u, .u, .u, .u, .u, .u, .u, .u, .u, .u, .u, .u, .u, .u, .u, .u, .u, .u, .u, .u, .u, .u, .u, .u, .u, .u, .u, .u, .u, .u, .u, .u, .u, .u, .u, .u, .u, .u, .u, .u, .u, .u, .u, .u, .u, .u, .u, .u, .u, .u, .u, .u, .u, .u, .u, .u, .u, .u, .u, .u, .u, .u, .u, .u, .b t_100, .u, .u, .u, .u, .u, .u, .u, .u, .u, .u, .u, .u, .u, .u, .u, .u, .u, .u], ofL [.row [.i .i64 h0_0, .i .i64 h0_0, .i .i64 h0_0, .s none 0] 0 0 true true none, .row [.s none 0, .s none 0, .i .i64 h0_0, .i .i64 h0_0] 0 0 true true none, .row [.i .i64 h2_0, .i .i64 h2_1, .i .i64 h2_2, .s (some (4, 0)) h4.length] 0 0 true true none, .row [.s (some (5, 0)) h5.length, .s (some (6, 0)) h6.length, .i .i64 h3_0, .i .i64 h3_1] 0 0 true true none, .row (h4.map (V.i .u64)) 2 1 true true none, .row (h5.map (V.i .i64)) 2 1 true true none, .row (h6.map (V.i .i64)) 2 1 true true none], 7, 0⟩) ∧
    (∀ (again_11 : Bool) (round_12 : Int) (i_13 : Int) (h0_0 : Int) (h2_0 : Int) (h2_1 : Int) (h2_2 : Int) (h3_0 : Int) (h3_1 : Int) (h4 : List Int) (h5 : List Int) (h6 : List Int) (r : Int × Int × Int × (List Int) × (List Int) × (List Int) × Int × Int × Int), bal_Of.l6 k again_11 round_12 i_13 h2_0 h2_1 h2_2 h3_0 h3_1 h4 h5 h6 = some r → wk_ E0 (bal_Of.Q a0_0 a0_1 a0_2 l0_3 r) (frs (bodyOf Try.f6) [1, 0, 1, 1, 1, 1, 1, 1, 1, 1, 1, 1, 0, 1, 0, 0, 1, 0, 0, 1, 1, 0] []) (sub (bodyOf Try.f6) [1, 0, 1, 1, 1, 1, 1, 1, 1, 1, 1, 1, 0, 1, 0, 0, 1, 0, 0, 1, 1, 0]) ⟨[.u, .u, .p (some (0, 0)), .p (some (1, 0)), .u, .u, .p (some (2, 0)), .p (some (3, 0)), .u, .u, .u, .b again_11, .i .i64 round_12, .i .i64 i_13, .u, .u, .u, .u, .u, .u, .u, .u, .u, .u, .u, .u, .u, .u, .u, .u, .u, .u, .u, .u, .u, .u, .u, .u, .u, .u, .u, .u, .u, .u, .u, .u, .u, .u, .u, .u, .u, .u, .u, .u, .u, .u, .u, .u, .u, .u, .u, .u, .u, .u, .u, .u, .u, .u, .u, .u, .u, .u, .u, .u, .u, .u, .u, .u, .u, .u, .u, .u, .u, .u, .u, .u, .u, .u, .u, .u, .u, .u, .u, .u, .u, .u, .u, .u, .u, .u, .u, .u, .u, .u, .u, .u, .u, .u, .u, .u, .u, .u, .u, .u, .u, .u, .u, .u, .u], ofL [.row [.i .i64 h0_0, .i .i64 h0_0, .i .i64 h0_0, .s none 0] 0 0 true true none, .row [.s none 0, .s none 0, .i .i64 h0_0, .i .i64 h0_0] 0 0 true true none, .row [.i .i64 h2_0, .i .i64 h2_1, .i .i64 h2_2, .s (some (4, 0)) h4.length] 0 0 true true none, .row [.s (some (5, 0)) h5.length, .s (some (6, 0)) h6.length, .i .i64 h3_0, .i .i64 h3_1] 0 0 true true none, .row (h4.map (V.i .u64)) 2 1 true true none, .row (h5.map (V.i .i64)) 2 1 true true none, .row (h6.map (V.i .i64)) 2 1 true true none], 7, 0⟩) := by
  induction k with
  | zero => exact ⟨fun _ _ _ _ _ _ r h => by simp [bal_Of.j0] at h, fun _ _ _ _ _ _ _ _ _ _ r h => by simp [bal_Of.l0] at h, fun _ _ _ _ _ _ _ _ _ r h => by simp [bal_Of.l1] at h, fun _ _ _ _ _ _ _ _ _ _ r h => by simp [bal_Of.l2] at h, fun _ _ _ _ _ _ _ _ _ r h => by simp [bal_Of.l3] at h, fun _ _ _ _ _ _ _ _ _ _ r h => by simp [bal_Of.l4] at h, fun _ _ _ _ _ _ _ _ _ _ _ r h => by simp [bal_Of.l5] at h, fun _ _ _ _ _ _ _ _ _ _ _ r h => by simp [bal_Of.j7] at h, fun _ _ _ _ _ _ _ _ _ _ _ _ r h => by simp [bal_Of.l6] at h⟩
  | succ k ih =>
    obtain ⟨ih0, ih1, ih2, ih3, ih4, ih5, ih6, ih7, ih8⟩ := ih
    refine ⟨?_, ?_, ?_, ?_, ?_, ?_, ?_, ?_, ?_⟩
    · intro t_23 h0_0 h0_1 h0_2 h0_3 h1_0 r H
      unfold bal_Of.j0 at H
      simp only [bodyOf, Try.f6, frs, sub, if_true, if_false, Nat.one_ne_zero]
      refine k_seq ?_
      rcases its H with ⟨c3, H⟩ | ⟨c3, H⟩
      · have c3b : t_23 = true := c3; try simp only [c3b, nrm]
        refine w_cond rfl (fun _ => ?_) (fun h => Bool.noConfusion h)
        refine w_seq ?_
        refine wR fun K hK => ?_
        refine g_bd rfl rfl zr26 Try.underlying26 (pl := [(0, 1), (1, 1), (2, 1), (3, 1)]) (by kernel_rfl) ?_; refine gB ?_
        refine g_bd rfl rfl zr29 Try.underlying29 (pl := [(0, 1), (1, 1), (2, 1), (3, 1)]) (by kernel_rfl) ?_; refine gB ?_
        refine g_st rfl rfl sz26 rfl rfl rfl (by rfl) (Nat.le_of_ble_eq_true rfl) (gU ?_)
        refine g_st rfl rfl sz29 rfl rfl rfl (by rfl) (Nat.le_of_ble_eq_true rfl) (gU ?_)
        refine g_as rfl rfl (gT ?_)
        refine g_nil (hK _ _ _ ?_)
        refine k_seq ?_
        refine w_less (.cell 1 3 2 1 rfl rfl) ?_; simp only [nrmx, nrm, List.set_cons_zero, List.set_cons_succ, Nat.reduceAdd]
        refine w_less (.cell 2 0 2 1 rfl rfl) ?_; simp only [nrmx, nrm, List.set_cons_zero, List.set_cons_succ, Nat.reduceAdd]
        refine w_less (.cell 2 1 2 1 rfl rfl) ?_; simp only [nrmx, nrm, List.set_cons_zero, List.set_cons_succ, Nat.reduceAdd]
        refine w_ret ?_
        refine fin_wp (τ := [23, 24, 25]) rfl (by decide) ?_; rw [← Option.some.inj H]; simp only [Try.f6, ag26, sz26, ag29, sz29, nrm, nrmw, nrmc, nrme, nrmo, nrml, nrmb, nrmx, Nat.reduceEqDiff, Nat.reduceBEq, Nat.zero_add, Nat.add_zero, Nat.mul_one, List.length_cons, List.length_nil, List.length_map, List.length_set, List.length_replicate, List.drop_zero, List.drop_succ_cons, List.drop_nil, List.take_zero, List.take_succ_cons, List.take_nil, Nat.le_refl, if_true, if_false, Option.any_none, Option.any_some, List.contains_nil, Bool.not_false, Bool.or_true, Bool.true_or, Bool.or_false, Bool.false_or, Bool.and_true, Bool.true_and, Bool.and_self, reduceCtorEq, beq_self_eq_true, List.map_cons, List.map_nil, List.append_nil, List.nil_append, List.contains_cons, List.filter_cons, List.filter_nil, List.cons_append, Bool.false_eq_true, true_and, and_true, List.getElem_toArray, List.getElem_cons_zero, List.getElem_cons_succ, Nat.reduceAdd, Nat.reduceMul, Nat.reduceLT, Nat.reduceSub, Nat.reduceLeDiff]; try (first | rfl | exact ⟨rfl, trivial⟩ | exact ⟨rfl, rfl⟩)
      · have c3b : t_23 = false := Bool.eq_false_iff.mpr c3; try simp only [c3b, nrm]
        refine w_cond rfl (fun h => Bool.noConfusion h) (fun _ => ?_)
        refine w_skip ?_
        refine k_seq ?_
        refine w_seq ?_
        refine w_seq ?_
        refine wR fun K hK => ?_
        refine g_lda rfl rfl ag26 sz26 rfl rfl (Nat.le_of_ble_eq_true rfl) (gT ?_)
        obtain ⟨q4, hq4, H⟩ := bnd H
        refine g_cs [] rfl rfl (by rfl) Try.func11 rfl (by decide) (mat_Matrix_Finite.does hq4) ⟨Nat.le_of_ble_eq_true rfl, Nat.le_of_ble_eq_true rfl⟩ ?_; refine gC ?_
        refine g_un rfl rfl rfl rfl (gT ?_)
        refine g_nil (hK _ _ _ ?_)
        refine k_seq ?_
        rcases its H with ⟨c5, H⟩ | ⟨c5, H⟩
        · have c5b : q4 = true := c5; try simp only [c5b, nrm]
          refine w_cond rfl (fun h => Bool.noConfusion h) (fun _ => ?_)
          refine w_skip ?_
          refine k_seq ?_
          refine w_seq ?_
          refine wR fun K hK => ?_
          refine g_fd rfl rfl fa26_0 rfl (gT ?_)
          refine g_ldc rfl rfl ag3 sz3 rfl rfl rfl (gT ?_)
          refine g_as rfl rfl (gT ?_)
          refine g_nil (hK _ _ _ ?_)
          refine k_seq ?_
          refine w_seq ?_
          refine wR fun K hK => ?_
          refine g_lda rfl rfl ag26 sz26 rfl rfl (Nat.le_of_ble_eq_true rfl) (gT ?_)
          obtain ⟨q6, hq6, H⟩ := bnd H
          refine g_cs [] rfl rfl (by rfl) Try.func15 rfl (by decide) (mat_Matrix_Clone.does hq6) ⟨Nat.le_of_ble_eq_true rfl, Nat.le_of_ble_eq_true rfl⟩ ?_; refine gC ?_
          refine g_alloc rfl rfl zr26 (gU ?_)
          refine g_st rfl rfl sz26 rfl rfl rfl (by rfl) (Nat.le_of_ble_eq_true rfl) (gU ?_)
          refine g_nil (hK _ _ _ ?_)
          refine k_seq ?_
          refine w_seq ?_
          refine wD fun K hK => ?_
          refine g_mv rfl rfl (gT ?_)
          obtain ⟨c7, H⟩ := it1 H
          obtain ⟨c8, H⟩ := it1 H
          refine g_mk rfl rfl Try.underlying27 sz3 by3 zr3 rfl rfl rfl (by first | assumption | omega) (by omega) (by unfold limit; omega) (by omega) (gU ?_)
          refine g_mv rfl rfl (gT ?_)
          refine g_mk rfl rfl Try.underlying27 sz3 by3 zr3 rfl rfl rfl (by first | assumption | omega) (by omega) (by unfold limit; omega) (by omega) (gU ?_)
          refine g_mv rfl rfl (gT ?_)
          refine g_bd rfl rfl zr29 Try.underlying29 (pl := [(0, 1), (1, 1), (2, 1), (3, 1)]) (by kernel_rfl) ?_; refine gB ?_
          refine g_alloc rfl rfl zr29 (gU ?_)
          refine g_st rfl rfl sz29 rfl rfl rfl (by rfl) (Nat.le_of_ble_eq_true rfl) (gU ?_)
          refine g_nil (hK _ _ _ (by kernel_rfl) ?_)
          refine k_seq ?_
          refine w_seq ?_
          refine w_seq ?_
          refine wR fun K hK => ?_
          refine g_mv rfl rfl (gT ?_)
          refine g_mv rfl rfl (gT ?_)
          refine g_nil (hK _ _ _ ?_)
          refine k_seq ?_
          refine w_block ?_
          refine w_wk (σ := [1, 2, 35, 67, 31, 47, 55]) [2, 0, 2, 0, 33, 0] rfl (by decide) ?_; refine gC ?_
          exact gI (ih1 h0_0 0 h1_0 q6.1 q6.2.1 q6.2.2.1 0 q6.2.2.2 (List.replicate h0_0.toNat 0) (List.replicate h0_0.toNat 0) r H)
        · have c5b : q4 = false := Bool.eq_false_iff.mpr c5; try simp only [c5b, nrm]
          refine w_cond rfl (fun _ => ?_) (fun h => Bool.noConfusion h)
          refine w_seq ?_
          refine wR fun K hK => ?_
          refine g_bd rfl rfl zr26 Try.underlying26 (pl := [(0, 1), (1, 1), (2, 1), (3, 1)]) (by kernel_rfl) ?_; refine gB ?_
          refine g_bd rfl rfl zr29 Try.underlying29 (pl := [(0, 1), (1, 1), (2, 1), (3, 1)]) (by kernel_rfl) ?_; refine gB ?_
          refine g_st rfl rfl sz26 rfl rfl rfl (by rfl) (Nat.le_of_ble_eq_true rfl) (gU ?_)
          refine g_st rfl rfl sz29 rfl rfl rfl (by rfl) (Nat.le_of_ble_eq_true rfl) (gU ?_)
          refine g_as rfl rfl (gT ?_)
          refine g_nil (hK _ _ _ ?_)
          refine k_seq ?_
          refine w_less (.cell 1 3 2 1 rfl rfl) ?_; simp only [nrmx, nrm, List.set_cons_zero, List.set_cons_succ, Nat.reduceAdd]
          refine w_less (.cell 2 0 2 1 rfl rfl) ?_; simp only [nrmx, nrm, List.set_cons_zero, List.set_cons_succ, Nat.reduceAdd]
          refine w_less (.cell 2 1 2 1 rfl rfl) ?_; simp only [nrmx, nrm, List.set_cons_zero, List.set_cons_succ, Nat.reduceAdd]
          refine w_ret ?_
          refine fin_wp (τ := [35, 36, 37]) rfl (by decide) ?_; rw [← Option.some.inj H]; simp only [Try.f6, ag26, sz26, ag29, sz29, nrm, nrmw, nrmc, nrme, nrmo, nrml, nrmb, nrmx, Nat.reduceEqDiff, Nat.reduceBEq, Nat.zero_add, Nat.add_zero, Nat.mul_one, List.length_cons, List.length_nil, List.length_map, List.length_set, List.length_replicate, List.drop_zero, List.drop_succ_cons, List.drop_nil, List.take_zero, List.take_succ_cons, List.take_nil, Nat.le_refl, if_true, if_false, Option.any_none, Option.any_some, List.contains_nil, Bool.not_false, Bool.or_true, Bool.true_or, Bool.or_false, Bool.false_or, Bool.and_true, Bool.true_and, Bool.and_self, reduceCtorEq, beq_self_eq_true, List.map_cons, List.map_nil, List.append_nil, List.nil_append, List.contains_cons, List.filter_cons, List.filter_nil, List.cons_append, Bool.false_eq_true, true_and, and_true, List.getElem_toArray, List.getElem_cons_zero, List.getElem_cons_succ, Nat.reduceAdd, Nat.reduceMul, Nat.reduceLT, Nat.reduceSub, Nat.reduceLeDiff]; try (first | rfl | exact ⟨rfl, trivial⟩ | exact ⟨rfl, rfl⟩)
    · intro t_41 t_42 h0_0 h2_0 h2_1 h2_2 h3_0 h4 h5 h6 r H
      unfold bal_Of.l0 at H
      simp only [bodyOf, Try.f6, frs, sub, if_true, if_false, Nat.one_ne_zero]
      refine w_loop ?_
      refine w_seq ?_
      refine wR fun K hK => ?_
      refine g_bin rfl rfl rfl rfl rfl (gT ?_)
      refine g_nil (hK _ _ _ ?_)
      refine k_seq ?_
      refine w_seq ?_
      rcases its H with ⟨c9, H⟩ | ⟨c9, H⟩
      · have c9b := decide_eq_true c9; try simp only [c9b, nrm]
        refine w_cond rfl (fun _ => ?_) (fun h => Bool.noConfusion h)
        refine w_skip ?_
        refine k_seq ?_
        refine w_seq ?_
        refine w_block ?_
        refine w_seq ?_
        refine wR fun K hK => ?_
        refine g_mv rfl rfl (gT ?_)
        refine g_as rfl rfl (gT ?_)
        refine g_nil (hK _ _ _ ?_)
        refine k_seq ?_
        refine wR fun K hK => ?_
        refine g_fd rfl rfl fa29_0 rfl (gT ?_)
        refine g_ldc rfl rfl ag27 sz27 rfl rfl rfl (gT ?_)
        refine g_mv rfl rfl (gT ?_)
        refine g_mv rfl rfl (gT ?_)
        obtain ⟨c10, H⟩ := it1 H
        obtain ⟨c11, H⟩ := it1 H
        refine g_ixo rfl rfl Try.underlying27 sz3 rfl rfl (by first | assumption | omega) (by first | assumption | omega | (simp only [List.length_set, List.length_replicate] at *; omega)) (gT ?_)
        refine g_st rfl rfl sz3 rfl rfl rfl (by rfl) (by simp only [List.length_map, List.length_set, List.length_replicate]; first | assumption | omega) (gU ?_)
        refine g_nil (hK _ _ _ ?_)
        refine k_block ?_
        refine k_seq ?_
        refine wR fun K hK => ?_
        refine g_bin rfl rfl rfl rfl rfl (gT ?_)
        refine g_mv rfl rfl (gT ?_)
        refine g_nil (hK _ _ _ ?_)
        refine k_loop ?_
        refine w_wk (σ := [0, 1, 2, 3, 4, 5, 6]) [2, 0, 2, 0, 33, 0] rfl (by decide) ?_; refine gC ?_
        exact gI (ih1 t_41 (wrap64 (t_42 + 1)) h0_0 h2_0 h2_1 h2_2 h3_0 h4 (h5.set t_42.toNat t_42) h6 r H)
      · have c9b := decide_eq_false c9; try simp only [c9b, nrm]
        refine w_cond rfl (fun h => Bool.noConfusion h) (fun _ => ?_)
        refine w_exit rfl ?_
        refine k_seq ?_
        refine w_seq ?_
        refine w_label ?_
        refine k_seq ?_
        refine w_seq ?_
        refine w_block ?_
        refine w_wk (σ := [0, 1, 2, 3, 4, 5, 6]) [2, 0, 2, 0] rfl (by decide) ?_; refine gC ?_
        exact gI (ih2 h0_0 h2_0 h2_1 h2_2 h3_0 t_41 h4 h5 h6 r H)
    · intro h0_0 h2_0 h2_1 h2_2 h3_0 h3_1 h4 h5 h6 r H
      unfold bal_Of.l1 at H
      simp only [bodyOf, Try.f6, frs, sub, if_true, if_false, Nat.one_ne_zero]
      refine w_loop ?_
      refine w_block ?_
      refine w_seq ?_
      refine w_seq ?_
      refine wR fun K hK => ?_
      refine g_fd rfl rfl fa29_3 rfl (gT ?_)
      refine g_ldc rfl rfl ag3 sz3 rfl rfl rfl (gT ?_)
      refine g_bin rfl rfl rfl rfl rfl (gT ?_)
      refine g_as rfl rfl (gT ?_)
      refine g_nil (hK _ _ _ ?_)
      refine k_seq ?_
      refine w_block ?_
      refine w_wk (σ := [0, 1, 2, 3, 4, 5, 6]) [2, 0, 2, 0, 1] rfl (by decide) ?_; refine gC ?_
      exact gI (ih3 (wrap64 (h3_1 - 1)) h0_0 h2_0 h2_1 h2_2 h3_0 h3_1 h4 h5 h6 r H)
    · intro i_9 h0_0 h2_0 h2_1 h2_2 h3_0 h3_1 h4 h5 h6 r H
      unfold bal_Of.l2 at H
      simp only [bodyOf, Try.f6, frs, sub, if_true, if_false, Nat.one_ne_zero]
      refine w_loop ?_
      refine w_seq ?_
      refine w_seq ?_
      refine wR fun K hK => ?_
      refine g_mv rfl rfl (gT ?_)
      refine g_bin rfl rfl rfl rfl rfl (gT ?_)
      refine g_nil (hK _ _ _ ?_)
      refine k_seq ?_
      rcases its H with ⟨c12, H⟩ | ⟨c12, H⟩
      · have c12b := decide_eq_true c12; try simp only [c12b, nrm]
        refine w_cond rfl (fun _ => ?_) (fun h => Bool.noConfusion h)
        refine w_skip ?_
        refine k_seq ?_
        refine w_seq ?_
        refine w_block ?_
        refine w_seq ?_
        refine wR fun K hK => ?_
        refine g_lda rfl rfl ag26 sz26 rfl rfl (Nat.le_of_ble_eq_true rfl) (gT ?_)
        refine g_mv rfl rfl (gT ?_)
        refine g_fd rfl rfl fa29_3 rfl (gT ?_)
        refine g_ldc rfl rfl ag3 sz3 rfl rfl rfl (gT ?_)
        obtain ⟨q13, hq13, H⟩ := bnd H
        refine g_cs [] rfl rfl (by rfl) Try.func16 rfl (by decide) (bal_lone.does hq13) ⟨Nat.le_of_ble_eq_true rfl, Nat.le_of_ble_eq_true rfl⟩ ?_; refine gC ?_
        refine g_nil (hK _ _ _ ?_)
        refine k_seq ?_
        rcases its H with ⟨c14, H⟩ | ⟨c14, H⟩
        · have c14b : q13 = true := c14; try simp only [c14b, nrm]
          refine w_cond rfl (fun _ => ?_) (fun h => Bool.noConfusion h)
          refine w_seq ?_
          refine wR fun K hK => ?_
          refine g_fd rfl rfl fa29_3 rfl (gT ?_)
          refine g_ldc rfl rfl ag3 sz3 rfl rfl rfl (gT ?_)
          refine g_bin rfl rfl rfl rfl rfl (gT ?_)
          refine g_fd rfl rfl fa29_3 rfl (gT ?_)
          refine g_st rfl rfl sz3 rfl rfl rfl (by rfl) (Nat.le_of_ble_eq_true rfl) (gU ?_)
          refine g_nil (hK _ _ _ ?_)
          refine k_seq ?_
          refine w_seq ?_
          refine wR fun K hK => ?_
          refine g_lda rfl rfl ag26 sz26 rfl rfl (Nat.le_of_ble_eq_true rfl) (gT ?_)
          refine g_mv rfl rfl (gT ?_)
          refine g_fd rfl rfl fa29_3 rfl (gT ?_)
          refine g_ldc rfl rfl ag3 sz3 rfl rfl rfl (gT ?_)
          obtain ⟨q15, hq15, H⟩ := bnd H
          obtain ⟨zq15_0, zq15_1, zq15_2⟩ := bal_swap.len hq15
          (try simp only [List.length_set, List.length_replicate, List.length_append, List.length_cons, List.length_nil, Nat.zero_add] at zq15_0 zq15_1 zq15_2)
          refine g_cs [4, 3, 5, 6] rfl rfl (by rfl) Try.func17 rfl (by decide) (bal_swap.does hq15) ⟨Nat.le_of_ble_eq_true rfl, Nat.le_of_ble_eq_true rfl⟩ ?_; simp only [nrm, nrmw, nrmc, nrme, nrmo, nrml, nrmb, nrmx, Nat.reduceEqDiff, Nat.reduceBEq, Nat.zero_add, Nat.add_zero, Nat.mul_one, List.length_cons, List.length_nil, List.length_map, List.length_set, List.length_replicate, List.drop_zero, List.drop_succ_cons, List.drop_nil, List.take_zero, List.take_succ_cons, List.take_nil, Nat.le_refl, if_true, if_false, Option.any_none, Option.any_some, List.contains_nil, Bool.not_false, Bool.or_true, Bool.true_or, Bool.or_false, Bool.false_or, Bool.and_true, Bool.true_and, Bool.and_self, reduceCtorEq, beq_self_eq_true, List.map_cons, List.map_nil, List.append_nil, List.nil_append, List.contains_cons, List.filter_cons, List.filter_nil, List.cons_append, Bool.false_eq_true, true_and, and_true, List.getElem_toArray, List.getElem_cons_zero, List.getElem_cons_succ, Nat.reduceAdd, Nat.reduceMul, Nat.reduceLT, Nat.reduceSub, Nat.reduceLeDiff, ← zq15_0, ← zq15_1, ← zq15_2]
          refine g_nil (hK _ _ _ ?_)
          refine k_seq ?_
          refine w_exit rfl ?_
          refine k_loop ?_
          refine w_wk (σ := [0, 1, 2, 3, 4, 5, 6]) [2, 0, 2, 0] rfl (by decide) ?_; refine gC ?_
          exact gI (ih2 h0_0 h2_0 h2_1 h2_2 q15.2.1 q15.2.2.1 q15.1 q15.2.2.2.1 q15.2.2.2.2 r H)
        · have c14b : q13 = false := Bool.eq_false_iff.mpr c14; try simp only [c14b, nrm]
          refine w_cond rfl (fun h => Bool.noConfusion h) (fun _ => ?_)
          refine w_skip ?_
          refine k_block ?_
          refine k_seq ?_
          refine wR fun K hK => ?_
          refine g_mv rfl rfl (gT ?_)
          refine g_bin rfl rfl rfl rfl rfl (gT ?_)
          refine g_as rfl rfl (gT ?_)
          refine g_nil (hK _ _ _ ?_)
          refine k_loop ?_
          refine w_wk (σ := [0, 1, 2, 3, 4, 5, 6]) [2, 0, 2, 0, 1] rfl (by decide) ?_; refine gC ?_
          exact gI (ih3 (wrap64 (i_9 - 1)) h0_0 h2_0 h2_1 h2_2 h3_0 h3_1 h4 h5 h6 r H)
      · have c12b := decide_eq_false c12; try simp only [c12b, nrm]
        refine w_cond rfl (fun h => Bool.noConfusion h) (fun _ => ?_)
        refine w_exit rfl ?_
        refine k_seq ?_
        refine w_exit rfl ?_
        refine k_seq ?_
        refine w_seq ?_
        refine w_label ?_
        refine k_seq ?_
        refine w_seq ?_
        refine w_block ?_
        refine w_wk (σ := [0, 1, 2, 3, 4, 5, 6]) [2, 0, 2, 0] rfl (by decide) ?_; refine gC ?_
        exact gI (ih4 h0_0 h2_0 h2_1 h2_2 h3_0 h3_1 h4 h5 h6 r H)
    · intro h0_0 h2_0 h2_1 h2_2 h3_0 h3_1 h4 h5 h6 r H
      unfold bal_Of.l3 at H
      simp only [bodyOf, Try.f6, frs, sub, if_true, if_false, Nat.one_ne_zero]
      refine w_loop ?_
      refine w_block ?_
      refine w_seq ?_
      refine w_seq ?_
      refine wR fun K hK => ?_
      refine g_fd rfl rfl fa29_2 rfl (gT ?_)
      refine g_ldc rfl rfl ag3 sz3 rfl rfl rfl (gT ?_)
      refine g_as rfl rfl (gT ?_)
      refine g_nil (hK _ _ _ ?_)
      refine k_seq ?_
      refine w_block ?_
      refine w_wk (σ := [0, 1, 2, 3, 4, 5, 6]) [2, 0, 2, 0, 2] rfl (by decide) ?_; refine gC ?_
      exact gI (ih5 h3_0 h0_0 h2_0 h2_1 h2_2 h3_0 h3_1 h4 h5 h6 r H)
    · intro i_10 h0_0 h2_0 h2_1 h2_2 h3_0 h3_1 h4 h5 h6 r H
      unfold bal_Of.l4 at H
      simp only [bodyOf, Try.f6, frs, sub, if_true, if_false, Nat.one_ne_zero]
      refine w_loop ?_
      refine w_seq ?_
      refine w_seq ?_
      refine wR fun K hK => ?_
      refine g_mv rfl rfl (gT ?_)
      refine g_fd rfl rfl fa29_3 rfl (gT ?_)
      refine g_ldc rfl rfl ag3 sz3 rfl rfl rfl (gT ?_)
      refine g_bin rfl rfl rfl rfl rfl (gT ?_)
      refine g_nil (hK _ _ _ ?_)
      refine k_seq ?_
      rcases its H with ⟨c16, H⟩ | ⟨c16, H⟩
      · have c16b := decide_eq_true c16; try simp only [c16b, nrm]
        refine w_cond rfl (fun _ => ?_) (fun h => Bool.noConfusion h)
        refine w_skip ?_
        refine k_seq ?_
        refine w_seq ?_
        refine w_block ?_
        refine w_seq ?_
        refine wR fun K hK => ?_
        refine g_lda rfl rfl ag26 sz26 rfl rfl (Nat.le_of_ble_eq_true rfl) (gT ?_)
        refine g_mv rfl rfl (gT ?_)
        refine g_fd rfl rfl fa29_2 rfl (gT ?_)
        refine g_ldc rfl rfl ag3 sz3 rfl rfl rfl (gT ?_)
        refine g_fd rfl rfl fa29_3 rfl (gT ?_)
        refine g_ldc rfl rfl ag3 sz3 rfl rfl rfl (gT ?_)
        obtain ⟨q17, hq17, H⟩ := bnd H
        refine g_cs [] rfl rfl (by rfl) Try.func16 rfl (by decide) (bal_lone.does hq17) ⟨Nat.le_of_ble_eq_true rfl, Nat.le_of_ble_eq_true rfl⟩ ?_; refine gC ?_
        refine g_nil (hK _ _ _ ?_)
        refine k_seq ?_
        rcases its H with ⟨c18, H⟩ | ⟨c18, H⟩
        · have c18b : q17 = true := c18; try simp only [c18b, nrm]
          refine w_cond rfl (fun _ => ?_) (fun h => Bool.noConfusion h)
          refine w_seq ?_
          refine wR fun K hK => ?_
          refine g_lda rfl rfl ag26 sz26 rfl rfl (Nat.le_of_ble_eq_true rfl) (gT ?_)
          refine g_mv rfl rfl (gT ?_)
          refine g_fd rfl rfl fa29_2 rfl (gT ?_)
          refine g_ldc rfl rfl ag3 sz3 rfl rfl rfl (gT ?_)
          obtain ⟨q19, hq19, H⟩ := bnd H
          obtain ⟨zq19_0, zq19_1, zq19_2⟩ := bal_swap.len hq19
          (try simp only [List.length_set, List.length_replicate, List.length_append, List.length_cons, List.length_nil, Nat.zero_add] at zq19_0 zq19_1 zq19_2)
          refine g_cs [4, 3, 5, 6] rfl rfl (by rfl) Try.func17 rfl (by decide) (bal_swap.does hq19) ⟨Nat.le_of_ble_eq_true rfl, Nat.le_of_ble_eq_true rfl⟩ ?_; simp only [nrm, nrmw, nrmc, nrme, nrmo, nrml, nrmb, nrmx, Nat.reduceEqDiff, Nat.reduceBEq, Nat.zero_add, Nat.add_zero, Nat.mul_one, List.length_cons, List.length_nil, List.length_map, List.length_set, List.length_replicate, List.drop_zero, List.drop_succ_cons, List.drop_nil, List.take_zero, List.take_succ_cons, List.take_nil, Nat.le_refl, if_true, if_false, Option.any_none, Option.any_some, List.contains_nil, Bool.not_false, Bool.or_true, Bool.true_or, Bool.or_false, Bool.false_or, Bool.and_true, Bool.true_and, Bool.and_self, reduceCtorEq, beq_self_eq_true, List.map_cons, List.map_nil, List.append_nil, List.nil_append, List.contains_cons, List.filter_cons, List.filter_nil, List.cons_append, Bool.false_eq_true, true_and, and_true, List.getElem_toArray, List.getElem_cons_zero, List.getElem_cons_succ, Nat.reduceAdd, Nat.reduceMul, Nat.reduceLT, Nat.reduceSub, Nat.reduceLeDiff, ← zq19_0, ← zq19_1, ← zq19_2]
          refine g_nil (hK _ _ _ ?_)
          refine k_seq ?_
          refine w_seq ?_
          refine wR fun K hK => ?_
          refine g_fd rfl rfl fa29_2 rfl (gT ?_)
          refine g_ldc rfl rfl ag3 sz3 rfl rfl rfl (gT ?_)
          refine g_bin rfl rfl rfl rfl rfl (gT ?_)
          refine g_fd rfl rfl fa29_2 rfl (gT ?_)
          refine g_st rfl rfl sz3 rfl rfl rfl (by rfl) (Nat.le_of_ble_eq_true rfl) (gU ?_)
          refine g_nil (hK _ _ _ ?_)
          refine k_seq ?_
          refine w_exit rfl ?_
          refine k_loop ?_
          refine w_wk (σ := [0, 1, 2, 3, 4, 5, 6]) [2, 0, 2, 0] rfl (by decide) ?_; refine gC ?_
          exact gI (ih4 h0_0 h2_0 h2_1 h2_2 (wrap64 (q19.2.1 + 1)) q19.2.2.1 q19.1 q19.2.2.2.1 q19.2.2.2.2 r H)
        · have c18b : q17 = false := Bool.eq_false_iff.mpr c18; try simp only [c18b, nrm]
          refine w_cond rfl (fun h => Bool.noConfusion h) (fun _ => ?_)
          refine w_skip ?_
          refine k_block ?_
          refine k_seq ?_
          refine wR fun K hK => ?_
          refine g_mv rfl rfl (gT ?_)
          refine g_bin rfl rfl rfl rfl rfl (gT ?_)
          refine g_as rfl rfl (gT ?_)
          refine g_nil (hK _ _ _ ?_)
          refine k_loop ?_
          refine w_wk (σ := [0, 1, 2, 3, 4, 5, 6]) [2, 0, 2, 0, 2] rfl (by decide) ?_; refine gC ?_
          exact gI (ih5 (wrap64 (i_10 + 1)) h0_0 h2_0 h2_1 h2_2 h3_0 h3_1 h4 h5 h6 r H)
      · have c16b := decide_eq_false c16; try simp only [c16b, nrm]
        refine w_cond rfl (fun h => Bool.noConfusion h) (fun _ => ?_)
        refine w_exit rfl ?_
        refine k_seq ?_
        refine w_exit rfl ?_
        refine k_seq ?_
        refine w_seq ?_
        refine w_seq ?_
        refine wR fun K hK => ?_
        refine g_as rfl rfl (gT ?_)
        refine g_as rfl rfl (gT ?_)
        refine g_nil (hK _ _ _ ?_)
        refine k_seq ?_
        refine w_block ?_
        refine w_wk (σ := [0, 1, 2, 3, 4, 5, 6]) [2, 0, 2, 0, 3, 0] rfl (by decide) ?_; refine gC ?_
        exact gI (ih6 true 0 h0_0 h2_0 h2_1 h2_2 h3_0 h3_1 h4 h5 h6 r H)
    · intro again_11 round_12 h0_0 h2_0 h2_1 h2_2 h3_0 h3_1 h4 h5 h6 r H
      unfold bal_Of.l5 at H
      simp only [bodyOf, Try.f6, frs, sub, if_true, if_false, Nat.one_ne_zero]
      refine w_loop ?_
      refine w_seq ?_
      refine w_seq ?_
      refine wR fun K hK => ?_
      refine g_mv rfl rfl (gT ?_)
      refine g_mv rfl rfl (gT ?_)
      rcases its H with ⟨c20, H⟩ | ⟨c20, H⟩
      · have c20b : again_11 = true := c20; try simp only [c20b, nrm]
        refine g_mv rfl rfl (gT ?_)
        refine g_bin rfl rfl rfl rfl rfl (gT ?_)
        refine g_pick rfl rfl rfl (gT ?_)
        refine g_nil (hK _ _ _ ?_)
        refine k_wk (σ := [0, 1, 2, 3, 4, 5, 6]) [2, 0, 2, 0, 4, 87] rfl (by decide) rfl ?_; refine gC ?_
        exact gI (ih7 round_12 (decide (round_12 < 20)) h0_0 h2_0 h2_1 h2_2 h3_0 h3_1 h4 h5 h6 r H)
      · have c20b : again_11 = false := Bool.eq_false_iff.mpr c20; try simp only [c20b, nrm]
        refine g_sk rfl rfl (gT ?_)
        refine g_sk rfl rfl (gT ?_)
        refine g_pick rfl rfl rfl (gT ?_)
        refine g_nil (hK _ _ _ ?_)
        refine k_wk (σ := [0, 1, 2, 3, 4, 5, 6]) [2, 0, 2, 0, 4, 87] rfl (by decide) rfl ?_; refine gC ?_
        exact gI (ih7 round_12 false h0_0 h2_0 h2_1 h2_2 h3_0 h3_1 h4 h5 h6 r H)
    · intro round_12 t_100 h0_0 h2_0 h2_1 h2_2 h3_0 h3_1 h4 h5 h6 r H
      unfold bal_Of.j7 at H
      simp only [bodyOf, Try.f6, frs, sub, if_true, if_false, Nat.one_ne_zero]
      refine k_seq ?_
      rcases its H with ⟨c21, H⟩ | ⟨c21, H⟩
      · have c21b : t_100 = true := c21; try simp only [c21b, nrm]
        refine w_cond rfl (fun _ => ?_) (fun h => Bool.noConfusion h)
        refine w_skip ?_
        refine k_seq ?_
        refine w_seq ?_
        refine w_block ?_
        refine w_seq ?_
        refine wR fun K hK => ?_
        refine g_as rfl rfl (gT ?_)
        refine g_nil (hK _ _ _ ?_)
        refine k_seq ?_
        refine w_seq ?_
        refine wR fun K hK => ?_
        refine g_fd rfl rfl fa29_2 rfl (gT ?_)
        refine g_ldc rfl rfl ag3 sz3 rfl rfl rfl (gT ?_)
        refine g_as rfl rfl (gT ?_)
        refine g_nil (hK _ _ _ ?_)
        refine k_seq ?_
        refine w_block ?_
        refine w_wk (σ := [0, 1, 2, 3, 4, 5, 6]) [2, 0, 2, 0, 3, 0, 0] rfl (by decide) ?_; refine gC ?_
        exact gI (ih8 false round_12 h3_0 h0_0 h2_0 h2_1 h2_2 h3_0 h3_1 h4 h5 h6 r H)
      · have c21b : t_100 = false := Bool.eq_false_iff.mpr c21; try simp only [c21b, nrm]
        refine w_cond rfl (fun h => Bool.noConfusion h) (fun _ => ?_)
        refine w_exit rfl ?_
        refine k_seq ?_
        refine w_seq ?_
        refine wD fun K hK => ?_
        refine g_lda rfl rfl ag26 sz26 rfl rfl (Nat.le_of_ble_eq_true rfl) (gT ?_)
        refine g_lda rfl rfl ag29 sz29 rfl rfl (Nat.le_of_ble_eq_true rfl) (gT ?_)
        refine g_st rfl rfl sz26 rfl rfl rfl (by rfl) (Nat.le_of_ble_eq_true rfl) (gU ?_)
        refine g_st rfl rfl sz29 rfl rfl rfl (by rfl) (Nat.le_of_ble_eq_true rfl) (gU ?_)
        refine g_as rfl rfl (gT ?_)
        refine g_nil (hK _ _ _ (by kernel_rfl) ?_)
        refine k_seq ?_
        refine w_ret ?_
        refine fin_wp (τ := [4, 5, 6]) rfl (by decide) ?_; rw [← Option.some.inj H]; simp only [Try.f6, ag26, sz26, ag29, sz29, nrm, nrmw, nrmc, nrme, nrmo, nrml, nrmb, nrmx, Nat.reduceEqDiff, Nat.reduceBEq, Nat.zero_add, Nat.add_zero, Nat.mul_one, List.length_cons, List.length_nil, List.length_map, List.length_set, List.length_replicate, List.drop_zero, List.drop_succ_cons, List.drop_nil, List.take_zero, List.take_succ_cons, List.take_nil, Nat.le_refl, if_true, if_false, Option.any_none, Option.any_some, List.contains_nil, Bool.not_false, Bool.or_true, Bool.true_or, Bool.or_false, Bool.false_or, Bool.and_true, Bool.true_and, Bool.and_self, reduceCtorEq, beq_self_eq_true, List.map_cons, List.map_nil, List.append_nil, List.nil_append, List.contains_cons, List.filter_cons, List.filter_nil, List.cons_append, Bool.false_eq_true, true_and, and_true, List.getElem_toArray, List.getElem_cons_zero, List.getElem_cons_succ, Nat.reduceAdd, Nat.reduceMul, Nat.reduceLT, Nat.reduceSub, Nat.reduceLeDiff]; try (first | rfl | exact ⟨rfl, trivial⟩ | exact ⟨rfl, rfl⟩)
    · intro again_11 round_12 i_13 h0_0 h2_0 h2_1 h2_2 h3_0 h3_1 h4 h5 h6 r H
      unfold bal_Of.l6 at H
      simp only [bodyOf, Try.f6, frs, sub, if_true, if_false, Nat.one_ne_zero]
      refine w_loop ?_
      refine w_seq ?_
      refine w_seq ?_
      refine wR fun K hK => ?_
      refine g_mv rfl rfl (gT ?_)
      refine g_fd rfl rfl fa29_3 rfl (gT ?_)
      refine g_ldc rfl rfl ag3 sz3 rfl rfl rfl (gT ?_)
      refine g_bin rfl rfl rfl rfl rfl (gT ?_)
      refine g_nil (hK _ _ _ ?_)
      refine k_seq ?_
      rcases its H with ⟨c22, H⟩ | ⟨c22, H⟩
      · have c22b := decide_eq_true c22; try simp only [c22b, nrm]
        refine w_cond rfl (fun _ => ?_) (fun h => Bool.noConfusion h)
        refine w_skip ?_
        refine k_seq ?_
        refine w_seq ?_
        refine w_block ?_
        refine wR fun K hK => ?_
        refine g_lda rfl rfl ag26 sz26 rfl rfl (Nat.le_of_ble_eq_true rfl) (gT ?_)
        refine g_mv rfl rfl (gT ?_)
        obtain ⟨q23, hq23, H⟩ := bnd H
        obtain ⟨zq23_0, zq23_1, zq23_2⟩ := bal_Balance_level.len hq23
        (try simp only [List.length_set, List.length_replicate, List.length_append, List.length_cons, List.length_nil, Nat.zero_add] at zq23_0 zq23_1 zq23_2)
        refine g_cs [3, 4, 5, 6] rfl rfl (by rfl) Try.func18 rfl (by decide) (bal_Balance_level.does hq23) ⟨Nat.le_of_ble_eq_true rfl, Nat.le_of_ble_eq_true rfl⟩ ?_; simp only [nrm, nrmw, nrmc, nrme, nrmo, nrml, nrmb, nrmx, Nat.reduceEqDiff, Nat.reduceBEq, Nat.zero_add, Nat.add_zero, Nat.mul_one, List.length_cons, List.length_nil, List.length_map, List.length_set, List.length_replicate, List.drop_zero, List.drop_succ_cons, List.drop_nil, List.take_zero, List.take_succ_cons, List.take_nil, Nat.le_refl, if_true, if_false, Option.any_none, Option.any_some, List.contains_nil, Bool.not_false, Bool.or_true, Bool.true_or, Bool.or_false, Bool.false_or, Bool.and_true, Bool.true_and, Bool.and_self, reduceCtorEq, beq_self_eq_true, List.map_cons, List.map_nil, List.append_nil, List.nil_append, List.contains_cons, List.filter_cons, List.filter_nil, List.cons_append, Bool.false_eq_true, true_and, and_true, List.getElem_toArray, List.getElem_cons_zero, List.getElem_cons_succ, Nat.reduceAdd, Nat.reduceMul, Nat.reduceLT, Nat.reduceSub, Nat.reduceLeDiff, ← zq23_0, ← zq23_1, ← zq23_2]
        refine g_mv rfl rfl (gT ?_)
        rcases its H with ⟨c24, H⟩ | ⟨c24, H⟩
        · have c24b : q23.1 = true := c24; try simp only [c24b, nrm]
          refine g_sk rfl rfl (gT ?_)
          refine g_pick rfl rfl rfl (gT ?_)
          refine g_as rfl rfl (gT ?_)
          refine g_nil (hK _ _ _ ?_)
          refine k_block ?_
          refine k_seq ?_
          refine wR fun K hK => ?_
          refine g_mv rfl rfl (gT ?_)
          refine g_bin rfl rfl rfl rfl rfl (gT ?_)
          refine g_as rfl rfl (gT ?_)
          refine g_nil (hK _ _ _ ?_)
          refine k_loop ?_
          refine w_wk (σ := [0, 1, 2, 3, 4, 5, 6]) [2, 0, 2, 0, 3, 0, 0] rfl (by decide) ?_; refine gC ?_
          exact gI (ih8 true round_12 (wrap64 (i_13 + 1)) h0_0 h2_0 h2_1 h2_2 q23.2.1 q23.2.2.1 q23.2.2.2.1 q23.2.2.2.2.1 q23.2.2.2.2.2 r H)
        · have c24b : q23.1 = false := Bool.eq_false_iff.mpr c24; try simp only [c24b, nrm]
          refine g_mv rfl rfl (gT ?_)
          refine g_pick rfl rfl rfl (gT ?_)
          refine g_as rfl rfl (gT ?_)
          refine g_nil (hK _ _ _ ?_)
          refine k_block ?_
          refine k_seq ?_
          refine wR fun K hK => ?_
          refine g_mv rfl rfl (gT ?_)
          refine g_bin rfl rfl rfl rfl rfl (gT ?_)
          refine g_as rfl rfl (gT ?_)
          refine g_nil (hK _ _ _ ?_)
          refine k_loop ?_
          refine w_wk (σ := [0, 1, 2, 3, 4, 5, 6]) [2, 0, 2, 0, 3, 0, 0] rfl (by decide) ?_; refine gC ?_
          exact gI (ih8 again_11 round_12 (wrap64 (i_13 + 1)) h0_0 h2_0 h2_1 h2_2 q23.2.1 q23.2.2.1 q23.2.2.2.1 q23.2.2.2.2.1 q23.2.2.2.2.2 r H)
      · have c22b := decide_eq_false c22; try simp only [c22b, nrm]
        refine w_cond rfl (fun h => Bool.noConfusion h) (fun _ => ?_)
        refine w_exit rfl ?_
        refine k_block ?_
        refine k_seq ?_
        refine wR fun K hK => ?_
        refine g_mv rfl rfl (gT ?_)
        refine g_bin rfl rfl rfl rfl rfl (gT ?_)
        refine g_as rfl rfl (gT ?_)
        refine g_nil (hK _ _ _ ?_)
        refine k_loop ?_
        refine w_wk (σ := [0, 1, 2, 3, 4, 5, 6]) [2, 0, 2, 0, 3, 0] rfl (by decide) ?_; refine gC ?_
        exact gI (ih6 again_11 (wrap64 (round_12 + 1)) h0_0 h2_0 h2_1 h2_2 h3_0 h3_1 h4 h5 h6 r H)
set_option maxHeartbeats 8000000 in
set_option maxRecDepth 100000 in
theorem bal_Of.does {k : Nat} {a0_0 : Int} {a0_1 : Int} {a0_2 : Int} {l0_3 : List Int} {r : Int × Int × Int × (List Int) × (List Int) × (List Int) × Int × Int × Int} (H : bal_Of.f k a0_0 a0_1 a0_2 l0_3 = some r) : Do E0 (.fn 6 [.a [.i .i64 a0_0, .i .i64 a0_1, .i .i64 a0_2, .r (l0_3.map (V.i .u64)) l0_3.length true]] [] (.t [.a [.i .i64 r.1, .i .i64 r.2.1, .i .i64 r.2.2.1, .s (some (0, 0)) r.2.2.2.1.length], .a [.s (some (1, 0)) r.2.2.2.2.1.length, .s (some (2, 0)) r.2.2.2.2.2.1.length, .i .i64 r.2.2.2.2.2.2.1, .i .i64 r.2.2.2.2.2.2.2.1], .i .i64 r.2.2.2.2.2.2.2.2]) [.row (r.2.2.2.1.map (V.i .u64)) 2 1 true true none, .row (r.2.2.2.2.1.map (V.i .i64)) 2 1 true true none, .row (r.2.2.2.2.2.1.map (V.i .i64)) 2 1 true true none]) := by
  obtain ⟨ih0, ih1, ih2, ih3, ih4, ih5, ih6, ih7, ih8⟩ := bal_Of.does_l (a0_0 := a0_0) (a0_1 := a0_1) (a0_2 := a0_2) (l0_3 := l0_3) k
  refine fn_wpl Try.func6 rfl (Q := (bal_Of.Q a0_0 a0_1 a0_2 l0_3 r)) (fun s h => h) ?_
  unfold bal_Of.f at H
  simp only [Try.ntmps6, List.length, List.replicate, Nat.reduceAdd, Nat.reduceSub, List.cons_append, List.nil_append]
  refine w_seq ?_
  refine wR fun K hK => ?_
  refine g_box rfl rfl rfl (by rfl) (gU ?_)
  refine g_alloc rfl rfl zr26 (gU ?_)
  refine g_alloc rfl rfl zr29 (gU ?_)
  refine g_as rfl rfl (gT ?_)
  refine g_nil (hK _ _ _ ?_)
  refine k_seq ?_
  refine w_scope ?_
  refine w_seq ?_
  refine w_seq ?_
  refine wR fun K hK => ?_
  refine g_lda rfl rfl ag26 sz26 rfl rfl (Nat.le_of_ble_eq_true rfl) (gT ?_)
  obtain ⟨q1, hq1, H⟩ := bnd H
  refine g_cs [] rfl rfl (by rfl) Try.func14 rfl (by decide) (mat_Matrix_Check.does hq1) ⟨Nat.le_of_ble_eq_true rfl, Nat.le_of_ble_eq_true rfl⟩ ?_; refine gC ?_
  refine g_bin rfl rfl rfl rfl rfl (gT ?_)
  refine g_mv rfl rfl (gT ?_)
  rcases its H with ⟨c2, H⟩ | ⟨c2, H⟩
  · have c2b := beq_iff_eq.mpr c2; have c2n := bne_eq_false_iff_eq.mpr c2; try simp only [c2b, c2n, nrm]
    refine g_fd rfl rfl fa26_0 rfl (gT ?_)
    refine g_ldc rfl rfl ag3 sz3 rfl rfl rfl (gT ?_)
    refine g_fd rfl rfl fa26_1 rfl (gT ?_)
    refine g_ldc rfl rfl ag3 sz3 rfl rfl rfl (gT ?_)
    refine g_bin rfl rfl rfl rfl rfl (gT ?_)
    refine g_pick rfl rfl rfl (gT ?_)
    refine g_nil (hK _ _ _ ?_)
    refine k_wk (σ := [0, 4, 8]) [1, 0, 0, 19] rfl (by decide) rfl ?_; refine gC ?_
    exact gI (ih0 (a0_0 != a0_1) a0_0 a0_1 a0_2 l0_3 0 r H)
  · have c2b := beq_eq_false_iff_ne.mpr c2; have c2n := bne_iff_ne.mpr c2; try simp only [c2b, c2n, nrm]
    refine g_sk rfl rfl (gT ?_)
    refine g_sk rfl rfl (gT ?_)
    refine g_sk rfl rfl (gT ?_)
    refine g_sk rfl rfl (gT ?_)
    refine g_sk rfl rfl (gT ?_)
    refine g_pick rfl rfl rfl (gT ?_)
    refine g_nil (hK _ _ _ ?_)
    refine k_wk (σ := [0, 4, 8]) [1, 0, 0, 19] rfl (by decide) rfl ?_; refine gC ?_
    exact gI (ih0 true a0_0 a0_1 a0_2 l0_3 0 r H)

set_option maxHeartbeats 8000000 in
set_option maxRecDepth 100000 in
theorem gimballaw16_head.does_l (k : Nat) : (∀ (t_31 : Bool) (h0_0 : Int) (h0_1 : Int) (h1 : List Int) (h2 : List Int) (r : Bool), gimballaw16_head.j0 k t_31 h1 h2 = some r → kont E0 (gimballaw16_head.Q  r) (frs (bodyOf Try.f5) [1, 1, 1, 1, 1, 0, 0] []) .normal ⟨[.u, .u, .u, .p (some (0, 0)), .u, .u, .u, .u, .u, .u, .u, .u, .u, .u, .u, .u, .u, .u, .u, .u, .u, .u, .u, .u, .u, .u, .u, .u, .u, .u, .u, .b t_31, .u, .u, .u, .u, .u, .u, .u, .u, .u, .u, .u, .u, .u, .u, .u, .u, .u, .u, .u, .u, .u, .u, .u, .u, .u], ofL [.row [.s (some (1, 0)) h1.length, .s (some (2, 0)) h2.length, .i .i64 h0_0, .i .i64 h0_1] 0 0 true true none, .row (h1.map (V.i .i64)) 2 1 true true none, .row (h2.map (V.i .i64)) 2 1 true true none], 3, 0⟩) := by
  induction k with
  | zero => exact fun _ _ _ _ _ r h => by simp [gimballaw16_head.j0] at h
  | succ k ih =>
    have ih0 := ih
    refine ?_
    · intro t_31 h0_0 h0_1 h1 h2 r H
      unfold gimballaw16_head.j0 at H
      simp only [bodyOf, Try.f5, frs, sub, if_true, if_false, Nat.one_ne_zero]
      refine k_seq ?_
      rcases its H with ⟨c9, H⟩ | ⟨c9, H⟩
      · have c9b : t_31 = true := c9; try simp only [c9b, nrm]
        refine w_cond rfl (fun _ => ?_) (fun h => Bool.noConfusion h)
        refine w_seq ?_
        refine wR fun K hK => ?_
        refine g_as rfl rfl (gT ?_)
        refine g_nil (hK _ _ _ ?_)
        refine k_seq ?_
        refine w_ret ?_
        refine fin_wp (τ := []) rfl (by decide) ?_; rw [← Option.some.inj H]; simp only [Try.f5]; exact gF
      · have c9b : t_31 = false := Bool.eq_false_iff.mpr c9; try simp only [c9b, nrm]
        refine w_cond rfl (fun h => Bool.noConfusion h) (fun _ => ?_)
        refine w_skip ?_
        refine k_seq ?_
        refine w_seq ?_
        refine w_seq ?_
        refine wR fun K hK => ?_
        refine g_fd rfl rfl fa29_0 rfl (gT ?_)
        refine g_ldc rfl rfl ag27 sz27 rfl rfl rfl (gT ?_)
        obtain ⟨c10, H⟩ := it1 H
        refine g_ixo rfl rfl Try.underlying27 sz3 rfl rfl (by first | assumption | omega) (by first | assumption | omega | (simp only [List.length_set, List.length_replicate] at *; omega)) (gT ?_)
        refine g_ldo rfl rfl ag3 sz3 rfl rfl (by first | assumption | omega | (simp only [List.length_set, List.length_replicate] at *; omega)) (gT ?_)
        refine g_bin rfl rfl rfl rfl rfl (gT ?_)
        refine g_nil (hK _ _ _ ?_)
        refine k_seq ?_
        rcases its H with ⟨c11, H⟩ | ⟨c11, H⟩
        · have c11b := beq_iff_eq.mpr c11; have c11n := bne_eq_false_iff_eq.mpr c11; try simp only [c11b, c11n, nrm]
          refine w_cond rfl (fun _ => ?_) (fun h => Bool.noConfusion h)
          refine w_seq ?_
          refine wD fun K hK => ?_
          refine g_fd rfl rfl fa29_1 rfl (gT ?_)
          refine g_ldc rfl rfl ag27 sz27 rfl rfl rfl (gT ?_)
          obtain ⟨c12, H⟩ := it1 H
          refine g_ixo rfl rfl Try.underlying27 sz3 rfl rfl (by first | assumption | omega) (by first | assumption | omega | (simp only [List.length_set, List.length_replicate] at *; omega)) (gT ?_)
          refine g_ldo rfl rfl ag3 sz3 rfl rfl (by first | assumption | omega | (simp only [List.length_set, List.length_replicate] at *; omega)) (gT ?_)
          refine g_fd rfl rfl fa29_1 rfl (gT ?_)
          refine g_ldc rfl rfl ag27 sz27 rfl rfl rfl (gT ?_)
          obtain ⟨c13, H⟩ := it1 H
          refine g_ixo rfl rfl Try.underlying27 sz3 rfl rfl (by first | assumption | omega) (by first | assumption | omega | (simp only [List.length_set, List.length_replicate] at *; omega)) (gT ?_)
          refine g_ldo rfl rfl ag3 sz3 rfl rfl (by first | assumption | omega | (simp only [List.length_set, List.length_replicate] at *; omega)) (gT ?_)
          refine g_bin rfl rfl rfl rfl rfl (gT ?_)
          refine g_bin rfl rfl rfl rfl rfl (gT ?_)
          refine g_as rfl rfl (gT ?_)
          refine g_nil (hK _ _ _ (by kernel_rfl) ?_)
          refine k_seq ?_
          refine w_ret ?_
          refine fin_wp (τ := []) rfl (by decide) ?_; rw [← Option.some.inj H]; simp only [Try.f5]; exact gF
        · have c11b := beq_eq_false_iff_ne.mpr c11; have c11n := bne_iff_ne.mpr c11; try simp only [c11b, c11n, nrm]
          refine w_cond rfl (fun h => Bool.noConfusion h) (fun _ => ?_)
          refine w_skip ?_
          refine k_seq ?_
          refine w_seq ?_
          refine wD fun K hK => ?_
          refine g_fd rfl rfl fa29_1 rfl (gT ?_)
          refine g_ldc rfl rfl ag27 sz27 rfl rfl rfl (gT ?_)
          obtain ⟨c14, H⟩ := it1 H
          refine g_ixo rfl rfl Try.underlying27 sz3 rfl rfl (by first | assumption | omega) (by first | assumption | omega | (simp only [List.length_set, List.length_replicate] at *; omega)) (gT ?_)
          refine g_ldo rfl rfl ag3 sz3 rfl rfl (by first | assumption | omega | (simp only [List.length_set, List.length_replicate] at *; omega)) (gT ?_)
          refine g_fd rfl rfl fa29_1 rfl (gT ?_)
          refine g_ldc rfl rfl ag27 sz27 rfl rfl rfl (gT ?_)
          obtain ⟨c15, H⟩ := it1 H
          refine g_ixo rfl rfl Try.underlying27 sz3 rfl rfl (by first | assumption | omega) (by first | assumption | omega | (simp only [List.length_set, List.length_replicate] at *; omega)) (gT ?_)
          refine g_ldo rfl rfl ag3 sz3 rfl rfl (by first | assumption | omega | (simp only [List.length_set, List.length_replicate] at *; omega)) (gT ?_)
          refine g_bin rfl rfl rfl rfl rfl (gT ?_)
          refine g_bin rfl rfl rfl rfl rfl (gT ?_)
          refine g_as rfl rfl (gT ?_)
          refine g_nil (hK _ _ _ (by kernel_rfl) ?_)
          refine k_seq ?_
          refine w_ret ?_
          refine fin_wp (τ := []) rfl (by decide) ?_; rw [← Option.some.inj H]; simp only [Try.f5]; exact gF
set_option maxHeartbeats 8000000 in
set_option maxRecDepth 100000 in
theorem gimballaw16_head.does {k : Nat} {r : Bool} (H : gimballaw16_head.f k  = some r) : Do E0 (.fn 5 [] [] (.b r) []) := by
  obtain ih0 := gimballaw16_head.does_l  k
  refine fn_wpl Try.func5 rfl (Q := (gimballaw16_head.Q  r)) (fun s h => h) ?_
  unfold gimballaw16_head.f at H
  simp only [Try.ntmps5, List.length, List.replicate, Nat.reduceAdd, Nat.reduceSub, List.cons_append, List.nil_append]
  refine w_seq ?_
  refine wR fun K hK => ?_
  refine g_as rfl rfl (gT ?_)
  refine g_nil (hK _ _ _ ?_)
  refine k_seq ?_
  refine w_seq ?_
  refine wR fun K hK => ?_
  obtain ⟨q1, hq1, H⟩ := bnd H
  refine g_cs [] rfl rfl (by rfl) Try.func12 rfl (by decide) (mat_One.does hq1) ⟨Nat.le_of_ble_eq_true rfl, Nat.le_of_ble_eq_true rfl⟩ ?_; refine gC ?_
  refine g_alloc rfl rfl zr26 (gU ?_)
  refine g_st rfl rfl sz26 rfl rfl rfl (by rfl) (Nat.le_of_ble_eq_true rfl) (gU ?_)
  refine g_nil (hK _ _ _ ?_)
  refine k_seq ?_
  refine w_seq ?_
  refine wD fun K hK => ?_
  refine g_lda rfl rfl ag26 sz26 rfl rfl (Nat.le_of_ble_eq_true rfl) (gT ?_)
  obtain ⟨q2, hq2, H⟩ := bnd H
  refine g_cs [] rfl rfl (by rfl) Try.func13 rfl (by decide) (word_Make.does hq2) ⟨Nat.le_of_ble_eq_true rfl, Nat.le_of_ble_eq_true rfl⟩ ?_; refine gC ?_
  obtain ⟨q3, hq3, H⟩ := bnd H
  have zq3_0 := mat_Matrix_Set.len hq3
  (try simp only [List.length_set, List.length_replicate, List.length_append, List.length_cons, List.length_nil, Nat.zero_add] at zq3_0)
  refine g_cs [4] rfl rfl (by rfl) Try.func10 rfl (by decide) (mat_Matrix_Set.does hq3) ⟨Nat.le_of_ble_eq_true rfl, Nat.le_of_ble_eq_true rfl⟩ ?_; simp only [nrm, nrmw, nrmc, nrme, nrmo, nrml, nrmb, nrmx, Nat.reduceEqDiff, Nat.reduceBEq, Nat.zero_add, Nat.add_zero, Nat.mul_one, List.length_cons, List.length_nil, List.length_map, List.length_set, List.length_replicate, List.drop_zero, List.drop_succ_cons, List.drop_nil, List.take_zero, List.take_succ_cons, List.take_nil, Nat.le_refl, if_true, if_false, Option.any_none, Option.any_some, List.contains_nil, Bool.not_false, Bool.or_true, Bool.true_or, Bool.or_false, Bool.false_or, Bool.and_true, Bool.true_and, Bool.and_self, reduceCtorEq, beq_self_eq_true, List.map_cons, List.map_nil, List.append_nil, List.nil_append, List.contains_cons, List.filter_cons, List.filter_nil, List.cons_append, Bool.false_eq_true, true_and, and_true, List.getElem_toArray, List.getElem_cons_zero, List.getElem_cons_succ, Nat.reduceAdd, Nat.reduceMul, Nat.reduceLT, Nat.reduceSub, Nat.reduceLeDiff, ← zq3_0]
  refine g_nil (hK _ _ _ (by kernel_rfl) ?_)
  refine k_seq ?_
  refine w_seq ?_
  refine wD fun K hK => ?_
  refine g_lda rfl rfl ag26 sz26 rfl rfl (Nat.le_of_ble_eq_true rfl) (gT ?_)
  obtain ⟨q4, hq4, H⟩ := bnd H
  refine g_cs [] rfl rfl (by rfl) Try.func13 rfl (by decide) (word_Make.does hq4) ⟨Nat.le_of_ble_eq_true rfl, Nat.le_of_ble_eq_true rfl⟩ ?_; refine gC ?_
  obtain ⟨q5, hq5, H⟩ := bnd H
  have zq5_0 := mat_Matrix_Set.len hq5
  (try simp only [List.length_set, List.length_replicate, List.length_append, List.length_cons, List.length_nil, Nat.zero_add] at zq5_0)
  refine g_cs [4] rfl rfl (by rfl) Try.func10 rfl (by decide) (mat_Matrix_Set.does hq5) ⟨Nat.le_of_ble_eq_true rfl, Nat.le_of_ble_eq_true rfl⟩ ?_; simp only [nrm, nrmw, nrmc, nrme, nrmo, nrml, nrmb, nrmx, Nat.reduceEqDiff, Nat.reduceBEq, Nat.zero_add, Nat.add_zero, Nat.mul_one, List.length_cons, List.length_nil, List.length_map, List.length_set, List.length_replicate, List.drop_zero, List.drop_succ_cons, List.drop_nil, List.take_zero, List.take_succ_cons, List.take_nil, Nat.le_refl, if_true, if_false, Option.any_none, Option.any_some, List.contains_nil, Bool.not_false, Bool.or_true, Bool.true_or, Bool.or_false, Bool.false_or, Bool.and_true, Bool.true_and, Bool.and_self, reduceCtorEq, beq_self_eq_true, List.map_cons, List.map_nil, List.append_nil, List.nil_append, List.contains_cons, List.filter_cons, List.filter_nil, List.cons_append, Bool.false_eq_true, true_and, and_true, List.getElem_toArray, List.getElem_cons_zero, List.getElem_cons_succ, Nat.reduceAdd, Nat.reduceMul, Nat.reduceLT, Nat.reduceSub, Nat.reduceLeDiff, ← zq5_0]
  refine g_nil (hK _ _ _ (by kernel_rfl) ?_)
  refine k_seq ?_
  refine w_seq ?_
  refine wR fun K hK => ?_
  refine g_lda rfl rfl ag26 sz26 rfl rfl (Nat.le_of_ble_eq_true rfl) (gT ?_)
  obtain ⟨q6, hq6, H⟩ := bnd H
  refine g_cs [] rfl rfl (by rfl) Try.func6 rfl (by decide) (bal_Of.does hq6) ⟨Nat.le_of_ble_eq_true rfl, Nat.le_of_ble_eq_true rfl⟩ ?_; refine gC ?_
  refine g_mv rfl rfl (gT ?_)
  refine g_ext rfl rfl rfl (Nat.le_of_ble_eq_true rfl) (gT ?_)
  refine g_ext rfl rfl rfl (Nat.le_of_ble_eq_true rfl) (gT ?_)
  refine g_ext rfl rfl rfl (Nat.le_of_ble_eq_true rfl) (gT ?_)
  refine g_alloc rfl rfl zr26 (gU ?_)
  refine g_alloc rfl rfl zr29 (gU ?_)
  refine g_st rfl rfl sz26 rfl rfl rfl (by rfl) (Nat.le_of_ble_eq_true rfl) (gU ?_)
  refine g_st rfl rfl sz29 rfl rfl rfl (by rfl) (Nat.le_of_ble_eq_true rfl) (gU ?_)
  refine g_as rfl rfl (gT ?_)
  refine g_nil (hK _ _ _ ?_)
  refine k_seq ?_
  refine w_seq ?_
  refine w_seq ?_
  refine wR fun K hK => ?_
  refine g_mv rfl rfl (gT ?_)
  refine g_bin rfl rfl rfl rfl rfl (gT ?_)
  refine g_mv rfl rfl (gT ?_)
  rcases its H with ⟨c7, H⟩ | ⟨c7, H⟩
  · have c7b := beq_iff_eq.mpr c7; have c7n := bne_eq_false_iff_eq.mpr c7; try simp only [c7b, c7n, nrm]
    refine g_fd rfl rfl fa29_1 rfl (gT ?_)
    refine g_ldc rfl rfl ag27 sz27 rfl rfl rfl (gT ?_)
    refine g_len_s rfl rfl Try.underlying27 rfl (gT ?_)
    refine g_bin rfl rfl rfl rfl rfl (gT ?_)
    refine g_pick rfl rfl rfl (gT ?_)
    refine g_mv rfl rfl (gT ?_)
    rcases its H with ⟨c8, H⟩ | ⟨c8, H⟩
    · have c8b := beq_iff_eq.mpr c8; have c8n := bne_eq_false_iff_eq.mpr c8; try simp only [c8b, c8n, nrm]
      refine g_fd rfl rfl fa29_0 rfl (gT ?_)
      refine g_ldc rfl rfl ag27 sz27 rfl rfl rfl (gT ?_)
      refine g_len_s rfl rfl Try.underlying27 rfl (gT ?_)
      refine g_bin rfl rfl rfl rfl rfl (gT ?_)
      refine g_pick rfl rfl rfl (gT ?_)
      refine g_nil (hK _ _ _ ?_)
      refine k_wk (σ := [68, 45, 46]) [3, 27] rfl (by decide) rfl ?_; refine gC ?_
      exact gI (ih0 ((q6.2.2.2.2.1.length : Int) != 2) q6.2.2.2.2.2.2.1 q6.2.2.2.2.2.2.2.1 q6.2.2.2.2.1 q6.2.2.2.2.2.1 r H)
    · have c8b := beq_eq_false_iff_ne.mpr c8; have c8n := bne_iff_ne.mpr c8; try simp only [c8b, c8n, nrm]
      refine g_sk rfl rfl (gT ?_)
      refine g_sk rfl rfl (gT ?_)
      refine g_sk rfl rfl (gT ?_)
      refine g_sk rfl rfl (gT ?_)
      refine g_pick rfl rfl rfl (gT ?_)
      refine g_nil (hK _ _ _ ?_)
      refine k_wk (σ := [68, 45, 46]) [3, 27] rfl (by decide) rfl ?_; refine gC ?_
      exact gI (ih0 true q6.2.2.2.2.2.2.1 q6.2.2.2.2.2.2.2.1 q6.2.2.2.2.1 q6.2.2.2.2.2.1 r H)
  · have c7b := beq_eq_false_iff_ne.mpr c7; have c7n := bne_iff_ne.mpr c7; try simp only [c7b, c7n, nrm]
    refine g_sk rfl rfl (gT ?_)
    refine g_sk rfl rfl (gT ?_)
    refine g_sk rfl rfl (gT ?_)
    refine g_sk rfl rfl (gT ?_)
    refine g_pick rfl rfl rfl (gT ?_)
    refine g_mv rfl rfl (gT ?_)
    refine g_sk rfl rfl (gT ?_)
    refine g_sk rfl rfl (gT ?_)
    refine g_sk rfl rfl (gT ?_)
    refine g_sk rfl rfl (gT ?_)
    refine g_pick rfl rfl rfl (gT ?_)
    refine g_nil (hK _ _ _ ?_)
    refine k_wk (σ := [68, 45, 46]) [3, 27] rfl (by decide) rfl ?_; refine gC ?_
    exact gI (ih0 true q6.2.2.2.2.2.2.1 q6.2.2.2.2.2.2.2.1 q6.2.2.2.2.1 q6.2.2.2.2.2.1 r H)

theorem gimballaw16_head_ok.does {r : Unit} (H : gimballaw16_head_ok.f = some r) : Do E0 (.fn 5 [] [] (.b true) []) := (gimballaw16_head.does (k := 200) (r := true) (by kernel_rfl))

set_option maxHeartbeats 8000000 in
set_option maxRecDepth 100000 in
theorem gimballaw16_made.does_l {a0 : Int} {l1 : List Int} {a2 : Int} (k : Nat) : (∀ (all_1 : List Int) (holes_2 : Int) (t_14 : Int) (t_15 : Int) (h0_0 : Int) (h1_0 : Int) (h1_1 : Int) (h1_2 : Int) (h2 : List Int) (r : Int × Int × Int × (List Int)), gimballaw16_made.l0 k all_1 holes_2 t_14 t_15 h1_0 h1_1 h1_2 h2 = some r → wk_ E0 (gimballaw16_made.Q a0 l1 a2 r) (frs (bodyOf Try.f7) [1, 1, 0, 1, 0] []) (sub (bodyOf Try.f7) [1, 1, 0, 1, 0]) ⟨[.u, .r (all_1.map (V.i .u64)) all_1.length true, .i .u64 holes_2, .u, .u, .u, .p (some (0, 0)), .p (some (1, 0)), .u, .u, .u, .u, .u, .u, .i .i64 t_14, .i .i64 t_15, .u, .u, .u, .u, .u, .u, .u, .u, .u, .u, .u, .u, .u, .u, .u, .u, .u, .u, .u, .u, .u, .u, .u, .u, .u, .u, .u], ofL [.row [.i .i64 h0_0, .i .i64 h0_0, .i .i64 h0_0, .s none 0] 0 0 true true none, .row [.i .i64 h1_0, .i .i64 h1_1, .i .i64 h1_2, .s (some (2, 0)) h2.length] 0 0 true true none, .row (h2.map (V.i .u64)) 2 1 true true none], 3, 0⟩) := by
  induction k with
  | zero => exact fun _ _ _ _ _ _ _ _ _ r h => by simp [gimballaw16_made.l0] at h
  | succ k ih =>
    have ih0 := ih
    refine ?_
    · intro all_1 holes_2 t_14 t_15 h0_0 h1_0 h1_1 h1_2 h2 r H
      unfold gimballaw16_made.l0 at H
      simp only [bodyOf, Try.f7, frs, sub, if_true, if_false, Nat.one_ne_zero]
      refine w_loop ?_
      refine w_seq ?_
      refine wR fun K hK => ?_
      refine g_bin rfl rfl rfl rfl rfl (gT ?_)
      refine g_nil (hK _ _ _ ?_)
      refine k_seq ?_
      refine w_seq ?_
      rcases its H with ⟨c2, H⟩ | ⟨c2, H⟩
      · have c2b := decide_eq_true c2; try simp only [c2b, nrm]
        refine w_cond rfl (fun _ => ?_) (fun h => Bool.noConfusion h)
        refine w_skip ?_
        refine k_seq ?_
        refine w_seq ?_
        refine w_block ?_
        refine w_seq ?_
        refine wR fun K hK => ?_
        refine g_mv rfl rfl (gT ?_)
        refine g_as rfl rfl (gT ?_)
        refine g_nil (hK _ _ _ ?_)
        refine k_seq ?_
        refine w_seq ?_
        refine wR fun K hK => ?_
        refine g_mv rfl rfl (gT ?_)
        refine g_len_r rfl rfl Try.underlying22 rfl (gT ?_)
        refine g_bin rfl rfl rfl rfl rfl (gT ?_)
        refine g_mv rfl rfl (gT ?_)
        rcases its H with ⟨c3, H⟩ | ⟨c3, H⟩
        · have c3b := decide_eq_true c3; try simp only [c3b, nrm]
          refine g_mv rfl rfl (gT ?_)
          refine g_mv rfl rfl (gT ?_)
          refine g_bin rfl rfl rfl rfl rfl (gT ?_)
          refine g_conv rfl rfl Try.underlying3 Try.underlying49 rfl (gT ?_)
          obtain ⟨c4, H⟩ := it1 H
          refine g_shr rfl rfl rfl rfl (by omega) (gT ?_)
          refine g_bin rfl rfl rfl rfl rfl (gT ?_)
          refine g_bin rfl rfl rfl rfl rfl (gT ?_)
          refine g_pick rfl rfl rfl (gT ?_)
          refine g_nil (hK _ _ _ ?_)
          refine k_seq ?_
          rcases its H with ⟨c5, H⟩ | ⟨c5, H⟩
          · have c5b := beq_iff_eq.mpr c5; have c5n := bne_eq_false_iff_eq.mpr c5; try simp only [c5b, c5n, nrm]
            refine w_cond rfl (fun _ => ?_) (fun h => Bool.noConfusion h)
            refine wD fun K hK => ?_
            refine g_fd rfl rfl fa26_3 rfl (gT ?_)
            refine g_ldc rfl rfl ag22 sz22 rfl rfl rfl (gT ?_)
            refine g_mv rfl rfl (gT ?_)
            refine g_mv rfl rfl (gT ?_)
            refine g_mv rfl rfl (gT ?_)
            refine g_mv rfl rfl (gT ?_)
            refine g_len_r rfl rfl Try.underlying22 rfl (gT ?_)
            obtain ⟨c6, H⟩ := it0 H
            refine g_rem rfl rfl rfl rfl (by first | assumption | omega) (gT ?_)
            obtain ⟨c7, H⟩ := it1 H
            obtain ⟨c8, H⟩ := it1 H
            refine g_ixr rfl rfl Try.underlying22 sz23 rfl rfl (by first | assumption | omega) (by first | assumption | omega | (simp only [List.length_set, List.length_replicate] at *; omega)) (gT ?_)
            refine g_ldq rfl rfl ag23 sz23 rfl (by first | assumption | omega) (gT ?_)
            obtain ⟨c9, H⟩ := it1 H
            obtain ⟨c10, H⟩ := it1 H
            refine g_ixo rfl rfl Try.underlying22 sz23 rfl rfl (by first | assumption | omega) (by first | assumption | omega | (simp only [List.length_set, List.length_replicate] at *; omega)) (gT ?_)
            refine g_st rfl rfl sz23 rfl rfl rfl (by rfl) (by simp only [List.length_map, List.length_set, List.length_replicate]; first | assumption | omega) (gU ?_)
            refine g_nil (hK _ _ _ (by kernel_rfl) ?_)
            refine k_block ?_
            refine k_seq ?_
            refine wR fun K hK => ?_
            refine g_bin rfl rfl rfl rfl rfl (gT ?_)
            refine g_mv rfl rfl (gT ?_)
            refine g_nil (hK _ _ _ ?_)
            refine k_loop ?_
            refine w_wk (σ := [0, 1, 2]) [1, 0, 3, 0, 6, 0] rfl (by decide) ?_; refine gC ?_
            exact gI (ih0 all_1 holes_2 t_14 (wrap64 (t_15 + 1)) h0_0 h1_0 h1_1 h1_2 (h2.set t_15.toNat (rd all_1 (Int.tmod t_15 (all_1.length : Int)))) r H)
          · have c5b := beq_eq_false_iff_ne.mpr c5; have c5n := bne_iff_ne.mpr c5; try simp only [c5b, c5n, nrm]
            refine w_cond rfl (fun h => Bool.noConfusion h) (fun _ => ?_)
            refine w_skip ?_
            refine k_block ?_
            refine k_seq ?_
            refine wR fun K hK => ?_
            refine g_bin rfl rfl rfl rfl rfl (gT ?_)
            refine g_mv rfl rfl (gT ?_)
            refine g_nil (hK _ _ _ ?_)
            refine k_loop ?_
            refine w_wk (σ := [0, 1, 2]) [1, 0, 3, 0, 6, 0] rfl (by decide) ?_; refine gC ?_
            exact gI (ih0 all_1 holes_2 t_14 (wrap64 (t_15 + 1)) h0_0 h1_0 h1_1 h1_2 h2 r H)
        · have c3b := decide_eq_false c3; try simp only [c3b, nrm]
          refine g_sk rfl rfl (gT ?_)
          refine g_sk rfl rfl (gT ?_)
          refine g_sk rfl rfl (gT ?_)
          refine g_sk rfl rfl (gT ?_)
          refine g_sk rfl rfl (gT ?_)
          refine g_sk rfl rfl (gT ?_)
          refine g_sk rfl rfl (gT ?_)
          refine g_pick rfl rfl rfl (gT ?_)
          refine g_nil (hK _ _ _ ?_)
          refine k_seq ?_
          refine w_cond rfl (fun h => Bool.noConfusion h) (fun _ => ?_)
          refine w_skip ?_
          refine k_block ?_
          refine k_seq ?_
          refine wR fun K hK => ?_
          refine g_bin rfl rfl rfl rfl rfl (gT ?_)
          refine g_mv rfl rfl (gT ?_)
          refine g_nil (hK _ _ _ ?_)
          refine k_loop ?_
          refine w_wk (σ := [0, 1, 2]) [1, 0, 3, 0, 6, 0] rfl (by decide) ?_; refine gC ?_
          exact gI (ih0 all_1 holes_2 t_14 (wrap64 (t_15 + 1)) h0_0 h1_0 h1_1 h1_2 h2 r H)
      · have c2b := decide_eq_false c2; try simp only [c2b, nrm]
        refine w_cond rfl (fun h => Bool.noConfusion h) (fun _ => ?_)
        refine w_exit rfl ?_
        refine k_seq ?_
        refine w_seq ?_
        refine wR fun K hK => ?_
        refine g_lda rfl rfl ag26 sz26 rfl rfl (Nat.le_of_ble_eq_true rfl) (gT ?_)
        refine g_st rfl rfl sz26 rfl rfl rfl (by rfl) (Nat.le_of_ble_eq_true rfl) (gU ?_)
        refine g_nil (hK _ _ _ ?_)
        refine k_seq ?_
        refine w_ret ?_
        refine fin_wp (τ := [2]) rfl (by decide) ?_; rw [← Option.some.inj H]; simp only [Try.f7, ag26, sz26, nrm, nrmw, nrmc, nrme, nrmo, nrml, nrmb, nrmx, Nat.reduceEqDiff, Nat.reduceBEq, Nat.zero_add, Nat.add_zero, Nat.mul_one, List.length_cons, List.length_nil, List.length_map, List.length_set, List.length_replicate, List.drop_zero, List.drop_succ_cons, List.drop_nil, List.take_zero, List.take_succ_cons, List.take_nil, Nat.le_refl, if_true, if_false, Option.any_none, Option.any_some, List.contains_nil, Bool.not_false, Bool.or_true, Bool.true_or, Bool.or_false, Bool.false_or, Bool.and_true, Bool.true_and, Bool.and_self, reduceCtorEq, beq_self_eq_true, List.map_cons, List.map_nil, List.append_nil, List.nil_append, List.contains_cons, List.filter_cons, List.filter_nil, List.cons_append, Bool.false_eq_true, true_and, and_true, List.getElem_toArray, List.getElem_cons_zero, List.getElem_cons_succ, Nat.reduceAdd, Nat.reduceMul, Nat.reduceLT, Nat.reduceSub, Nat.reduceLeDiff]; try (first | rfl | exact ⟨rfl, trivial⟩ | exact ⟨rfl, rfl⟩)
set_option maxHeartbeats 8000000 in
set_option maxRecDepth 100000 in
theorem gimballaw16_made.does {k : Nat} {a0 : Int} {l1 : List Int} {a2 : Int} {r : Int × Int × Int × (List Int)} (H : gimballaw16_made.f k a0 l1 a2 = some r) : Do E0 (.fn 7 [.i .i64 a0, .r (l1.map (V.i .u64)) l1.length true, .i .u64 a2] [] (.a [.i .i64 r.1, .i .i64 r.2.1, .i .i64 r.2.2.1, .s (some (0, 0)) r.2.2.2.length]) [.row (r.2.2.2.map (V.i .u64)) 2 1 true true none]) := by
  obtain ih0 := gimballaw16_made.does_l (a0 := a0) (l1 := l1) (a2 := a2) k
  refine fn_wpl Try.func7 rfl (Q := (gimballaw16_made.Q a0 l1 a2 r)) (fun s h => h) ?_
  unfold gimballaw16_made.f at H
  simp only [Try.ntmps7, List.length, List.replicate, Nat.reduceAdd, Nat.reduceSub, List.cons_append, List.nil_append]
  refine w_seq ?_
  refine wR fun K hK => ?_
  refine g_alloc rfl rfl zr26 (gU ?_)
  refine g_nil (hK _ _ _ ?_)
  refine k_seq ?_
  refine w_seq ?_
  refine wR fun K hK => ?_
  refine g_mv rfl rfl (gT ?_)
  refine g_mv rfl rfl (gT ?_)
  obtain ⟨q1, hq1, H⟩ := bnd H
  refine g_cs [] rfl rfl (by rfl) Try.func19 rfl (by decide) (mat_New.does hq1) ⟨Nat.le_of_ble_eq_true rfl, Nat.le_of_ble_eq_true rfl⟩ ?_; refine gC ?_
  refine g_alloc rfl rfl zr26 (gU ?_)
  refine g_st rfl rfl sz26 rfl rfl rfl (by rfl) (Nat.le_of_ble_eq_true rfl) (gU ?_)
  refine g_nil (hK _ _ _ ?_)
  refine k_seq ?_
  refine w_seq ?_
  refine w_seq ?_
  refine wR fun K hK => ?_
  refine g_fd rfl rfl fa26_3 rfl (gT ?_)
  refine g_ldc rfl rfl ag22 sz22 rfl rfl rfl (gT ?_)
  refine g_len_s rfl rfl Try.underlying22 rfl (gT ?_)
  refine g_mv rfl rfl (gT ?_)
  refine g_nil (hK _ _ _ ?_)
  refine k_seq ?_
  refine w_block ?_
  refine w_wk (σ := [0, 16, 12]) [1, 0, 3, 0, 6, 0] rfl (by decide) ?_; refine gC ?_
  exact gI (ih0 l1 a2 (q1.2.2.2.length : Int) 0 0 q1.1 q1.2.1 q1.2.2.1 q1.2.2.2 r H)

set_option maxHeartbeats 8000000 in
set_option maxRecDepth 100000 in
theorem gimballaw16_BalTriangles.does_l {a0 : Int} {l1 : List Int} (k : Nat) : (∀ (n_0 : Int) (i_6 : Int) (h0_0 : Int) (h0_1 : Int) (h0_2 : Int) (h1 : List Int) (r : Bool), gimballaw16_BalTriangles.l0 k n_0 i_6 h0_0 h0_1 h0_2 h1 = some r → wk_ E0 (gimballaw16_BalTriangles.Q a0 l1 r) (frs (bodyOf Try.f4) [1, 1, 1, 1, 1, 0, 1, 0] []) (sub (bodyOf Try.f4) [1, 1, 1, 1, 1, 0, 1, 0]) ⟨[.i .i64 n_0, .u, .u, .u, .u, .p (some (0, 0)), .i .i64 i_6, .u, .u, .u, .u, .u, .u, .u, .u, .u, .u, .u, .u, .u, .u, .u, .u, .u, .u, .u, .u, .u, .u, .u, .u, .u, .u, .u, .u, .u, .u, .u, .u, .u, .u, .u, .u, .u, .u, .u, .u, .u, .u, .u, .u, .u, .u, .u, .u, .u, .u, .u, .u, .u, .u, .u, .u, .u, .u, .u, .u, .u, .u, .u, .u, .u, .u, .u, .u, .u, .u, .u, .u, .u, .u, .u, .u, .u, .u, .u, .u, .u, .u, .u, .u, .u, .u, .u, .u, .u, .u, .u, .u, .u, .u], ofL [.row [.i .i64 h0_0, .i .i64 h0_1, .i .i64 h0_2, .s (some (1, 0)) h1.length] 0 0 true true none, .row (h1.map (V.i .u64)) 2 1 true true none], 2, 0⟩) ∧
    (∀ (n_0 : Int) (i_6 : Int) (k_7 : Int) (h0_0 : Int) (h0_1 : Int) (h0_2 : Int) (h1 : List Int) (r : Bool), gimballaw16_BalTriangles.l1 k n_0 i_6 k_7 h0_0 h0_1 h0_2 h1 = some r → wk_ E0 (gimballaw16_BalTriangles.Q a0 l1 r) (frs (bodyOf Try.f4) [1, 1, 1, 1, 1, 0, 1, 0, 0, 1, 0, 0, 1, 0] []) (sub (bodyOf Try.f4) [1, 1, 1, 1, 1, 0, 1, 0, 0, 1, 0, 0, 1, 0]) ⟨[.i .i64 n_0, .u, .u, .u, .u, .p (some (0, 0)), .i .i64 i_6, .i .i64 k_7, .u, .u, .u, .u, .u, .u, .u, .u, .u, .u, .u, .u, .u, .u, .u, .u, .u, .u, .u, .u, .u, .u, .u, .u, .u, .u, .u, .u, .u, .u, .u, .u, .u, .u, .u, .u, .u, .u, .u, .u, .u, .u, .u, .u, .u, .u, .u, .u, .u, .u, .u, .u, .u, .u, .u, .u, .u, .u, .u, .u, .u, .u, .u, .u, .u, .u, .u, .u, .u, .u, .u, .u, .u, .u, .u, .u, .u, .u, .u, .u, .u, .u, .u, .u, .u, .u, .u, .u, .u, .u, .u, .u, .u], ofL [.row [.i .i64 h0_0, .i .i64 h0_1, .i .i64 h0_2, .s (some (1, 0)) h1.length] 0 0 true true none, .row (h1.map (V.i .u64)) 2 1 true true none], 2, 0⟩) ∧
    (∀ (n_0 : Int) (t_62 : Bool) (h0_0 : Int) (h0_1 : Int) (h0_2 : Int) (h1_0 : Int) (h1_1 : Int) (h2 : List Int) (h3 : List Int) (h4 : List Int) (r : Bool), gimballaw16_BalTriangles.j2 k n_0 t_62 h0_0 h0_1 h0_2 h2 h3 h4 = some r → kont E0 (gimballaw16_BalTriangles.Q a0 l1 r) (frs (bodyOf Try.f4) [1, 1, 1, 1, 1, 1, 1, 1, 0, 0] []) .normal ⟨[.i .i64 n_0, .u, .u, .u, .u, .u, .u, .u, .p (some (0, 0)), .p (some (1, 0)), .u, .u, .u, .u, .u, .u, .u, .u, .u, .u, .u, .u, .u, .u, .u, .u, .u, .u, .u, .u, .u, .u, .u, .u, .u, .u, .u, .u, .u, .u, .u, .u, .u, .u, .u, .u, .u, .u, .u, .u, .u, .u, .u, .u, .u, .u, .u, .u, .u, .u, .u, .u, .b t_62, .u, .u, .u, .u, .u, .u, .u, .u, .u, .u, .u, .u, .u, .u, .u, .u, .u, .u, .u, .u, .u, .u, .u, .u, .u, .u, .u, .u, .u, .u, .u, .u, .u, .u, .u, .u, .u, .u], ofL [.row [.i .i64 h0_0, .i .i64 h0_1, .i .i64 h0_2, .s (some (2, 0)) h2.length] 0 0 true true none, .row [.s (some (3, 0)) h3.length, .s (some (4, 0)) h4.length, .i .i64 h1_0, .i .i64 h1_1] 0 0 true true none, .row (h2.map (V.i .u64)) 2 1 true true none, .row (h3.map (V.i .i64)) 2 1 true true none, .row (h4.map (V.i .i64)) 2 1 true true none], 5, 0⟩) ∧
    (∀ (n_0 : Int) (i_12 : Int) (h0_0 : Int) (h0_1 : Int) (h0_2 : Int) (h1_0 : Int) (h1_1 : Int) (h2 : List (Int × Bool)) (h3 : List Int) (h4 : List Int) (h5 : List Int) (r : Bool), gimballaw16_BalTriangles.l2 k n_0 i_12 h0_0 h0_1 h0_2 h2 h3 h4 h5 = some r → wk_ E0 (gimballaw16_BalTriangles.Q a0 l1 r) (frs (bodyOf Try.f4) [1, 1, 1, 1, 1, 1, 1, 1, 1, 1, 0, 1, 0] []) (sub (bodyOf Try.f4) [1, 1, 1, 1, 1, 1, 1, 1, 1, 1, 0, 1, 0]) ⟨[.i .i64 n_0, .u, .u, .u, .u, .u, .u, .u, .p (some (0, 0)), .p (some (1, 0)), .u, .m 2, .i .i64 i_12, .u, .u, .u, .u, .u, .u, .u, .u, .u, .u, .u, .u, .u, .u, .u, .u, .u, .u, .u, .u, .u, .u, .u, .u, .u, .u, .u, .u, .u, .u, .u, .u, .u, .u, .u, .u, .u, .u, .u, .u, .u, .u, .u, .u, .u, .u, .u, .u, .u, .u, .u, .u, .u, .u, .u, .u, .u, .u, .u, .u, .u, .u, .u, .u, .u, .u, .u, .u, .u, .u, .u, .u, .u, .u, .u, .u, .u, .u, .u, .u, .u, .u, .u, .u, .u, .u, .u, .u], ofL [.row [.i .i64 h0_0, .i .i64 h0_1, .i .i64 h0_2, .s (some (3, 0)) h3.length] 0 0 true true none, .row [.s (some (4, 0)) h4.length, .s (some (5, 0)) h5.length, .i .i64 h1_0, .i .i64 h1_1] 0 0 true true none, .map (h2.map fun p => (.i .i64 p.1, .b p.2)), .row (h3.map (V.i .u64)) 2 1 true true none, .row (h4.map (V.i .i64)) 2 1 true true none, .row (h5.map (V.i .i64)) 2 1 true true none], 6, 0⟩) ∧
    (∀ (n_0 : Int) (i_12 : Int) (t_83 : Bool) (h0_0 : Int) (h0_1 : Int) (h0_2 : Int) (h1_0 : Int) (h1_1 : Int) (h2 : List (Int × Bool)) (h3 : List Int) (h4 : List Int) (h5 : List Int) (r : Bool), gimballaw16_BalTriangles.j4 k n_0 i_12 t_83 h0_0 h0_1 h0_2 h2 h3 h4 h5 = some r → kont E0 (gimballaw16_BalTriangles.Q a0 l1 r) (frs (bodyOf Try.f4) [1, 1, 1, 1, 1, 1, 1, 1, 1, 1, 0, 1, 0, 0, 1, 0, 0, 0, 0] []) .normal ⟨[.i .i64 n_0, .u, .u, .u, .u, .u, .u, .u, .p (some (0, 0)), .p (some (1, 0)), .u, .m 2, .i .i64 i_12, .u, .u, .u, .u, .u, .u, .u, .u, .u, .u, .u, .u, .u, .u, .u, .u, .u, .u, .u, .u, .u, .u, .u, .u, .u, .u, .u, .u, .u, .u, .u, .u, .u, .u, .u, .u, .u, .u, .u, .u, .u, .u, .u, .u, .u, .u, .u, .u, .u, .u, .u, .u, .u, .u, .u, .u, .u, .u, .u, .u, .u, .u, .u, .u, .u, .u, .u, .u, .u, .u, .b t_83, .u, .u, .u, .u, .u, .u, .u, .u, .u, .u, .u, .u, .u, .u, .u, .u, .u], ofL [.row [.i .i64 h0_0, .i .i64 h0_1, .i .i64 h0_2, .s (some (3, 0)) h3.length] 0 0 true true none, .row [.s (some (4, 0)) h4.length, .s (some (5, 0)) h5.length, .i .i64 h1_0, .i .i64 h1_1] 0 0 true true none, .map (h2.map fun p => (.i .i64 p.1, .b p.2)), .row (h3.map (V.i .u64)) 2 1 true true none, .row (h4.map (V.i .i64)) 2 1 true true none, .row (h5.map (V.i .i64)) 2 1 true true none], 6, 0⟩) ∧
    (∀ (n_0 : Int) (i_12 : Int) (k_13 : Int) (h0_0 : Int) (h0_1 : Int) (h0_2 : Int) (h1_0 : Int) (h1_1 : Int) (h2 : List (Int × Bool)) (h3 : List Int) (h4 : List Int) (h5 : List Int) (r : Bool), gimballaw16_BalTriangles.l3 k n_0 i_12 k_13 h0_0 h0_1 h0_2 h2 h3 h4 h5 = some r → wk_ E0 (gimballaw16_BalTriangles.Q a0 l1 r) (frs (bodyOf Try.f4) [1, 1, 1, 1, 1, 1, 1, 1, 1, 1, 0, 1, 0, 0, 1, 0, 0, 1, 1, 1, 0] []) (sub (bodyOf Try.f4) [1, 1, 1, 1, 1, 1, 1, 1, 1, 1, 0, 1, 0, 0, 1, 0, 0, 1, 1, 1, 0]) ⟨[.i .i64 n_0, .u, .u, .u, .u, .u, .u, .u, .p (some (0, 0)), .p (some (1, 0)), .u, .m 2, .i .i64 i_12, .i .i64 k_13, .u, .u, .u, .u, .u, .u, .u, .u, .u, .u, .u, .u, .u, .u, .u, .u, .u, .u, .u, .u, .u, .u, .u, .u, .u, .u, .u, .u, .u, .u, .u, .u, .u, .u, .u, .u, .u, .u, .u, .u, .u, .u, .u, .u, .u, .u, .u, .u, .u, .u, .u, .u, .u, .u, .u, .u, .u, .u, .u, .u, .u, .u, .u, .u, .u, .u, .u, .u, .u, .u, .u, .u, .u, .u, .u, .u, .u, .u, .u, .u, .u, .u, .u, .u, .u, .u, .u], ofL [.row [.i .i64 h0_0, .i .i64 h0_1, .i .i64 h0_2, .s (some (3, 0)) h3.length] 0 0 true true none, .row [.s (some (4, 0)) h4.length, .s (some (5, 0)) h5.length, .i .i64 h1_0, .i .i64 h1_1] 0 0 true true none, .map (h2.map fun p => (.i .i64 p.1, .b p.2)), .row (h3.map (V.i .u64)) 2 1 true true none, .row (h4.map (V.i .i64)) 2 1 true true none, .row (h5.map (V.i .i64)) 2 1 true true none], 6, 0⟩) := by
  induction k with
  | zero => exact ⟨fun _ _ _ _ _ _ r h => by simp [gimballaw16_BalTriangles.l0] at h, fun _ _ _ _ _ _ _ r h => by simp [gimballaw16_BalTriangles.l1] at h, fun _ _ _ _ _ _ _ _ _ _ r h => by simp [gimballaw16_BalTriangles.j2] at h, fun _ _ _ _ _ _ _ _ _ _ _ r h => by simp [gimballaw16_BalTriangles.l2] at h, fun _ _ _ _ _ _ _ _ _ _ _ _ r h => by simp [gimballaw16_BalTriangles.j4] at h, fun _ _ _ _ _ _ _ _ _ _ _ _ r h => by simp [gimballaw16_BalTriangles.l3] at h⟩
  | succ k ih =>
    obtain ⟨ih0, ih1, ih2, ih3, ih4, ih5⟩ := ih
    refine ⟨?_, ?_, ?_, ?_, ?_, ?_⟩
    · intro n_0 i_6 h0_0 h0_1 h0_2 h1 r H
      unfold gimballaw16_BalTriangles.l0 at H
      simp only [bodyOf, Try.f4, frs, sub, if_true, if_false, Nat.one_ne_zero]
      refine w_loop ?_
      refine w_seq ?_
      refine w_seq ?_
      refine wR fun K hK => ?_
      refine g_mv rfl rfl (gT ?_)
      refine g_mv rfl rfl (gT ?_)
      refine g_bin rfl rfl rfl rfl rfl (gT ?_)
      refine g_nil (hK _ _ _ ?_)
      refine k_seq ?_
      rcases its H with ⟨c4, H⟩ | ⟨c4, H⟩
      · have c4b := decide_eq_true c4; try simp only [c4b, nrm]
        refine w_cond rfl (fun _ => ?_) (fun h => Bool.noConfusion h)
        refine w_skip ?_
        refine k_seq ?_
        refine w_seq ?_
        refine w_block ?_
        refine w_seq ?_
        refine wR fun K hK => ?_
        refine g_as rfl rfl (gT ?_)
        refine g_nil (hK _ _ _ ?_)
        refine k_seq ?_
        refine w_block ?_
        refine w_wk (σ := [0, 1]) [0, 4, 0, 0] rfl (by decide) ?_; refine gC ?_
        exact gI (ih1 n_0 i_6 0 h0_0 h0_1 h0_2 h1 r H)
      · have c4b := decide_eq_false c4; try simp only [c4b, nrm]
        refine w_cond rfl (fun h => Bool.noConfusion h) (fun _ => ?_)
        refine w_exit rfl ?_
        refine k_seq ?_
        refine w_seq ?_
        refine w_seq ?_
        refine wR fun K hK => ?_
        refine g_lda rfl rfl ag26 sz26 rfl rfl (Nat.le_of_ble_eq_true rfl) (gT ?_)
        obtain ⟨q5, hq5, H⟩ := bnd H
        refine g_cs [] rfl rfl (by rfl) Try.func11 rfl (by decide) (mat_Matrix_Finite.does hq5) ⟨Nat.le_of_ble_eq_true rfl, Nat.le_of_ble_eq_true rfl⟩ ?_; refine gC ?_
        refine g_un rfl rfl rfl rfl (gT ?_)
        refine g_nil (hK _ _ _ ?_)
        refine k_seq ?_
        rcases its H with ⟨c6, H⟩ | ⟨c6, H⟩
        · have c6b : q5 = true := c6; try simp only [c6b, nrm]
          refine w_cond rfl (fun h => Bool.noConfusion h) (fun _ => ?_)
          refine w_skip ?_
          refine k_seq ?_
          refine w_seq ?_
          refine wR fun K hK => ?_
          refine g_lda rfl rfl ag26 sz26 rfl rfl (Nat.le_of_ble_eq_true rfl) (gT ?_)
          obtain ⟨q7, hq7, H⟩ := bnd H
          refine g_cs [] rfl rfl (by rfl) Try.func6 rfl (by decide) (bal_Of.does hq7) ⟨Nat.le_of_ble_eq_true rfl, Nat.le_of_ble_eq_true rfl⟩ ?_; refine gC ?_
          refine g_mv rfl rfl (gT ?_)
          refine g_ext rfl rfl rfl (Nat.le_of_ble_eq_true rfl) (gT ?_)
          refine g_ext rfl rfl rfl (Nat.le_of_ble_eq_true rfl) (gT ?_)
          refine g_ext rfl rfl rfl (Nat.le_of_ble_eq_true rfl) (gT ?_)
          refine g_alloc rfl rfl zr26 (gU ?_)
          refine g_alloc rfl rfl zr29 (gU ?_)
          refine g_st rfl rfl sz26 rfl rfl rfl (by rfl) (Nat.le_of_ble_eq_true rfl) (gU ?_)
          refine g_st rfl rfl sz29 rfl rfl rfl (by rfl) (Nat.le_of_ble_eq_true rfl) (gU ?_)
          refine g_as rfl rfl (gT ?_)
          refine g_nil (hK _ _ _ ?_)
          refine k_seq ?_
          refine w_seq ?_
          refine w_seq ?_
          refine wR fun K hK => ?_
          refine g_mv rfl rfl (gT ?_)
          refine g_bin rfl rfl rfl rfl rfl (gT ?_)
          refine g_mv rfl rfl (gT ?_)
          rcases its H with ⟨c8, H⟩ | ⟨c8, H⟩
          · have c8b := beq_iff_eq.mpr c8; have c8n := bne_eq_false_iff_eq.mpr c8; try simp only [c8b, c8n, nrm]
            refine g_fd rfl rfl fa29_2 rfl (gT ?_)
            refine g_ldc rfl rfl ag3 sz3 rfl rfl rfl (gT ?_)
            refine g_fd rfl rfl fa29_3 rfl (gT ?_)
            refine g_ldc rfl rfl ag3 sz3 rfl rfl rfl (gT ?_)
            refine g_bin rfl rfl rfl rfl rfl (gT ?_)
            refine g_pick rfl rfl rfl (gT ?_)
            refine g_mv rfl rfl (gT ?_)
            rcases its H with ⟨c9, H⟩ | ⟨c9, H⟩
            · have c9b := beq_iff_eq.mpr c9; have c9n := bne_eq_false_iff_eq.mpr c9; try simp only [c9b, c9n, nrm]
              refine g_fd rfl rfl fa29_1 rfl (gT ?_)
              refine g_ldc rfl rfl ag27 sz27 rfl rfl rfl (gT ?_)
              refine g_len_s rfl rfl Try.underlying27 rfl (gT ?_)
              refine g_mv rfl rfl (gT ?_)
              refine g_bin rfl rfl rfl rfl rfl (gT ?_)
              refine g_pick rfl rfl rfl (gT ?_)
              refine g_nil (hK _ _ _ ?_)
              refine k_wk (σ := [50, 54, 30, 31, 32]) [0, 7, 0, 52] rfl (by decide) rfl ?_; refine gC ?_
              exact gI (ih2 n_0 ((q7.2.2.2.2.2.1.length : Int) != n_0) q7.1 q7.2.1 q7.2.2.1 q7.2.2.2.2.2.2.1 q7.2.2.2.2.2.2.2.1 q7.2.2.2.1 q7.2.2.2.2.1 q7.2.2.2.2.2.1 r H)
            · have c9b := beq_eq_false_iff_ne.mpr c9; have c9n := bne_iff_ne.mpr c9; try simp only [c9b, c9n, nrm]
              refine g_sk rfl rfl (gT ?_)
              refine g_sk rfl rfl (gT ?_)
              refine g_sk rfl rfl (gT ?_)
              refine g_sk rfl rfl (gT ?_)
              refine g_sk rfl rfl (gT ?_)
              refine g_pick rfl rfl rfl (gT ?_)
              refine g_nil (hK _ _ _ ?_)
              refine k_wk (σ := [50, 54, 30, 31, 32]) [0, 7, 0, 52] rfl (by decide) rfl ?_; refine gC ?_
              exact gI (ih2 n_0 true q7.1 q7.2.1 q7.2.2.1 q7.2.2.2.2.2.2.1 q7.2.2.2.2.2.2.2.1 q7.2.2.2.1 q7.2.2.2.2.1 q7.2.2.2.2.2.1 r H)
          · have c8b := beq_eq_false_iff_ne.mpr c8; have c8n := bne_iff_ne.mpr c8; try simp only [c8b, c8n, nrm]
            refine g_sk rfl rfl (gT ?_)
            refine g_sk rfl rfl (gT ?_)
            refine g_sk rfl rfl (gT ?_)
            refine g_sk rfl rfl (gT ?_)
            refine g_sk rfl rfl (gT ?_)
            refine g_pick rfl rfl rfl (gT ?_)
            refine g_mv rfl rfl (gT ?_)
            refine g_sk rfl rfl (gT ?_)
            refine g_sk rfl rfl (gT ?_)
            refine g_sk rfl rfl (gT ?_)
            refine g_sk rfl rfl (gT ?_)
            refine g_sk rfl rfl (gT ?_)
            refine g_pick rfl rfl rfl (gT ?_)
            refine g_nil (hK _ _ _ ?_)
            refine k_wk (σ := [50, 54, 30, 31, 32]) [0, 7, 0, 52] rfl (by decide) rfl ?_; refine gC ?_
            exact gI (ih2 n_0 true q7.1 q7.2.1 q7.2.2.1 q7.2.2.2.2.2.2.1 q7.2.2.2.2.2.2.2.1 q7.2.2.2.1 q7.2.2.2.2.1 q7.2.2.2.2.2.1 r H)
        · have c6b : q5 = false := Bool.eq_false_iff.mpr c6; try simp only [c6b, nrm]
          refine w_cond rfl (fun _ => ?_) (fun h => Bool.noConfusion h)
          refine w_seq ?_
          refine wR fun K hK => ?_
          refine g_as rfl rfl (gT ?_)
          refine g_nil (hK _ _ _ ?_)
          refine k_seq ?_
          refine w_ret ?_
          refine fin_wp (τ := []) rfl (by decide) ?_; rw [← Option.some.inj H]; simp only [Try.f4]; exact gF
    · intro n_0 i_6 k_7 h0_0 h0_1 h0_2 h1 r H
      unfold gimballaw16_BalTriangles.l1 at H
      simp only [bodyOf, Try.f4, frs, sub, if_true, if_false, Nat.one_ne_zero]
      refine w_loop ?_
      refine w_seq ?_
      refine w_seq ?_
      refine wR fun K hK => ?_
      refine g_mv rfl rfl (gT ?_)
      refine g_mv rfl rfl (gT ?_)
      refine g_bin rfl rfl rfl rfl rfl (gT ?_)
      refine g_nil (hK _ _ _ ?_)
      refine k_seq ?_
      rcases its H with ⟨c10, H⟩ | ⟨c10, H⟩
      · have c10b := decide_eq_true c10; try simp only [c10b, nrm]
        refine w_cond rfl (fun _ => ?_) (fun h => Bool.noConfusion h)
        refine w_skip ?_
        refine k_seq ?_
        refine w_seq ?_
        refine w_block ?_
        refine wR fun K hK => ?_
        refine g_lda rfl rfl ag26 sz26 rfl rfl (Nat.le_of_ble_eq_true rfl) (gT ?_)
        refine g_mv rfl rfl (gT ?_)
        refine g_mv rfl rfl (gT ?_)
        obtain ⟨q11, hq11, H⟩ := bnd H
        have zq11_0 := mat_Matrix_Set.len hq11
        (try simp only [List.length_set, List.length_replicate, List.length_append, List.length_cons, List.length_nil, Nat.zero_add] at zq11_0)
        refine g_cs [1] rfl rfl (by rfl) Try.func10 rfl (by decide) (mat_Matrix_Set.does hq11) ⟨Nat.le_of_ble_eq_true rfl, Nat.le_of_ble_eq_true rfl⟩ ?_; simp only [nrm, nrmw, nrmc, nrme, nrmo, nrml, nrmb, nrmx, Nat.reduceEqDiff, Nat.reduceBEq, Nat.zero_add, Nat.add_zero, Nat.mul_one, List.length_cons, List.length_nil, List.length_map, List.length_set, List.length_replicate, List.drop_zero, List.drop_succ_cons, List.drop_nil, List.take_zero, List.take_succ_cons, List.take_nil, Nat.le_refl, if_true, if_false, Option.any_none, Option.any_some, List.contains_nil, Bool.not_false, Bool.or_true, Bool.true_or, Bool.or_false, Bool.false_or, Bool.and_true, Bool.true_and, Bool.and_self, reduceCtorEq, beq_self_eq_true, List.map_cons, List.map_nil, List.append_nil, List.nil_append, List.contains_cons, List.filter_cons, List.filter_nil, List.cons_append, Bool.false_eq_true, true_and, and_true, List.getElem_toArray, List.getElem_cons_zero, List.getElem_cons_succ, Nat.reduceAdd, Nat.reduceMul, Nat.reduceLT, Nat.reduceSub, Nat.reduceLeDiff, ← zq11_0]
        refine g_nil (hK _ _ _ ?_)
        refine k_block ?_
        refine k_seq ?_
        refine wR fun K hK => ?_
        refine g_mv rfl rfl (gT ?_)
        refine g_bin rfl rfl rfl rfl rfl (gT ?_)
        refine g_as rfl rfl (gT ?_)
        refine g_nil (hK _ _ _ ?_)
        refine k_loop ?_
        refine w_wk (σ := [0, 1]) [0, 4, 0, 0] rfl (by decide) ?_; refine gC ?_
        exact gI (ih1 n_0 i_6 (wrap64 (k_7 + 1)) h0_0 h0_1 h0_2 q11 r H)
      · have c10b := decide_eq_false c10; try simp only [c10b, nrm]
        refine w_cond rfl (fun h => Bool.noConfusion h) (fun _ => ?_)
        refine w_exit rfl ?_
        refine k_block ?_
        refine k_seq ?_
        refine wR fun K hK => ?_
        refine g_mv rfl rfl (gT ?_)
        refine g_bin rfl rfl rfl rfl rfl (gT ?_)
        refine g_as rfl rfl (gT ?_)
        refine g_nil (hK _ _ _ ?_)
        refine k_loop ?_
        refine w_wk (σ := [0, 1]) [0, 4, 0] rfl (by decide) ?_; refine gC ?_
        exact gI (ih0 n_0 (wrap64 (i_6 + 1)) h0_0 h0_1 h0_2 h1 r H)
    · intro n_0 t_62 h0_0 h0_1 h0_2 h1_0 h1_1 h2 h3 h4 r H
      unfold gimballaw16_BalTriangles.j2 at H
      simp only [bodyOf, Try.f4, frs, sub, if_true, if_false, Nat.one_ne_zero]
      refine k_seq ?_
      rcases its H with ⟨c12, H⟩ | ⟨c12, H⟩
      · have c12b : t_62 = true := c12; try simp only [c12b, nrm]
        refine w_cond rfl (fun _ => ?_) (fun h => Bool.noConfusion h)
        refine w_seq ?_
        refine wR fun K hK => ?_
        refine g_as rfl rfl (gT ?_)
        refine g_nil (hK _ _ _ ?_)
        refine k_seq ?_
        refine w_ret ?_
        refine fin_wp (τ := []) rfl (by decide) ?_; rw [← Option.some.inj H]; simp only [Try.f4]; exact gF
      · have c12b : t_62 = false := Bool.eq_false_iff.mpr c12; try simp only [c12b, nrm]
        refine w_cond rfl (fun h => Bool.noConfusion h) (fun _ => ?_)
        refine w_skip ?_
        refine k_seq ?_
        refine w_seq ?_
        refine wR fun K hK => ?_
        refine g_mm rfl rfl (gU ?_)
        refine g_as rfl rfl (gT ?_)
        refine g_nil (hK _ _ _ ?_)
        refine k_seq ?_
        refine w_seq ?_
        refine w_seq ?_
        refine wR fun K hK => ?_
        refine g_as rfl rfl (gT ?_)
        refine g_nil (hK _ _ _ ?_)
        refine k_seq ?_
        refine w_block ?_
        refine w_wk (σ := [0, 1, 5, 2, 3, 4]) [0, 7, 0, 1, 0] rfl (by decide) ?_; refine gC ?_
        exact gI (ih3 n_0 0 h0_0 h0_1 h0_2 h1_0 h1_1 ([] : List (Int × Bool)) h2 h3 h4 r H)
    · intro n_0 i_12 h0_0 h0_1 h0_2 h1_0 h1_1 h2 h3 h4 h5 r H
      unfold gimballaw16_BalTriangles.l2 at H
      simp only [bodyOf, Try.f4, frs, sub, if_true, if_false, Nat.one_ne_zero]
      refine w_loop ?_
      refine w_seq ?_
      refine w_seq ?_
      refine wR fun K hK => ?_
      refine g_mv rfl rfl (gT ?_)
      refine g_mv rfl rfl (gT ?_)
      refine g_bin rfl rfl rfl rfl rfl (gT ?_)
      refine g_nil (hK _ _ _ ?_)
      refine k_seq ?_
      rcases its H with ⟨c13, H⟩ | ⟨c13, H⟩
      · have c13b := decide_eq_true c13; try simp only [c13b, nrm]
        refine w_cond rfl (fun _ => ?_) (fun h => Bool.noConfusion h)
        refine w_skip ?_
        refine k_seq ?_
        refine w_seq ?_
        refine w_block ?_
        refine w_seq ?_
        refine w_seq ?_
        refine wR fun K hK => ?_
        refine g_fd rfl rfl fa29_1 rfl (gT ?_)
        refine g_ldc rfl rfl ag27 sz27 rfl rfl rfl (gT ?_)
        refine g_mv rfl rfl (gT ?_)
        obtain ⟨c14, H⟩ := it1 H
        obtain ⟨c15, H⟩ := it1 H
        refine g_ixo rfl rfl Try.underlying27 sz3 rfl rfl (by first | assumption | omega) (by first | assumption | omega | (simp only [List.length_set, List.length_replicate] at *; omega)) (gT ?_)
        refine g_ldo rfl rfl ag3 sz3 rfl rfl (by first | assumption | omega | (simp only [List.length_set, List.length_replicate] at *; omega)) (gT ?_)
        refine g_bin rfl rfl rfl rfl rfl (gT ?_)
        refine g_mv rfl rfl (gT ?_)
        rcases its H with ⟨c16, H⟩ | ⟨c16, H⟩
        · have c16b := beq_iff_eq.mpr c16; have c16n := bne_eq_false_iff_eq.mpr c16; try simp only [c16b, c16n, nrm]
          refine g_mv rfl rfl (gT ?_)
          refine g_fd rfl rfl fa29_0 rfl (gT ?_)
          refine g_ldc rfl rfl ag27 sz27 rfl rfl rfl (gT ?_)
          refine g_mv rfl rfl (gT ?_)
          obtain ⟨c17, H⟩ := it1 H
          refine g_ixo rfl rfl Try.underlying27 sz3 rfl rfl (by first | assumption | omega) (by first | assumption | omega | (simp only [List.length_set, List.length_replicate] at *; omega)) (gT ?_)
          refine g_ldo rfl rfl ag3 sz3 rfl rfl (by first | assumption | omega | (simp only [List.length_set, List.length_replicate] at *; omega)) (gT ?_)
          refine g_lk rfl rfl Try.underlying38 Try.underlying3 zo4 rfl rfl rfl (gT ?_)
          refine g_pick rfl rfl rfl (gT ?_)
          refine g_nil (hK _ _ _ ?_)
          refine k_wk (σ := [0, 1, 2, 3, 4, 5]) [0, 7, 0, 1, 0, 70] rfl (by decide) rfl ?_; refine gC ?_
          exact gI (ih4 n_0 i_12 (mget h2 (rd h4 i_12)) h0_0 h0_1 h0_2 h1_0 h1_1 h2 h3 h4 h5 r H)
        · have c16b := beq_eq_false_iff_ne.mpr c16; have c16n := bne_iff_ne.mpr c16; try simp only [c16b, c16n, nrm]
          refine g_sk rfl rfl (gT ?_)
          refine g_sk rfl rfl (gT ?_)
          refine g_sk rfl rfl (gT ?_)
          refine g_sk rfl rfl (gT ?_)
          refine g_sk rfl rfl (gT ?_)
          refine g_sk rfl rfl (gT ?_)
          refine g_sk rfl rfl (gT ?_)
          refine g_pick rfl rfl rfl (gT ?_)
          refine g_nil (hK _ _ _ ?_)
          refine k_wk (σ := [0, 1, 2, 3, 4, 5]) [0, 7, 0, 1, 0, 70] rfl (by decide) rfl ?_; refine gC ?_
          exact gI (ih4 n_0 i_12 true h0_0 h0_1 h0_2 h1_0 h1_1 h2 h3 h4 h5 r H)
      · have c13b := decide_eq_false c13; try simp only [c13b, nrm]
        refine w_cond rfl (fun h => Bool.noConfusion h) (fun _ => ?_)
        refine w_exit rfl ?_
        refine k_seq ?_
        refine w_seq ?_
        refine wR fun K hK => ?_
        refine g_as rfl rfl (gT ?_)
        refine g_nil (hK _ _ _ ?_)
        refine k_seq ?_
        refine w_ret ?_
        refine fin_wp (τ := []) rfl (by decide) ?_; rw [← Option.some.inj H]; simp only [Try.f4]; exact gF
    · intro n_0 i_12 t_83 h0_0 h0_1 h0_2 h1_0 h1_1 h2 h3 h4 h5 r H
      unfold gimballaw16_BalTriangles.j4 at H
      simp only [bodyOf, Try.f4, frs, sub, if_true, if_false, Nat.one_ne_zero]
      refine k_seq ?_
      rcases its H with ⟨c18, H⟩ | ⟨c18, H⟩
      · have c18b : t_83 = true := c18; try simp only [c18b, nrm]
        refine w_cond rfl (fun _ => ?_) (fun h => Bool.noConfusion h)
        refine w_seq ?_
        refine wR fun K hK => ?_
        refine g_as rfl rfl (gT ?_)
        refine g_nil (hK _ _ _ ?_)
        refine k_seq ?_
        refine w_ret ?_
        refine fin_wp (τ := []) rfl (by decide) ?_; rw [← Option.some.inj H]; simp only [Try.f4]; exact gF
      · have c18b : t_83 = false := Bool.eq_false_iff.mpr c18; try simp only [c18b, nrm]
        refine w_cond rfl (fun h => Bool.noConfusion h) (fun _ => ?_)
        refine w_skip ?_
        refine k_seq ?_
        refine w_seq ?_
        refine wR fun K hK => ?_
        refine g_mv rfl rfl (gT ?_)
        refine g_fd rfl rfl fa29_0 rfl (gT ?_)
        refine g_ldc rfl rfl ag27 sz27 rfl rfl rfl (gT ?_)
        refine g_mv rfl rfl (gT ?_)
        obtain ⟨c19, H⟩ := it1 H
        obtain ⟨c20, H⟩ := it1 H
        refine g_ixo rfl rfl Try.underlying27 sz3 rfl rfl (by first | assumption | omega) (by first | assumption | omega | (simp only [List.length_set, List.length_replicate] at *; omega)) (gT ?_)
        refine g_ldo rfl rfl ag3 sz3 rfl rfl (by first | assumption | omega | (simp only [List.length_set, List.length_replicate] at *; omega)) (gT ?_)
        refine g_mu rfl rfl Try.underlying38 Try.underlying3 rfl rfl rfl rfl (gU ?_)
        refine g_nil (hK _ _ _ ?_)
        refine k_seq ?_
        refine w_seq ?_
        refine wR fun K hK => ?_
        refine g_as rfl rfl (gT ?_)
        refine g_nil (hK _ _ _ ?_)
        refine k_seq ?_
        refine w_block ?_
        refine w_wk (σ := [0, 1, 2, 3, 4, 5]) [0, 7, 0, 1, 0, 0] rfl (by decide) ?_; refine gC ?_
        exact gI (ih5 n_0 i_12 0 h0_0 h0_1 h0_2 h1_0 h1_1 (mput h2 (rd h4 i_12) true) h3 h4 h5 r H)
    · intro n_0 i_12 k_13 h0_0 h0_1 h0_2 h1_0 h1_1 h2 h3 h4 h5 r H
      unfold gimballaw16_BalTriangles.l3 at H
      simp only [bodyOf, Try.f4, frs, sub, if_true, if_false, Nat.one_ne_zero]
      refine w_loop ?_
      refine w_seq ?_
      refine w_seq ?_
      refine wR fun K hK => ?_
      refine g_mv rfl rfl (gT ?_)
      refine g_mv rfl rfl (gT ?_)
      refine g_bin rfl rfl rfl rfl rfl (gT ?_)
      refine g_nil (hK _ _ _ ?_)
      refine k_seq ?_
      rcases its H with ⟨c21, H⟩ | ⟨c21, H⟩
      · have c21b := decide_eq_true c21; try simp only [c21b, nrm]
        refine w_cond rfl (fun _ => ?_) (fun h => Bool.noConfusion h)
        refine w_skip ?_
        refine k_seq ?_
        refine w_seq ?_
        refine w_block ?_
        refine w_seq ?_
        refine wR fun K hK => ?_
        refine g_lda rfl rfl ag26 sz26 rfl rfl (Nat.le_of_ble_eq_true rfl) (gT ?_)
        refine g_mv rfl rfl (gT ?_)
        refine g_mv rfl rfl (gT ?_)
        obtain ⟨q22, hq22, H⟩ := bnd H
        refine g_cs [] rfl rfl (by rfl) Try.func9 rfl (by decide) (mat_Matrix_At.does hq22) ⟨Nat.le_of_ble_eq_true rfl, Nat.le_of_ble_eq_true rfl⟩ ?_; refine gC ?_
        obtain ⟨q23, hq23, H⟩ := bnd H
        refine g_cs [] rfl rfl (by rfl) Try.func8 rfl (by decide) (word_Abs.does hq23) ⟨Nat.le_of_ble_eq_true rfl, Nat.le_of_ble_eq_true rfl⟩ ?_; refine gC ?_
        refine g_bin rfl rfl rfl rfl rfl (gT ?_)
        refine g_nil (hK _ _ _ ?_)
        refine k_seq ?_
        rcases its H with ⟨c24, H⟩ | ⟨c24, H⟩
        · have c24b := beq_iff_eq.mpr c24; have c24n := bne_eq_false_iff_eq.mpr c24; try simp only [c24b, c24n, nrm]
          refine w_cond rfl (fun h => Bool.noConfusion h) (fun _ => ?_)
          refine w_skip ?_
          refine k_block ?_
          refine k_seq ?_
          refine wR fun K hK => ?_
          refine g_mv rfl rfl (gT ?_)
          refine g_bin rfl rfl rfl rfl rfl (gT ?_)
          refine g_as rfl rfl (gT ?_)
          refine g_nil (hK _ _ _ ?_)
          refine k_loop ?_
          refine w_wk (σ := [0, 1, 2, 3, 4, 5]) [0, 7, 0, 1, 0, 0] rfl (by decide) ?_; refine gC ?_
          exact gI (ih5 n_0 i_12 (wrap64 (k_13 + 1)) h0_0 h0_1 h0_2 h1_0 h1_1 h2 h3 h4 h5 r H)
        · have c24b := beq_eq_false_iff_ne.mpr c24; have c24n := bne_iff_ne.mpr c24; try simp only [c24b, c24n, nrm]
          refine w_cond rfl (fun _ => ?_) (fun h => Bool.noConfusion h)
          refine w_seq ?_
          refine wR fun K hK => ?_
          refine g_as rfl rfl (gT ?_)
          refine g_nil (hK _ _ _ ?_)
          refine k_seq ?_
          refine w_ret ?_
          refine fin_wp (τ := []) rfl (by decide) ?_; rw [← Option.some.inj H]; simp only [Try.f4]; exact gF
      · have c21b := decide_eq_false c21; try simp only [c21b, nrm]
        refine w_cond rfl (fun h => Bool.noConfusion h) (fun _ => ?_)
        refine w_exit rfl ?_
        refine k_block ?_
        refine k_seq ?_
        refine wR fun K hK => ?_
        refine g_mv rfl rfl (gT ?_)
        refine g_bin rfl rfl rfl rfl rfl (gT ?_)
        refine g_as rfl rfl (gT ?_)
        refine g_nil (hK _ _ _ ?_)
        refine k_loop ?_
        refine w_wk (σ := [0, 1, 2, 3, 4, 5]) [0, 7, 0, 1, 0] rfl (by decide) ?_; refine gC ?_
        exact gI (ih3 n_0 (wrap64 (i_12 + 1)) h0_0 h0_1 h0_2 h1_0 h1_1 h2 h3 h4 h5 r H)
set_option maxHeartbeats 8000000 in
set_option maxRecDepth 100000 in
theorem gimballaw16_BalTriangles.does {k : Nat} {a0 : Int} {l1 : List Int} {r : Bool} (H : gimballaw16_BalTriangles.f k a0 l1 = some r) : Do E0 (.fn 4 [.i .i64 a0, .r (l1.map (V.i .u64)) l1.length true] [] (.b r) []) := by
  obtain ⟨ih0, ih1, ih2, ih3, ih4, ih5⟩ := gimballaw16_BalTriangles.does_l (a0 := a0) (l1 := l1) k
  refine fn_wpl Try.func4 rfl (Q := (gimballaw16_BalTriangles.Q a0 l1 r)) (fun s h => h) ?_
  unfold gimballaw16_BalTriangles.f at H
  simp only [Try.ntmps4, List.length, List.replicate, Nat.reduceAdd, Nat.reduceSub, List.cons_append, List.nil_append]
  refine w_seq ?_
  refine wR fun K hK => ?_
  refine g_as rfl rfl (gT ?_)
  refine g_nil (hK _ _ _ ?_)
  refine k_seq ?_
  refine w_seq ?_
  refine w_seq ?_
  refine wR fun K hK => ?_
  obtain ⟨q1, hq1, H⟩ := bnd H
  refine g_cs [] rfl rfl (by rfl) Try.func5 rfl (by decide) (gimballaw16_head_ok.does hq1) ⟨Nat.le_of_ble_eq_true rfl, Nat.le_of_ble_eq_true rfl⟩ ?_; refine gC ?_
  refine g_un rfl rfl rfl rfl (gT ?_)
  refine g_nil (hK _ _ _ ?_)
  refine k_seq ?_
  refine w_cond rfl (fun h => Bool.noConfusion h) (fun _ => ?_)
  refine w_skip ?_
  refine k_seq ?_
  refine w_seq ?_
  refine w_seq ?_
  refine wR fun K hK => ?_
  refine g_mv rfl rfl (gT ?_)
  refine g_len_r rfl rfl Try.underlying22 rfl (gT ?_)
  refine g_bin rfl rfl rfl rfl rfl (gT ?_)
  refine g_nil (hK _ _ _ ?_)
  refine k_seq ?_
  rcases its H with ⟨c2, H⟩ | ⟨c2, H⟩
  · have c2b := decide_eq_true c2; try simp only [c2b, nrm]
    refine w_cond rfl (fun _ => ?_) (fun h => Bool.noConfusion h)
    refine w_seq ?_
    refine wR fun K hK => ?_
    refine g_as rfl rfl (gT ?_)
    refine g_nil (hK _ _ _ ?_)
    refine k_seq ?_
    refine w_ret ?_
    refine fin_wp (τ := []) rfl (by decide) ?_; rw [← Option.some.inj H]; simp only [Try.f4]; exact gF
  · have c2b := decide_eq_false c2; try simp only [c2b, nrm]
    refine w_cond rfl (fun h => Bool.noConfusion h) (fun _ => ?_)
    refine w_skip ?_
    refine k_seq ?_
    refine w_seq ?_
    refine wR fun K hK => ?_
    refine g_mv rfl rfl (gT ?_)
    refine g_bin rfl rfl rfl rfl rfl (gT ?_)
    refine g_as rfl rfl (gT ?_)
    refine g_nil (hK _ _ _ ?_)
    refine k_seq ?_
    refine w_seq ?_
    refine wR fun K hK => ?_
    refine g_mv rfl rfl (gT ?_)
    refine g_mv rfl rfl (gT ?_)
    obtain ⟨q3, hq3, H⟩ := bnd H
    refine g_cs [] rfl rfl (by rfl) Try.func7 rfl (by decide) (gimballaw16_made.does hq3) ⟨Nat.le_of_ble_eq_true rfl, Nat.le_of_ble_eq_true rfl⟩ ?_; refine gC ?_
    refine g_alloc rfl rfl zr26 (gU ?_)
    refine g_st rfl rfl sz26 rfl rfl rfl (by rfl) (Nat.le_of_ble_eq_true rfl) (gU ?_)
    refine g_nil (hK _ _ _ ?_)
    refine k_seq ?_
    refine w_seq ?_
    refine w_seq ?_
    refine wR fun K hK => ?_
    refine g_as rfl rfl (gT ?_)
    refine g_nil (hK _ _ _ ?_)
    refine k_seq ?_
    refine w_block ?_
    refine w_wk (σ := [48, 44]) [0, 4, 0] rfl (by decide) ?_; refine gC ?_
    exact gI (ih0 (Go.bits .and .i64 a0 7) 0 q3.1 q3.2.1 q3.2.2.1 q3.2.2.2 r H)

end Go.Proofs.Ytlhpejbmjbcmaaa.F
namespace Go.Proofs.Ytlhpejbmjbcmaaa.F
open Go Go.RowKit Go.Proofs.YtlhpejbmjbcmaaaW.PrintWords
open Go.Rk hiding Rd
set_option linter.unusedVariables false
set_option maxRecDepth 100000
def sub64Entry_ : Array Value → Sem Value := fun args => do
  let (x, y, b) ← Extern.MathBitsCarry.three "Sub64" args
  pure (Extern.MathBitsCarry.pair ((x + Extern.MathBitsCarry.m64 - y - b) % Extern.MathBitsCarry.m64) (if x < y + b then 1 else 0))
theorem run_sub64_ {P : Program} (x y b : Nat) (hb : b ≤ 1) (w : World) :
    (sub64Entry_ #[.int .u64 x, .int .u64 y, .int .u64 b]).run P w =
      .ok (.tuple #[.int .u64 (((x + 18446744073709551616 - y - b) % 18446744073709551616 : Nat) : Int), .int .u64 ((if x < y + b then 1 else 0 : Nat) : Int)]) w := by
  have : b = 0 ∨ b = 1 := by omega
  rcases this with rfl | rfl <;> rfl
theorem vs3 {ι : Io} {μ : Mu} {k k' k'' : IntKind} {x y c : Int} {args' : List Value} (h : Vs ι μ [.i k x, .i k' y, .i k'' c] args') : args' = [.int k x, .int k' y, .int k'' c] := by
  obtain ⟨a, l, rfl, ha, h⟩ := h.head
  obtain ⟨b, l, rfl, hb, h⟩ := h.head
  obtain ⟨d, l, rfl, hd, h⟩ := h.head
  rw [h.nil', ha.i_inv, hb.i_inv, hd.i_inv]
theorem vr2 {ι : Io} {μ : Mu} {x y : Int} : VR ι μ (.t [.i .u64 x, .i .u64 y]) (.tuple #[.int .u64 x, .int .u64 y]) :=
  .t (cs := [.int .u64 x, .int .u64 y]) rfl fun j hj => by
    match j, hj with
    | 0, _ => exact .c .i
    | 1, _ => exact .c .i
theorem envOk : EnvOk E0 where
  mixed := by kernel_rfl
  noNG := by
    intro f fn h
    have h0 : (Try.prog.funcs.toList.all fun fn => !(fn.name == "runtime.NumGoroutine")) = true := by kernel_rfl
    have h1 : fn ∈ Try.prog.funcs.toList := by
      have h : Try.prog.funcs[f]? = some fn := h
      exact Array.mem_toList_iff.2 (Array.mem_of_getElem? h)
    have := List.all_eq_true.1 h0 fn h1
    simpa using this
  ext := by
    intro f fn args args' ι μ w v hf hb he hv
    simp only [E0] at he
    split at he
    · rename_i e; subst e
      unfold addX at he
      split at he
      · split at he
        · rename_i hc
          cases he
          obtain ⟨c1, c2, c3, c4⟩ := hc
          rw [vs3 hv]
          refine ⟨_, ?_, vr2⟩
          show (callFunc 41 #[_, _, _]).run Try.prog w = _
          rw [run_callFunc_extern Try.func41 (by kernel_rfl) (by kernel_rfl) (by kernel_rfl) (e := add64Entry) (by kernel_rfl), run_add64 _ _ _ c1 c2 c3 c4]
          rfl
        · cases he
      · cases he
    · split at he
      · rename_i e; subst e
        unfold subX at he
        split at he
        · split at he
          · rename_i x y c hc
            cases he
            obtain ⟨c1, c2, c5, c3, c4⟩ := hc
            rw [vs3 hv]
            obtain ⟨x, rfl⟩ := Int.eq_ofNat_of_zero_le c1
            obtain ⟨y, rfl⟩ := Int.eq_ofNat_of_zero_le c2
            obtain ⟨b, rfl⟩ := Int.eq_ofNat_of_zero_le c3
            have e1 : (((x + 18446744073709551616 - y - b) % 18446744073709551616 : Nat) : Int) = ((x : Int) - y - b) % 18446744073709551616 := by omega
            have e2 : ((if x < y + b then 1 else 0 : Nat) : Int) = if (x : Int) < y + b then 1 else 0 := by split <;> split <;> omega
            rw [← e1, ← e2]
            refine ⟨_, ?_, vr2⟩
            show (callFunc 42 #[_, _, _]).run Try.prog w = _
            rw [run_callFunc_extern Try.func42 (by kernel_rfl) (by kernel_rfl) (by kernel_rfl) (e := sub64Entry_) (by kernel_rfl), run_sub64_ x y b (by omega)]
            rfl
          · cases he
        · cases he
      · cases he
end Go.Proofs.Ytlhpejbmjbcmaaa.F
