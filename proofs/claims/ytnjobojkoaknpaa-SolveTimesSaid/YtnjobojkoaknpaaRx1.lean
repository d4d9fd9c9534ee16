/- Texts of this claim, one behind the other: the functions, and that the machine does what they say. -/
import Derived.Test.YtnjobojkoaknpaaRx0
set_option linter.constructorNameAsVariable false
set_option linter.unusedSimpArgs false
set_option linter.unusedVariables false
set_option linter.unusedSectionVars false
namespace Go.Proofs.Ytnjobojkoaknpaa.F
open Go Go.RowKit Go.Proofs.YtnjobojkoaknpaaW.PrintWords
open Go.Rk hiding Rd
set_option linter.unusedVariables false
set_option linter.unusedSimpArgs false
set_option maxRecDepth 100000
set_option maxHeartbeats 8000000 in
set_option maxRecDepth 100000 in
theorem soft_Add.does_l {a0 : Int} {a1 : Int} (k : Nat) : (∀ (a_0 : Int) (b_1 : Int) (x_9 : Int) (y_10 : Int) (t_37 : Bool) (r : Int × Int), soft_Add.j0 k a_0 b_1 x_9 y_10 t_37 = some r → kont E0 (soft_Add.Q a0 a1 r) (frs (bodyOf Try.f37) [1, 1, 1, 0, 0, 0] []) .normal ⟨[.i .u64 a_0, .i .u64 b_1, .u, .u, .u, .u, .u, .u, .u, .i .i64 x_9, .i .i64 y_10, .u, .u, .u, .u, .u, .u, .u, .u, .u, .u, .u, .u, .u, .u, .u, .u, .u, .u, .u, .u, .u, .u, .u, .u, .u, .u, .b t_37, .u, .u, .u, .u, .u, .u, .u, .u, .u, .u, .u, .u, .u, .u, .u, .u, .u, .u, .u, .u, .u, .u, .u, .u, .u, .u, .u, .u, .u, .u, .u, .u, .u, .u, .u, .u, .u, .u, .u, .u, .u, .u, .u, .u, .u, .u, .u, .u, .u, .u, .u, .u, .u, .u, .u, .u, .u, .u, .u, .u, .u, .u, .u, .u, .u, .u, .u, .u, .u, .u, .u, .u, .u, .u, .u, .u, .u, .u, .u, .u, .u, .u, .u, .u, .u, .u, .u, .u, .u, .u, .u, .u, .u, .u, .u, .u, .u, .u, .u, .u, .u, .u, .u, .u, .u, .u, .u, .u, .u, .u, .u, .u, .u, .u, .u], ofL [], 0, 0⟩) ∧
    (∀ (a_0 : Int) (b_1 : Int) (x_9 : Int) (y_10 : Int) (t_57 : Bool) (r : Int × Int), soft_Add.j1 k a_0 b_1 x_9 y_10 t_57 = some r → kont E0 (soft_Add.Q a0 a1 r) (frs (bodyOf Try.f37) [1, 1, 1, 0, 0, 1, 1, 1, 1, 1, 1, 0] []) .normal ⟨[.i .u64 a_0, .i .u64 b_1, .u, .u, .u, .u, .u, .u, .u, .i .i64 x_9, .i .i64 y_10, .u, .u, .u, .u, .u, .u, .u, .u, .u, .u, .u, .u, .u, .u, .u, .u, .u, .u, .u, .u, .u, .u, .u, .u, .u, .u, .u, .u, .u, .u, .u, .u, .u, .u, .u, .u, .u, .u, .u, .u, .u, .u, .u, .u, .u, .u, .b t_57, .u, .u, .u, .u, .u, .u, .u, .u, .u, .u, .u, .u, .u, .u, .u, .u, .u, .u, .u, .u, .u, .u, .u, .u, .u, .u, .u, .u, .u, .u, .u, .u, .u, .u, .u, .u, .u, .u, .u, .u, .u, .u, .u, .u, .u, .u, .u, .u, .u, .u, .u, .u, .u, .u, .u, .u, .u, .u, .u, .u, .u, .u, .u, .u, .u, .u, .u, .u, .u, .u, .u, .u, .u, .u, .u, .u, .u, .u, .u, .u, .u, .u, .u, .u, .u, .u, .u, .u, .u, .u, .u, .u, .u, .u, .u], ofL [], 0, 0⟩) ∧
    (∀ (a_0 : Int) (b_1 : Int) (r : Int × Int), soft_Add.j2 k a_0 b_1 = some r → kont E0 (soft_Add.Q a0 a1 r) (frs (bodyOf Try.f37) [1, 1, 1, 1, 0, 1] []) .normal ⟨[.i .u64 a_0, .i .u64 b_1, .u, .u, .u, .u, .u, .u, .u, .u, .u, .u, .u, .u, .u, .u, .u, .u, .u, .u, .u, .u, .u, .u, .u, .u, .u, .u, .u, .u, .u, .u, .u, .u, .u, .u, .u, .u, .u, .u, .u, .u, .u, .u, .u, .u, .u, .u, .u, .u, .u, .u, .u, .u, .u, .u, .u, .u, .u, .u, .u, .u, .u, .u, .u, .u, .u, .u, .u, .u, .u, .u, .u, .u, .u, .u, .u, .u, .u, .u, .u, .u, .u, .u, .u, .u, .u, .u, .u, .u, .u, .u, .u, .u, .u, .u, .u, .u, .u, .u, .u, .u, .u, .u, .u, .u, .u, .u, .u, .u, .u, .u, .u, .u, .u, .u, .u, .u, .u, .u, .u, .u, .u, .u, .u, .u, .u, .u, .u, .u, .u, .u, .u, .u, .u, .u, .u, .u, .u, .u, .u, .u, .u, .u, .u, .u, .u, .u, .u, .u, .u, .u, .u], ofL [], 0, 0⟩) ∧
    (∀ (a_0 : Int) (e_12 : Int) (low_17 : Bool) (h0_0 : Int) (h0_1 : Int) (h1_0 : Int) (h1_1 : Int) (r : Int × Int), soft_Add.j3 k a_0 e_12 low_17 h0_0 h0_1 h1_0 h1_1 = some r → kont E0 (soft_Add.Q a0 a1 r) (frs (bodyOf Try.f37) [1, 1, 1, 1, 1, 1, 1, 1, 1, 1, 0, 1] []) .normal ⟨[.i .u64 a_0, .u, .u, .u, .u, .u, .u, .u, .u, .u, .u, .u, .i .i64 e_12, .u, .u, .p (some (0, 0)), .p (some (1, 0)), .b low_17, .u, .u, .u, .u, .u, .u, .u, .u, .u, .u, .u, .u, .u, .u, .u, .u, .u, .u, .u, .u, .u, .u, .u, .u, .u, .u, .u, .u, .u, .u, .u, .u, .u, .u, .u, .u, .u, .u, .u, .u, .u, .u, .u, .u, .u, .u, .u, .u, .u, .u, .u, .u, .u, .u, .u, .u, .u, .u, .u, .u, .u, .u, .u, .u, .u, .u, .u, .u, .u, .u, .u, .u, .u, .u, .u, .u, .u, .u, .u, .u, .u, .u, .u, .u, .u, .u, .u, .u, .u, .u, .u, .u, .u, .u, .u, .u, .u, .u, .u, .u, .u, .u, .u, .u, .u, .u, .u, .u, .u, .u, .u, .u, .u, .u, .u, .u, .u, .u, .u, .u, .u, .u, .u, .u, .u, .u, .u, .u, .u, .u, .u, .u, .u, .u, .u], ofL [.row [.i .u64 h0_0, .i .u64 h0_1] 0 0 true true none, .row [.i .u64 h1_0, .i .u64 h1_1] 0 0 true true none], 2, 0⟩) ∧
    (∀ (a_0 : Int) (e_12 : Int) (low_17 : Bool) (t_143 : Bool) (h0_0 : Int) (h0_1 : Int) (r : Int × Int), soft_Add.j4 k a_0 e_12 low_17 t_143 h0_0 h0_1 = some r → kont E0 (soft_Add.Q a0 a1 r) (frs (bodyOf Try.f37) [1, 1, 1, 1, 1, 1, 1, 1, 1, 1, 1, 1, 0, 0] []) .normal ⟨[.i .u64 a_0, .u, .u, .u, .u, .u, .u, .u, .u, .u, .u, .u, .i .i64 e_12, .u, .u, .u, .u, .b low_17, .u, .u, .p (some (0, 0)), .u, .u, .u, .u, .u, .u, .u, .u, .u, .u, .u, .u, .u, .u, .u, .u, .u, .u, .u, .u, .u, .u, .u, .u, .u, .u, .u, .u, .u, .u, .u, .u, .u, .u, .u, .u, .u, .u, .u, .u, .u, .u, .u, .u, .u, .u, .u, .u, .u, .u, .u, .u, .u, .u, .u, .u, .u, .u, .u, .u, .u, .u, .u, .u, .u, .u, .u, .u, .u, .u, .u, .u, .u, .u, .u, .u, .u, .u, .u, .u, .u, .u, .u, .u, .u, .u, .u, .u, .u, .u, .u, .u, .u, .u, .u, .u, .u, .u, .u, .u, .u, .u, .u, .u, .u, .u, .u, .u, .u, .u, .u, .u, .u, .u, .u, .u, .u, .u, .u, .u, .u, .u, .b t_143, .u, .u, .u, .u, .u, .u, .u, .u, .u], ofL [.row [.i .u64 h0_0, .i .u64 h0_1] 0 0 true true none], 1, 0⟩) := by
  induction k with
  | zero => exact ⟨fun _ _ _ _ _ r h => by simp [soft_Add.j0] at h, fun _ _ _ _ _ r h => by simp [soft_Add.j1] at h, fun _ _ r h => by simp [soft_Add.j2] at h, fun _ _ _ _ _ _ _ r h => by simp [soft_Add.j3] at h, fun _ _ _ _ _ _ r h => by simp [soft_Add.j4] at h⟩
  | succ k ih =>
    obtain ⟨ih0, ih1, ih2, ih3, ih4⟩ := ih
    refine ⟨?_, ?_, ?_, ?_, ?_⟩
    · intro a_0 b_1 x_9 y_10 t_37 r H
      unfold soft_Add.j0 at H
      simp only [bodyOf, Try.f37, frs, sub, if_true, if_false, Nat.one_ne_zero]
      refine k_seq ?_
      rcases its H with ⟨c7, H⟩ | ⟨c7, H⟩
      · have c7b : t_37 = true := c7; try simp only [c7b, nrm]
        refine w_cond rfl (fun _ => ?_) (fun h => Bool.noConfusion h)
        refine w_seq ?_
        refine wR fun K hK => ?_
        refine g_as rfl rfl (gT ?_)
        refine g_as rfl rfl (gT ?_)
        refine g_nil (hK _ _ _ ?_)
        refine k_seq ?_
        refine w_ret ?_
        refine fin_wp (τ := []) rfl (by decide) ?_; rw [← Option.some.inj H]; simp only [Try.f37]; exact gF
      · have c7b : t_37 = false := Bool.eq_false_iff.mpr c7; try simp only [c7b, nrm]
        refine w_cond rfl (fun h => Bool.noConfusion h) (fun _ => ?_)
        refine w_seq ?_
        refine wR fun K hK => ?_
        refine g_mv rfl rfl (gT ?_)
        refine g_bin rfl rfl rfl rfl rfl (gT ?_)
        refine g_as rfl rfl (gT ?_)
        refine g_nil (hK _ _ _ ?_)
        refine k_seq ?_
        rcases its H with ⟨c8, H⟩ | ⟨c8, H⟩
        · have c8b := beq_iff_eq.mpr c8; have c8n := bne_eq_false_iff_eq.mpr c8; try simp only [c8b, c8n, nrm]
          refine w_cond rfl (fun _ => ?_) (fun h => Bool.noConfusion h)
          refine w_seq ?_
          refine wR fun K hK => ?_
          refine g_mv rfl rfl (gT ?_)
          refine g_as rfl rfl (gT ?_)
          refine g_as rfl rfl (gT ?_)
          refine g_nil (hK _ _ _ ?_)
          refine k_seq ?_
          refine w_ret ?_
          refine fin_wp (τ := []) rfl (by decide) ?_; rw [← Option.some.inj H]; simp only [Try.f37]; exact gF
        · have c8b := beq_eq_false_iff_ne.mpr c8; have c8n := bne_iff_ne.mpr c8; try simp only [c8b, c8n, nrm]
          refine w_cond rfl (fun h => Bool.noConfusion h) (fun _ => ?_)
          refine w_seq ?_
          refine wR fun K hK => ?_
          refine g_mv rfl rfl (gT ?_)
          refine g_bin rfl rfl rfl rfl rfl (gT ?_)
          refine g_as rfl rfl (gT ?_)
          refine g_nil (hK _ _ _ ?_)
          refine k_seq ?_
          rcases its H with ⟨c9, H⟩ | ⟨c9, H⟩
          · have c9b := beq_iff_eq.mpr c9; have c9n := bne_eq_false_iff_eq.mpr c9; try simp only [c9b, c9n, nrm]
            refine w_cond rfl (fun _ => ?_) (fun h => Bool.noConfusion h)
            refine w_seq ?_
            refine wR fun K hK => ?_
            refine g_mv rfl rfl (gT ?_)
            refine g_as rfl rfl (gT ?_)
            refine g_as rfl rfl (gT ?_)
            refine g_nil (hK _ _ _ ?_)
            refine k_seq ?_
            refine w_ret ?_
            refine fin_wp (τ := []) rfl (by decide) ?_; rw [← Option.some.inj H]; simp only [Try.f37]; exact gF
          · have c9b := beq_eq_false_iff_ne.mpr c9; have c9n := bne_iff_ne.mpr c9; try simp only [c9b, c9n, nrm]
            refine w_cond rfl (fun h => Bool.noConfusion h) (fun _ => ?_)
            refine w_seq ?_
            refine wR fun K hK => ?_
            refine g_mv rfl rfl (gT ?_)
            refine g_bin rfl rfl rfl rfl rfl (gT ?_)
            refine g_mv rfl rfl (gT ?_)
            rcases its H with ⟨c10, H⟩ | ⟨c10, H⟩
            · have c10b := beq_iff_eq.mpr c10; have c10n := bne_eq_false_iff_eq.mpr c10; try simp only [c10b, c10n, nrm]
              refine g_mv rfl rfl (gT ?_)
              refine g_bin rfl rfl rfl rfl rfl (gT ?_)
              refine g_pick rfl rfl rfl (gT ?_)
              refine g_as rfl rfl (gT ?_)
              refine g_nil (hK _ _ _ ?_)
              refine k_wk (σ := []) [0, 0, 7, 0, 46] rfl (by decide) rfl ?_; refine gC ?_
              exact gI (ih1 a_0 b_1 x_9 y_10 (y_10 == 1) r H)
            · have c10b := beq_eq_false_iff_ne.mpr c10; have c10n := bne_iff_ne.mpr c10; try simp only [c10b, c10n, nrm]
              refine g_sk rfl rfl (gT ?_)
              refine g_sk rfl rfl (gT ?_)
              refine g_pick rfl rfl rfl (gT ?_)
              refine g_as rfl rfl (gT ?_)
              refine g_nil (hK _ _ _ ?_)
              refine k_wk (σ := []) [0, 0, 7, 0, 46] rfl (by decide) rfl ?_; refine gC ?_
              exact gI (ih1 a_0 b_1 x_9 y_10 false r H)
    · intro a_0 b_1 x_9 y_10 t_57 r H
      unfold soft_Add.j1 at H
      simp only [bodyOf, Try.f37, frs, sub, if_true, if_false, Nat.one_ne_zero]
      refine k_seq ?_
      rcases its H with ⟨c11, H⟩ | ⟨c11, H⟩
      · have c11b : t_57 = true := c11; try simp only [c11b, nrm]
        refine w_cond rfl (fun _ => ?_) (fun h => Bool.noConfusion h)
        refine w_seq ?_
        refine wR fun K hK => ?_
        refine g_mv rfl rfl (gT ?_)
        refine g_mv rfl rfl (gT ?_)
        refine g_bin rfl rfl rfl rfl rfl (gT ?_)
        refine g_as rfl rfl (gT ?_)
        refine g_as rfl rfl (gT ?_)
        refine g_nil (hK _ _ _ ?_)
        refine k_seq ?_
        refine w_ret ?_
        refine fin_wp (τ := []) rfl (by decide) ?_; rw [← Option.some.inj H]; simp only [Try.f37]; exact gF
      · have c11b : t_57 = false := Bool.eq_false_iff.mpr c11; try simp only [c11b, nrm]
        refine w_cond rfl (fun h => Bool.noConfusion h) (fun _ => ?_)
        refine w_seq ?_
        refine wR fun K hK => ?_
        refine g_mv rfl rfl (gT ?_)
        refine g_bin rfl rfl rfl rfl rfl (gT ?_)
        refine g_as rfl rfl (gT ?_)
        refine g_nil (hK _ _ _ ?_)
        refine k_seq ?_
        rcases its H with ⟨c12, H⟩ | ⟨c12, H⟩
        · have c12b := beq_iff_eq.mpr c12; have c12n := bne_eq_false_iff_eq.mpr c12; try simp only [c12b, c12n, nrm]
          refine w_cond rfl (fun _ => ?_) (fun h => Bool.noConfusion h)
          refine w_seq ?_
          refine wR fun K hK => ?_
          refine g_mv rfl rfl (gT ?_)
          refine g_as rfl rfl (gT ?_)
          refine g_as rfl rfl (gT ?_)
          refine g_nil (hK _ _ _ ?_)
          refine k_seq ?_
          refine w_ret ?_
          refine fin_wp (τ := []) rfl (by decide) ?_; rw [← Option.some.inj H]; simp only [Try.f37]; exact gF
        · have c12b := beq_eq_false_iff_ne.mpr c12; have c12n := bne_iff_ne.mpr c12; try simp only [c12b, c12n, nrm]
          refine w_cond rfl (fun h => Bool.noConfusion h) (fun _ => ?_)
          refine w_seq ?_
          refine wR fun K hK => ?_
          refine g_mv rfl rfl (gT ?_)
          refine g_bin rfl rfl rfl rfl rfl (gT ?_)
          refine g_as rfl rfl (gT ?_)
          refine g_nil (hK _ _ _ ?_)
          refine k_seq ?_
          rcases its H with ⟨c13, H⟩ | ⟨c13, H⟩
          · have c13b := beq_iff_eq.mpr c13; have c13n := bne_eq_false_iff_eq.mpr c13; try simp only [c13b, c13n, nrm]
            refine w_cond rfl (fun _ => ?_) (fun h => Bool.noConfusion h)
            refine w_seq ?_
            refine wR fun K hK => ?_
            refine g_mv rfl rfl (gT ?_)
            refine g_as rfl rfl (gT ?_)
            refine g_as rfl rfl (gT ?_)
            refine g_nil (hK _ _ _ ?_)
            refine k_seq ?_
            refine w_ret ?_
            refine fin_wp (τ := []) rfl (by decide) ?_; rw [← Option.some.inj H]; simp only [Try.f37]; exact gF
          · have c13b := beq_eq_false_iff_ne.mpr c13; have c13n := bne_iff_ne.mpr c13; try simp only [c13b, c13n, nrm]
            refine w_cond rfl (fun h => Bool.noConfusion h) (fun _ => ?_)
            refine w_skip ?_
            refine k_block ?_
            refine k_seq ?_
            refine w_seq ?_
            refine w_seq ?_
            refine wR fun K hK => ?_
            refine g_mv rfl rfl (gT ?_)
            obtain ⟨q14, hq14, H⟩ := bnd H
            refine g_cs [] rfl rfl (by rfl) Try.func10 rfl (by decide) (word_Abs.does hq14) ⟨Nat.le_of_ble_eq_true rfl, Nat.le_of_ble_eq_true rfl⟩ ?_; refine gC ?_
            refine g_mv rfl rfl (gT ?_)
            obtain ⟨q15, hq15, H⟩ := bnd H
            refine g_cs [] rfl rfl (by rfl) Try.func10 rfl (by decide) (word_Abs.does hq15) ⟨Nat.le_of_ble_eq_true rfl, Nat.le_of_ble_eq_true rfl⟩ ?_; refine gC ?_
            refine g_bin rfl rfl rfl rfl rfl (gT ?_)
            refine g_nil (hK _ _ _ ?_)
            refine k_seq ?_
            rcases its H with ⟨c16, H⟩ | ⟨c16, H⟩
            · have c16b := decide_eq_true c16; try simp only [c16b, nrm]
              refine w_cond rfl (fun _ => ?_) (fun h => Bool.noConfusion h)
              refine wR fun K hK => ?_
              refine g_mv rfl rfl (gT ?_)
              refine g_mv rfl rfl (gT ?_)
              refine g_as rfl rfl (gT ?_)
              refine g_as rfl rfl (gT ?_)
              refine g_nil (hK _ _ _ ?_)
              refine k_wk (σ := []) [0, 0] rfl (by decide) rfl ?_; refine gC ?_
              exact gI (ih2 b_1 a_0 r H)
            · have c16b := decide_eq_false c16; try simp only [c16b, nrm]
              refine w_cond rfl (fun h => Bool.noConfusion h) (fun _ => ?_)
              refine w_skip ?_
              refine k_wk (σ := []) [0, 0] rfl (by decide) rfl ?_; refine gC ?_
              exact gI (ih2 a_0 b_1 r H)
    · intro a_0 b_1 r H
      unfold soft_Add.j2 at H
      simp only [bodyOf, Try.f37, frs, sub, if_true, if_false, Nat.one_ne_zero]
      refine k_seq ?_
      refine w_seq ?_
      refine wR fun K hK => ?_
      refine g_mv rfl rfl (gT ?_)
      obtain ⟨q17, hq17, H⟩ := bnd H
      refine g_cs [] rfl rfl (by rfl) Try.func47 rfl (by decide) (word_Parts.does hq17) ⟨Nat.le_of_ble_eq_true rfl, Nat.le_of_ble_eq_true rfl⟩ ?_; refine gC ?_
      refine g_mv rfl rfl (gT ?_)
      refine g_ext rfl rfl rfl (Nat.le_of_ble_eq_true rfl) (gT ?_)
      refine g_ext rfl rfl rfl (Nat.le_of_ble_eq_true rfl) (gT ?_)
      refine g_as rfl rfl (gT ?_)
      refine g_as rfl rfl (gT ?_)
      refine g_nil (hK _ _ _ ?_)
      refine k_seq ?_
      refine w_seq ?_
      refine wR fun K hK => ?_
      refine g_mv rfl rfl (gT ?_)
      obtain ⟨q18, hq18, H⟩ := bnd H
      refine g_cs [] rfl rfl (by rfl) Try.func47 rfl (by decide) (word_Parts.does hq18) ⟨Nat.le_of_ble_eq_true rfl, Nat.le_of_ble_eq_true rfl⟩ ?_; refine gC ?_
      refine g_mv rfl rfl (gT ?_)
      refine g_ext rfl rfl rfl (Nat.le_of_ble_eq_true rfl) (gT ?_)
      refine g_ext rfl rfl rfl (Nat.le_of_ble_eq_true rfl) (gT ?_)
      refine g_as rfl rfl (gT ?_)
      refine g_as rfl rfl (gT ?_)
      refine g_nil (hK _ _ _ ?_)
      refine k_seq ?_
      refine w_seq ?_
      refine wR fun K hK => ?_
      refine g_mv rfl rfl (gT ?_)
      refine g_bd rfl rfl zr67 Try.underlying67 (pl := [(0, 1), (1, 1)]) (by kernel_rfl) ?_; refine gB ?_
      obtain ⟨q19, hq19, H⟩ := bnd H
      refine g_cs [] rfl rfl (by rfl) Try.func35 rfl (by decide) (wide_Wide_Left.does hq19) ⟨Nat.le_of_ble_eq_true rfl, Nat.le_of_ble_eq_true rfl⟩ ?_; refine gC ?_
      refine g_alloc rfl rfl zr67 (gU ?_)
      refine g_st rfl rfl sz67 rfl rfl rfl (by rfl) (Nat.le_of_ble_eq_true rfl) (gU ?_)
      refine g_nil (hK _ _ _ ?_)
      refine k_seq ?_
      refine w_seq ?_
      refine wR fun K hK => ?_
      refine g_mv rfl rfl (gT ?_)
      refine g_bd rfl rfl zr67 Try.underlying67 (pl := [(0, 1), (1, 1)]) (by kernel_rfl) ?_; refine gB ?_
      obtain ⟨q20, hq20, H⟩ := bnd H
      refine g_cs [] rfl rfl (by rfl) Try.func35 rfl (by decide) (wide_Wide_Left.does hq20) ⟨Nat.le_of_ble_eq_true rfl, Nat.le_of_ble_eq_true rfl⟩ ?_; refine gC ?_
      refine g_mv rfl rfl (gT ?_)
      refine g_mv rfl rfl (gT ?_)
      refine g_bin rfl rfl rfl rfl rfl (gT ?_)
      obtain ⟨q21, hq21, H⟩ := bnd H
      refine g_cs [] rfl rfl (by rfl) Try.func53 rfl (by decide) (wide_Wide_Right.does hq21) ⟨Nat.le_of_ble_eq_true rfl, Nat.le_of_ble_eq_true rfl⟩ ?_; refine gC ?_
      refine g_mv rfl rfl (gT ?_)
      refine g_ext rfl rfl rfl (Nat.le_of_ble_eq_true rfl) (gT ?_)
      refine g_ext rfl rfl rfl (Nat.le_of_ble_eq_true rfl) (gT ?_)
      refine g_alloc rfl rfl zr67 (gU ?_)
      refine g_st rfl rfl sz67 rfl rfl rfl (by rfl) (Nat.le_of_ble_eq_true rfl) (gU ?_)
      refine g_as rfl rfl (gT ?_)
      refine g_nil (hK _ _ _ ?_)
      refine k_seq ?_
      refine w_seq ?_
      refine w_seq ?_
      refine wR fun K hK => ?_
      refine g_mv rfl rfl (gT ?_)
      obtain ⟨q22, hq22, H⟩ := bnd H
      refine g_cs [] rfl rfl (by rfl) Try.func39 rfl (by decide) (word_Neg.does hq22) ⟨Nat.le_of_ble_eq_true rfl, Nat.le_of_ble_eq_true rfl⟩ ?_; refine gC ?_
      refine g_mv rfl rfl (gT ?_)
      obtain ⟨q23, hq23, H⟩ := bnd H
      refine g_cs [] rfl rfl (by rfl) Try.func39 rfl (by decide) (word_Neg.does hq23) ⟨Nat.le_of_ble_eq_true rfl, Nat.le_of_ble_eq_true rfl⟩ ?_; refine gC ?_
      refine g_eqb rfl rfl Try.underlying4 rfl rfl (gT ?_)
      refine g_nil (hK _ _ _ ?_)
      refine k_seq ?_
      rcases its H with ⟨c24, H⟩ | ⟨c24, H⟩
      · have c24b : (q22 == q23) = true := c24; try simp only [c24b, nrm]
        refine w_cond rfl (fun _ => ?_) (fun h => Bool.noConfusion h)
        refine w_seq ?_
        refine wR fun K hK => ?_
        refine g_lda rfl rfl ag67 sz67 rfl rfl (Nat.le_of_ble_eq_true rfl) (gT ?_)
        refine g_lda rfl rfl ag67 sz67 rfl rfl (Nat.le_of_ble_eq_true rfl) (gT ?_)
        obtain ⟨q25, hq25, H⟩ := bnd H
        refine g_cs [] rfl rfl (by rfl) Try.func34 rfl (by decide) (wide_Wide_Add.does hq25) ⟨Nat.le_of_ble_eq_true rfl, Nat.le_of_ble_eq_true rfl⟩ ?_; refine gC ?_
        refine g_mv rfl rfl (gT ?_)
        refine g_ext rfl rfl rfl (Nat.le_of_ble_eq_true rfl) (gT ?_)
        refine g_ext rfl rfl rfl (Nat.le_of_ble_eq_true rfl) (gT ?_)
        refine g_alloc rfl rfl zr67 (gU ?_)
        refine g_st rfl rfl sz67 rfl rfl rfl (by rfl) (Nat.le_of_ble_eq_true rfl) (gU ?_)
        refine g_as rfl rfl (gT ?_)
        refine g_nil (hK _ _ _ ?_)
        refine k_seq ?_
        refine w_seq ?_
        refine wD fun K hK => ?_
        refine g_mv rfl rfl (gT ?_)
        obtain ⟨q26, hq26, H⟩ := bnd H
        refine g_cs [] rfl rfl (by rfl) Try.func39 rfl (by decide) (word_Neg.does hq26) ⟨Nat.le_of_ble_eq_true rfl, Nat.le_of_ble_eq_true rfl⟩ ?_; refine gC ?_
        refine g_lda rfl rfl ag67 sz67 rfl rfl (Nat.le_of_ble_eq_true rfl) (gT ?_)
        refine g_mv rfl rfl (gT ?_)
        refine g_bin rfl rfl rfl rfl rfl (gT ?_)
        refine g_mv rfl rfl (gT ?_)
        obtain ⟨q27, hq27, H⟩ := bnd H
        refine g_cs [] rfl rfl (by rfl) Try.func36 rfl (by decide) (round_Round.does hq27) ⟨Nat.le_of_ble_eq_true rfl, Nat.le_of_ble_eq_true rfl⟩ ?_; refine gC ?_
        refine g_ext rfl rfl rfl (Nat.le_of_ble_eq_true rfl) (gT ?_)
        refine g_ext rfl rfl rfl (Nat.le_of_ble_eq_true rfl) (gT ?_)
        refine g_as rfl rfl (gT ?_)
        refine g_as rfl rfl (gT ?_)
        refine g_nil (hK _ _ _ (by kernel_rfl) ?_)
        refine k_seq ?_
        refine w_ret ?_
        refine fin_wp (τ := []) rfl (by decide) ?_; rw [← Option.some.inj H]; simp only [Try.f37]; exact gF
      · have c24b : (q22 == q23) = false := Bool.eq_false_iff.mpr c24; try simp only [c24b, nrm]
        refine w_cond rfl (fun h => Bool.noConfusion h) (fun _ => ?_)
        refine w_skip ?_
        refine k_seq ?_
        refine w_seq ?_
        refine w_seq ?_
        refine wR fun K hK => ?_
        refine g_mv rfl rfl (gT ?_)
        refine g_nil (hK _ _ _ ?_)
        refine k_seq ?_
        rcases its H with ⟨c28, H⟩ | ⟨c28, H⟩
        · have c28b : q21.2.2 = true := c28; try simp only [c28b, nrm]
          refine w_cond rfl (fun _ => ?_) (fun h => Bool.noConfusion h)
          refine wR fun K hK => ?_
          refine g_lda rfl rfl ag67 sz67 rfl rfl (Nat.le_of_ble_eq_true rfl) (gT ?_)
          refine g_bd rfl rfl zr67 Try.underlying67 (pl := [(0, 1), (1, 1)]) (by kernel_rfl) ?_; refine gB ?_
          obtain ⟨q29, hq29, H⟩ := bnd H
          refine g_cs [] rfl rfl (by rfl) Try.func34 rfl (by decide) (wide_Wide_Add.does hq29) ⟨Nat.le_of_ble_eq_true rfl, Nat.le_of_ble_eq_true rfl⟩ ?_; refine gC ?_
          refine g_mv rfl rfl (gT ?_)
          refine g_ext rfl rfl rfl (Nat.le_of_ble_eq_true rfl) (gT ?_)
          refine g_ext rfl rfl rfl (Nat.le_of_ble_eq_true rfl) (gT ?_)
          refine g_st rfl rfl sz67 rfl rfl rfl (by rfl) (Nat.le_of_ble_eq_true rfl) (gU ?_)
          refine g_nil (hK _ _ _ ?_)
          refine k_wk (σ := [68, 116]) [0, 11, 2, 0, 0] rfl (by decide) rfl ?_; refine gC ?_
          exact gI (ih3 a_0 q17.2 true q19.1 q19.2 q29.1 q29.2.1 r H)
        · have c28b : q21.2.2 = false := Bool.eq_false_iff.mpr c28; try simp only [c28b, nrm]
          refine w_cond rfl (fun h => Bool.noConfusion h) (fun _ => ?_)
          refine w_skip ?_
          refine k_wk (σ := [68, 116]) [0, 11, 2, 0, 0] rfl (by decide) rfl ?_; refine gC ?_
          exact gI (ih3 a_0 q17.2 false q19.1 q19.2 q21.1 q21.2.1 r H)
    · intro a_0 e_12 low_17 h0_0 h0_1 h1_0 h1_1 r H
      unfold soft_Add.j3 at H
      simp only [bodyOf, Try.f37, frs, sub, if_true, if_false, Nat.one_ne_zero]
      refine k_seq ?_
      refine w_seq ?_
      refine wR fun K hK => ?_
      refine g_lda rfl rfl ag67 sz67 rfl rfl (Nat.le_of_ble_eq_true rfl) (gT ?_)
      refine g_lda rfl rfl ag67 sz67 rfl rfl (Nat.le_of_ble_eq_true rfl) (gT ?_)
      obtain ⟨q30, hq30, H⟩ := bnd H
      refine g_cs [] rfl rfl (by rfl) Try.func55 rfl (by decide) (wide_Wide_Sub.does hq30) ⟨Nat.le_of_ble_eq_true rfl, Nat.le_of_ble_eq_true rfl⟩ ?_; refine gC ?_
      refine g_mv rfl rfl (gT ?_)
      refine g_ext rfl rfl rfl (Nat.le_of_ble_eq_true rfl) (gT ?_)
      refine g_ext rfl rfl rfl (Nat.le_of_ble_eq_true rfl) (gT ?_)
      refine g_alloc rfl rfl zr67 (gU ?_)
      refine g_st rfl rfl sz67 rfl rfl rfl (by rfl) (Nat.le_of_ble_eq_true rfl) (gU ?_)
      refine g_as rfl rfl (gT ?_)
      refine g_nil (hK _ _ _ ?_)
      refine k_seq ?_
      refine w_seq ?_
      refine w_seq ?_
      refine wR fun K hK => ?_
      refine g_lda rfl rfl ag67 sz67 rfl rfl (Nat.le_of_ble_eq_true rfl) (gT ?_)
      obtain ⟨q31, hq31, H⟩ := bnd H
      refine g_cs [] rfl rfl (by rfl) Try.func52 rfl (by decide) (wide_Wide_Zero.does hq31) ⟨Nat.le_of_ble_eq_true rfl, Nat.le_of_ble_eq_true rfl⟩ ?_; refine gC ?_
      refine g_mv rfl rfl (gT ?_)
      rcases its H with ⟨c32, H⟩ | ⟨c32, H⟩
      · have c32b : q31 = true := c32; try simp only [c32b, nrm]
        refine g_mv rfl rfl (gT ?_)
        refine g_un rfl rfl rfl rfl (gT ?_)
        refine g_pick rfl rfl rfl (gT ?_)
        refine g_nil (hK _ _ _ ?_)
        refine k_wk (σ := [26]) [0, 11, 4, 2, 122] rfl (by decide) rfl ?_; refine gC ?_
        exact gI (ih4 a_0 e_12 low_17 (!low_17) q30.1 q30.2.1 r H)
      · have c32b : q31 = false := Bool.eq_false_iff.mpr c32; try simp only [c32b, nrm]
        refine g_sk rfl rfl (gT ?_)
        refine g_sk rfl rfl (gT ?_)
        refine g_pick rfl rfl rfl (gT ?_)
        refine g_nil (hK _ _ _ ?_)
        refine k_wk (σ := [26]) [0, 11, 4, 2, 122] rfl (by decide) rfl ?_; refine gC ?_
        exact gI (ih4 a_0 e_12 low_17 false q30.1 q30.2.1 r H)
    · intro a_0 e_12 low_17 t_143 h0_0 h0_1 r H
      unfold soft_Add.j4 at H
      simp only [bodyOf, Try.f37, frs, sub, if_true, if_false, Nat.one_ne_zero]
      refine k_seq ?_
      rcases its H with ⟨c33, H⟩ | ⟨c33, H⟩
      · have c33b : t_143 = true := c33; try simp only [c33b, nrm]
        refine w_cond rfl (fun _ => ?_) (fun h => Bool.noConfusion h)
        refine w_seq ?_
        refine wR fun K hK => ?_
        refine g_as rfl rfl (gT ?_)
        refine g_as rfl rfl (gT ?_)
        refine g_nil (hK _ _ _ ?_)
        refine k_seq ?_
        refine w_ret ?_
        refine fin_wp (τ := []) rfl (by decide) ?_; rw [← Option.some.inj H]; simp only [Try.f37]; exact gF
      · have c33b : t_143 = false := Bool.eq_false_iff.mpr c33; try simp only [c33b, nrm]
        refine w_cond rfl (fun h => Bool.noConfusion h) (fun _ => ?_)
        refine w_skip ?_
        refine k_seq ?_
        refine w_seq ?_
        refine wD fun K hK => ?_
        refine g_mv rfl rfl (gT ?_)
        obtain ⟨q34, hq34, H⟩ := bnd H
        refine g_cs [] rfl rfl (by rfl) Try.func39 rfl (by decide) (word_Neg.does hq34) ⟨Nat.le_of_ble_eq_true rfl, Nat.le_of_ble_eq_true rfl⟩ ?_; refine gC ?_
        refine g_lda rfl rfl ag67 sz67 rfl rfl (Nat.le_of_ble_eq_true rfl) (gT ?_)
        refine g_mv rfl rfl (gT ?_)
        refine g_bin rfl rfl rfl rfl rfl (gT ?_)
        refine g_mv rfl rfl (gT ?_)
        obtain ⟨q35, hq35, H⟩ := bnd H
        refine g_cs [] rfl rfl (by rfl) Try.func36 rfl (by decide) (round_Round.does hq35) ⟨Nat.le_of_ble_eq_true rfl, Nat.le_of_ble_eq_true rfl⟩ ?_; refine gC ?_
        refine g_ext rfl rfl rfl (Nat.le_of_ble_eq_true rfl) (gT ?_)
        refine g_ext rfl rfl rfl (Nat.le_of_ble_eq_true rfl) (gT ?_)
        refine g_as rfl rfl (gT ?_)
        refine g_as rfl rfl (gT ?_)
        refine g_nil (hK _ _ _ (by kernel_rfl) ?_)
        refine k_seq ?_
        refine w_ret ?_
        refine fin_wp (τ := []) rfl (by decide) ?_; rw [← Option.some.inj H]; simp only [Try.f37]; exact gF
set_option maxHeartbeats 8000000 in
set_option maxRecDepth 100000 in
theorem soft_Add.does {k : Nat} {a0 : Int} {a1 : Int} {r : Int × Int} (H : soft_Add.f k a0 a1 = some r) : Do E0 (.fn 37 [.i .u64 a0, .i .u64 a1] [] (.t [.i .u64 r.1, .i .u8 r.2]) []) := by
  obtain ⟨ih0, ih1, ih2, ih3, ih4⟩ := soft_Add.does_l (a0 := a0) (a1 := a1) k
  refine fn_wpl Try.func37 rfl (Q := (soft_Add.Q a0 a1 r)) (fun s h => h) ?_
  unfold soft_Add.f at H
  simp only [Try.ntmps37, List.length, List.replicate, Nat.reduceAdd, Nat.reduceSub, List.cons_append, List.nil_append]
  refine w_seq ?_
  refine wR fun K hK => ?_
  refine g_as rfl rfl (gT ?_)
  refine g_as rfl rfl (gT ?_)
  refine g_nil (hK _ _ _ ?_)
  refine k_seq ?_
  refine w_seq ?_
  refine w_seq ?_
  refine wR fun K hK => ?_
  refine g_mv rfl rfl (gT ?_)
  refine g_mv rfl rfl (gT ?_)
  refine g_bsl (k := .u64) (xs := [a0, a1]) rfl rfl Try.underlying22 sz35 zr35 (by decide) rfl rfl rfl (gU ?_)
  obtain ⟨q1, hq1, H⟩ := bnd H
  refine g_cs [] rfl rfl (by rfl) Try.func45 rfl (by decide) (soft_nan.does hq1) ⟨Nat.le_of_ble_eq_true rfl, Nat.le_of_ble_eq_true rfl⟩ ?_; refine gC ?_
  refine g_mv rfl rfl (gT ?_)
  refine g_ext rfl rfl rfl (Nat.le_of_ble_eq_true rfl) (gT ?_)
  refine g_ext rfl rfl rfl (Nat.le_of_ble_eq_true rfl) (gT ?_)
  refine g_ext rfl rfl rfl (Nat.le_of_ble_eq_true rfl) (gT ?_)
  refine g_as rfl rfl (gT ?_)
  refine g_as rfl rfl (gT ?_)
  refine g_as rfl rfl (gT ?_)
  refine g_nil (hK _ _ _ ?_)
  refine k_seq ?_
  refine w_seq ?_
  refine wR fun K hK => ?_
  refine g_mv rfl rfl (gT ?_)
  refine g_nil (hK _ _ _ ?_)
  refine k_seq ?_
  rcases its H with ⟨c2, H⟩ | ⟨c2, H⟩
  · have c2b : q1.2.2 = true := c2; try simp only [c2b, nrm]
    refine w_cond rfl (fun _ => ?_) (fun h => Bool.noConfusion h)
    refine w_seq ?_
    refine wR fun K hK => ?_
    refine g_mv rfl rfl (gT ?_)
    refine g_mv rfl rfl (gT ?_)
    refine g_as rfl rfl (gT ?_)
    refine g_as rfl rfl (gT ?_)
    refine g_nil (hK _ _ _ ?_)
    refine k_seq ?_
    refine w_ret ?_
    refine fin_wp (τ := []) rfl (by decide) ?_; rw [← Option.some.inj H]; simp only [Try.f37]; exact gF
  · have c2b : q1.2.2 = false := Bool.eq_false_iff.mpr c2; try simp only [c2b, nrm]
    refine w_cond rfl (fun h => Bool.noConfusion h) (fun _ => ?_)
    refine w_skip ?_
    refine k_seq ?_
    refine w_seq ?_
    refine wR fun K hK => ?_
    refine g_mv rfl rfl (gT ?_)
    obtain ⟨q3, hq3, H⟩ := bnd H
    refine g_cs [] rfl rfl (by rfl) Try.func27 rfl (by decide) (word_Kind.does hq3) ⟨Nat.le_of_ble_eq_true rfl, Nat.le_of_ble_eq_true rfl⟩ ?_; refine gC ?_
    refine g_mv rfl rfl (gT ?_)
    obtain ⟨q4, hq4, H⟩ := bnd H
    refine g_cs [] rfl rfl (by rfl) Try.func27 rfl (by decide) (word_Kind.does hq4) ⟨Nat.le_of_ble_eq_true rfl, Nat.le_of_ble_eq_true rfl⟩ ?_; refine gC ?_
    refine g_as rfl rfl (gT ?_)
    refine g_as rfl rfl (gT ?_)
    refine g_nil (hK _ _ _ ?_)
    refine k_seq ?_
    refine w_seq ?_
    refine w_block ?_
    refine w_seq ?_
    refine wR fun K hK => ?_
    refine g_mv rfl rfl (gT ?_)
    refine g_bin rfl rfl rfl rfl rfl (gT ?_)
    refine g_mv rfl rfl (gT ?_)
    rcases its H with ⟨c5, H⟩ | ⟨c5, H⟩
    · have c5b := beq_iff_eq.mpr c5; have c5n := bne_eq_false_iff_eq.mpr c5; try simp only [c5b, c5n, nrm]
      refine g_mv rfl rfl (gT ?_)
      refine g_bin rfl rfl rfl rfl rfl (gT ?_)
      refine g_pick rfl rfl rfl (gT ?_)
      refine g_mv rfl rfl (gT ?_)
      rcases its H with ⟨c6, H⟩ | ⟨c6, H⟩
      · have c6b := beq_iff_eq.mpr c6; have c6n := bne_eq_false_iff_eq.mpr c6; try simp only [c6b, c6n, nrm]
        refine g_mv rfl rfl (gT ?_)
        refine g_mv rfl rfl (gT ?_)
        refine g_bin rfl rfl rfl rfl rfl (gT ?_)
        refine g_pick rfl rfl rfl (gT ?_)
        refine g_as rfl rfl (gT ?_)
        refine g_nil (hK _ _ _ ?_)
        refine k_wk (σ := []) [0, 0, 7, 0, 26] rfl (by decide) rfl ?_; refine gC ?_
        exact gI (ih0 a0 a1 q3 q4 (a0 != a1) r H)
      · have c6b := beq_eq_false_iff_ne.mpr c6; have c6n := bne_iff_ne.mpr c6; try simp only [c6b, c6n, nrm]
        refine g_sk rfl rfl (gT ?_)
        refine g_sk rfl rfl (gT ?_)
        refine g_sk rfl rfl (gT ?_)
        refine g_pick rfl rfl rfl (gT ?_)
        refine g_as rfl rfl (gT ?_)
        refine g_nil (hK _ _ _ ?_)
        refine k_wk (σ := []) [0, 0, 7, 0, 26] rfl (by decide) rfl ?_; refine gC ?_
        exact gI (ih0 a0 a1 q3 q4 false r H)
    · have c5b := beq_eq_false_iff_ne.mpr c5; have c5n := bne_iff_ne.mpr c5; try simp only [c5b, c5n, nrm]
      refine g_sk rfl rfl (gT ?_)
      refine g_sk rfl rfl (gT ?_)
      refine g_pick rfl rfl rfl (gT ?_)
      refine g_mv rfl rfl (gT ?_)
      refine g_sk rfl rfl (gT ?_)
      refine g_sk rfl rfl (gT ?_)
      refine g_sk rfl rfl (gT ?_)
      refine g_pick rfl rfl rfl (gT ?_)
      refine g_as rfl rfl (gT ?_)
      refine g_nil (hK _ _ _ ?_)
      refine k_wk (σ := []) [0, 0, 7, 0, 26] rfl (by decide) rfl ?_; refine gC ?_
      exact gI (ih0 a0 a1 q3 q4 false r H)

set_option maxHeartbeats 8000000 in
set_option maxRecDepth 100000 in
theorem soft_Sub.does {k : Nat} {a0 : Int} {a1 : Int} {r : Int × Int} (H : soft_Sub.f k a0 a1 = some r) : Do E0 (.fn 31 [.i .u64 a0, .i .u64 a1] [] (.t [.i .u64 r.1, .i .u8 r.2]) []) := by
  refine fn_wpl Try.func31 rfl (Q := (soft_Sub.Q a0 a1 r)) (fun s h => h) ?_
  unfold soft_Sub.f at H
  simp only [Try.ntmps31, List.length, List.replicate, Nat.reduceAdd, Nat.reduceSub, List.cons_append, List.nil_append]
  refine w_seq ?_
  refine wR fun K hK => ?_
  refine g_as rfl rfl (gT ?_)
  refine g_as rfl rfl (gT ?_)
  refine g_nil (hK _ _ _ ?_)
  refine k_seq ?_
  refine w_seq ?_
  refine wR fun K hK => ?_
  refine g_mv rfl rfl (gT ?_)
  refine g_mv rfl rfl (gT ?_)
  obtain ⟨q1, hq1, H⟩ := bnd H
  refine g_cs [] rfl rfl (by rfl) Try.func44 rfl (by decide) (word_Flip.does hq1) ⟨Nat.le_of_ble_eq_true rfl, Nat.le_of_ble_eq_true rfl⟩ ?_; refine gC ?_
  obtain ⟨q2, hq2, H⟩ := bnd H
  refine g_cs [] rfl rfl (by rfl) Try.func37 rfl (by decide) (soft_Add.does hq2) ⟨Nat.le_of_ble_eq_true rfl, Nat.le_of_ble_eq_true rfl⟩ ?_; refine gC ?_
  refine g_ext rfl rfl rfl (Nat.le_of_ble_eq_true rfl) (gT ?_)
  refine g_ext rfl rfl rfl (Nat.le_of_ble_eq_true rfl) (gT ?_)
  refine g_as rfl rfl (gT ?_)
  refine g_as rfl rfl (gT ?_)
  refine g_nil (hK _ _ _ ?_)
  refine k_seq ?_
  refine w_ret ?_
  refine fin_wp (τ := []) rfl (by decide) ?_; rw [← Option.some.inj H]; simp only [Try.f31]; exact gF

set_option maxHeartbeats 8000000 in
set_option maxRecDepth 100000 in
theorem soft_Calc_Sub_nil.does {k : Nat} {a1 : Int} {a2 : Int} {r : Int} (H : soft_Calc_Sub_nil.f k a1 a2 = some r) : Do E0 (.fn 13 [.p none, .i .u64 a1, .i .u64 a2] [] (.i .u64 r) []) := by
  refine fn_wpl Try.func13 rfl (Q := (soft_Calc_Sub_nil.Q a1 a2 r)) (fun s h => h) ?_
  unfold soft_Calc_Sub_nil.f at H
  simp only [Try.ntmps13, List.length, List.replicate, Nat.reduceAdd, Nat.reduceSub, List.cons_append, List.nil_append]
  refine w_seq ?_
  refine wR fun K hK => ?_
  refine g_as rfl rfl (gT ?_)
  refine g_nil (hK _ _ _ ?_)
  refine k_seq ?_
  refine w_seq ?_
  refine wR fun K hK => ?_
  refine g_mv rfl rfl (gT ?_)
  refine g_mv rfl rfl (gT ?_)
  refine g_mv rfl rfl (gT ?_)
  obtain ⟨q1, hq1, H⟩ := bnd H
  refine g_cs [] rfl rfl (by rfl) Try.func31 rfl (by decide) (soft_Sub.does hq1) ⟨Nat.le_of_ble_eq_true rfl, Nat.le_of_ble_eq_true rfl⟩ ?_; refine gC ?_
  refine g_ext rfl rfl rfl (Nat.le_of_ble_eq_true rfl) (gT ?_)
  refine g_ext rfl rfl rfl (Nat.le_of_ble_eq_true rfl) (gT ?_)
  obtain ⟨q2, hq2, H⟩ := bnd H
  refine g_cs [] rfl rfl (by rfl) Try.func30 rfl (by decide) (soft_Calc_note_nil.does hq2) ⟨Nat.le_of_ble_eq_true rfl, Nat.le_of_ble_eq_true rfl⟩ ?_; refine gC ?_
  refine g_as rfl rfl (gT ?_)
  refine g_nil (hK _ _ _ ?_)
  refine k_seq ?_
  refine w_ret ?_
  refine fin_wp (τ := []) rfl (by decide) ?_; rw [← Option.some.inj H]; simp only [Try.f13]; exact gF

set_option maxHeartbeats 8000000 in
set_option maxRecDepth 100000 in
theorem bits_LeadingZeros64.does {k : Nat} {a0 : Int} {r : Int} (H : bits_LeadingZeros64.f k a0 = some r) : Do E0 (.fn 61 [.i .u64 a0] [] (.i .i64 r) []) := by
  refine fn_wpl Try.func61 rfl (Q := (bits_LeadingZeros64.Q a0 r)) (fun s h => h) ?_
  unfold bits_LeadingZeros64.f at H
  simp only [Try.ntmps61, List.length, List.replicate, Nat.reduceAdd, Nat.reduceSub, List.cons_append, List.nil_append]
  refine w_seq ?_
  refine wR fun K hK => ?_
  refine g_as rfl rfl (gT ?_)
  refine g_nil (hK _ _ _ ?_)
  refine k_seq ?_
  refine w_seq ?_
  refine wR fun K hK => ?_
  refine g_mv rfl rfl (gT ?_)
  obtain ⟨q1, hq1, H⟩ := bnd H
  refine g_cs [] rfl rfl (by rfl) Try.func58 rfl (by decide) (bits_Len64.does hq1) ⟨Nat.le_of_ble_eq_true rfl, Nat.le_of_ble_eq_true rfl⟩ ?_; refine gC ?_
  refine g_bin rfl rfl rfl rfl rfl (gT ?_)
  refine g_as rfl rfl (gT ?_)
  refine g_nil (hK _ _ _ ?_)
  refine k_seq ?_
  refine w_ret ?_
  refine fin_wp (τ := []) rfl (by decide) ?_; rw [← Option.some.inj H]; simp only [Try.f61]; exact gF

set_option maxHeartbeats 8000000 in
set_option maxRecDepth 100000 in
theorem bits_Div64.does_l {a0 : Int} {a1 : Int} {a2 : Int} (k : Nat) : (∀ (y_2 : Int) (s_8 : Int) (yn1_9 : Int) (yn0_10 : Int) (un32_11 : Int) (un1_13 : Int) (un0_14 : Int) (q1_15 : Int) (rhat_16 : Int) (r : Int × Int), bits_Div64.l0 k y_2 s_8 yn1_9 yn0_10 un32_11 un1_13 un0_14 q1_15 rhat_16 = some r → wk_ E0 (bits_Div64.Q a0 a1 a2 r) (frs (bodyOf Try.f59) [1, 1, 1, 1, 1, 1, 1, 1, 1, 1, 1, 1, 1, 1, 0, 0] []) (sub (bodyOf Try.f59) [1, 1, 1, 1, 1, 1, 1, 1, 1, 1, 1, 1, 1, 1, 0, 0]) ⟨[.u, .u, .i .u64 y_2, .u, .u, .u, .u, .u, .i .u64 s_8, .i .u64 yn1_9, .i .u64 yn0_10, .i .u64 un32_11, .u, .i .u64 un1_13, .i .u64 un0_14, .i .u64 q1_15, .i .u64 rhat_16, .u, .u, .u, .u, .u, .u, .u, .u, .u, .u, .u, .u, .u, .u, .u, .u, .u, .u, .u, .u, .u, .u, .u, .u, .u, .u, .u, .u, .u, .u, .u, .u, .u, .u, .u, .u, .u, .u, .u, .u, .u, .u, .u, .u, .u, .u, .u, .u, .u, .u, .u, .u, .u, .u, .u, .u, .u, .u, .u, .u, .u, .u, .u, .u, .u, .u, .u, .u, .u, .u, .u, .u, .u, .u, .u, .u, .u, .u, .u, .u, .u, .u, .u, .u, .u, .u, .u, .u, .u, .u, .u, .u, .u, .u, .u, .u, .u, .u, .u, .u, .u, .u, .u, .u, .u, .u, .u, .u, .u, .u, .u, .u, .u, .u, .u, .u, .u, .u], ofL [], 0, 0⟩) ∧
    (∀ (y_2 : Int) (s_8 : Int) (yn1_9 : Int) (yn0_10 : Int) (un32_11 : Int) (un1_13 : Int) (un0_14 : Int) (q1_15 : Int) (rhat_16 : Int) (t_78 : Bool) (r : Int × Int), bits_Div64.j1 k y_2 s_8 yn1_9 yn0_10 un32_11 un1_13 un0_14 q1_15 rhat_16 t_78 = some r → kont E0 (bits_Div64.Q a0 a1 a2 r) (frs (bodyOf Try.f59) [1, 1, 1, 1, 1, 1, 1, 1, 1, 1, 1, 1, 1, 1, 0, 0, 0, 0, 0] []) .normal ⟨[.u, .u, .i .u64 y_2, .u, .u, .u, .u, .u, .i .u64 s_8, .i .u64 yn1_9, .i .u64 yn0_10, .i .u64 un32_11, .u, .i .u64 un1_13, .i .u64 un0_14, .i .u64 q1_15, .i .u64 rhat_16, .u, .u, .u, .u, .u, .u, .u, .u, .u, .u, .u, .u, .u, .u, .u, .u, .u, .u, .u, .u, .u, .u, .u, .u, .u, .u, .u, .u, .u, .u, .u, .u, .u, .u, .u, .u, .u, .u, .u, .u, .u, .u, .u, .u, .u, .u, .u, .u, .u, .u, .u, .u, .u, .u, .u, .u, .u, .u, .u, .u, .u, .b t_78, .u, .u, .u, .u, .u, .u, .u, .u, .u, .u, .u, .u, .u, .u, .u, .u, .u, .u, .u, .u, .u, .u, .u, .u, .u, .u, .u, .u, .u, .u, .u, .u, .u, .u, .u, .u, .u, .u, .u, .u, .u, .u, .u, .u, .u, .u, .u, .u, .u, .u, .u, .u, .u, .u, .u, .u], ofL [], 0, 0⟩) ∧
    (∀ (y_2 : Int) (s_8 : Int) (yn1_9 : Int) (yn0_10 : Int) (un32_11 : Int) (un1_13 : Int) (un0_14 : Int) (q1_15 : Int) (r : Int × Int), bits_Div64.j2 k y_2 s_8 yn1_9 yn0_10 un32_11 un1_13 un0_14 q1_15 = some r → kont E0 (bits_Div64.Q a0 a1 a2 r) (frs (bodyOf Try.f59) [1, 1, 1, 1, 1, 1, 1, 1, 1, 1, 1, 1, 1, 1, 0] []) .normal ⟨[.u, .u, .i .u64 y_2, .u, .u, .u, .u, .u, .i .u64 s_8, .i .u64 yn1_9, .i .u64 yn0_10, .i .u64 un32_11, .u, .i .u64 un1_13, .i .u64 un0_14, .i .u64 q1_15, .u, .u, .u, .u, .u, .u, .u, .u, .u, .u, .u, .u, .u, .u, .u, .u, .u, .u, .u, .u, .u, .u, .u, .u, .u, .u, .u, .u, .u, .u, .u, .u, .u, .u, .u, .u, .u, .u, .u, .u, .u, .u, .u, .u, .u, .u, .u, .u, .u, .u, .u, .u, .u, .u, .u, .u, .u, .u, .u, .u, .u, .u, .u, .u, .u, .u, .u, .u, .u, .u, .u, .u, .u, .u, .u, .u, .u, .u, .u, .u, .u, .u, .u, .u, .u, .u, .u, .u, .u, .u, .u, .u, .u, .u, .u, .u, .u, .u, .u, .u, .u, .u, .u, .u, .u, .u, .u, .u, .u, .u, .u, .u, .u, .u, .u, .u, .u, .u, .u], ofL [], 0, 0⟩) ∧
    (∀ (y_2 : Int) (s_8 : Int) (yn1_9 : Int) (yn0_10 : Int) (un0_14 : Int) (q1_15 : Int) (rhat_16 : Int) (un21_17 : Int) (q0_18 : Int) (r : Int × Int), bits_Div64.l1 k y_2 s_8 yn1_9 yn0_10 un0_14 q1_15 rhat_16 un21_17 q0_18 = some r → wk_ E0 (bits_Div64.Q a0 a1 a2 r) (frs (bodyOf Try.f59) [1, 1, 1, 1, 1, 1, 1, 1, 1, 1, 1, 1, 1, 1, 1, 1, 1, 1, 0, 0] []) (sub (bodyOf Try.f59) [1, 1, 1, 1, 1, 1, 1, 1, 1, 1, 1, 1, 1, 1, 1, 1, 1, 1, 0, 0]) ⟨[.u, .u, .i .u64 y_2, .u, .u, .u, .u, .u, .i .u64 s_8, .i .u64 yn1_9, .i .u64 yn0_10, .u, .u, .u, .i .u64 un0_14, .i .u64 q1_15, .i .u64 rhat_16, .i .u64 un21_17, .i .u64 q0_18, .u, .u, .u, .u, .u, .u, .u, .u, .u, .u, .u, .u, .u, .u, .u, .u, .u, .u, .u, .u, .u, .u, .u, .u, .u, .u, .u, .u, .u, .u, .u, .u, .u, .u, .u, .u, .u, .u, .u, .u, .u, .u, .u, .u, .u, .u, .u, .u, .u, .u, .u, .u, .u, .u, .u, .u, .u, .u, .u, .u, .u, .u, .u, .u, .u, .u, .u, .u, .u, .u, .u, .u, .u, .u, .u, .u, .u, .u, .u, .u, .u, .u, .u, .u, .u, .u, .u, .u, .u, .u, .u, .u, .u, .u, .u, .u, .u, .u, .u, .u, .u, .u, .u, .u, .u, .u, .u, .u, .u, .u, .u, .u, .u, .u, .u, .u], ofL [], 0, 0⟩) ∧
    (∀ (y_2 : Int) (s_8 : Int) (yn1_9 : Int) (yn0_10 : Int) (un0_14 : Int) (q1_15 : Int) (rhat_16 : Int) (un21_17 : Int) (q0_18 : Int) (t_113 : Bool) (r : Int × Int), bits_Div64.j4 k y_2 s_8 yn1_9 yn0_10 un0_14 q1_15 rhat_16 un21_17 q0_18 t_113 = some r → kont E0 (bits_Div64.Q a0 a1 a2 r) (frs (bodyOf Try.f59) [1, 1, 1, 1, 1, 1, 1, 1, 1, 1, 1, 1, 1, 1, 1, 1, 1, 1, 0, 0, 0, 0, 0] []) .normal ⟨[.u, .u, .i .u64 y_2, .u, .u, .u, .u, .u, .i .u64 s_8, .i .u64 yn1_9, .i .u64 yn0_10, .u, .u, .u, .i .u64 un0_14, .i .u64 q1_15, .i .u64 rhat_16, .i .u64 un21_17, .i .u64 q0_18, .u, .u, .u, .u, .u, .u, .u, .u, .u, .u, .u, .u, .u, .u, .u, .u, .u, .u, .u, .u, .u, .u, .u, .u, .u, .u, .u, .u, .u, .u, .u, .u, .u, .u, .u, .u, .u, .u, .u, .u, .u, .u, .u, .u, .u, .u, .u, .u, .u, .u, .u, .u, .u, .u, .u, .u, .u, .u, .u, .u, .u, .u, .u, .u, .u, .u, .u, .u, .u, .u, .u, .u, .u, .u, .u, .u, .u, .u, .u, .u, .u, .u, .u, .u, .u, .u, .u, .u, .u, .u, .u, .u, .u, .u, .b t_113, .u, .u, .u, .u, .u, .u, .u, .u, .u, .u, .u, .u, .u, .u, .u, .u, .u, .u, .u, .u, .u], ofL [], 0, 0⟩) := by
  induction k with
  | zero => exact ⟨fun _ _ _ _ _ _ _ _ _ r h => by simp [bits_Div64.l0] at h, fun _ _ _ _ _ _ _ _ _ _ r h => by simp [bits_Div64.j1] at h, fun _ _ _ _ _ _ _ _ r h => by simp [bits_Div64.j2] at h, fun _ _ _ _ _ _ _ _ _ r h => by simp [bits_Div64.l1] at h, fun _ _ _ _ _ _ _ _ _ _ r h => by simp [bits_Div64.j4] at h⟩
  | succ k ih =>
    obtain ⟨ih0, ih1, ih2, ih3, ih4⟩ := ih
    refine ⟨?_, ?_, ?_, ?_, ?_⟩
    · intro y_2 s_8 yn1_9 yn0_10 un32_11 un1_13 un0_14 q1_15 rhat_16 r H
      unfold bits_Div64.l0 at H
      simp only [bodyOf, Try.f59, frs, sub, if_true, if_false, Nat.one_ne_zero]
      refine w_loop ?_
      refine w_seq ?_
      refine w_seq ?_
      refine wR fun K hK => ?_
      refine g_mv rfl rfl (gT ?_)
      refine g_bin rfl rfl rfl rfl rfl (gT ?_)
      refine g_mv rfl rfl (gT ?_)
      rcases its H with ⟨c9, H⟩ | ⟨c9, H⟩
      · have c9b := decide_eq_true c9; try simp only [c9b, nrm]
        refine g_sk rfl rfl (gT ?_)
        refine g_sk rfl rfl (gT ?_)
        refine g_sk rfl rfl (gT ?_)
        refine g_sk rfl rfl (gT ?_)
        refine g_sk rfl rfl (gT ?_)
        refine g_sk rfl rfl (gT ?_)
        refine g_sk rfl rfl (gT ?_)
        refine g_sk rfl rfl (gT ?_)
        refine g_pick rfl rfl rfl (gT ?_)
        refine g_nil (hK _ _ _ ?_)
        refine k_wk (σ := []) [2, 5, 0, 0, 0, 1, 0, 0, 0, 61] rfl (by decide) rfl ?_; refine gC ?_
        exact gI (ih1 y_2 s_8 yn1_9 yn0_10 un32_11 un1_13 un0_14 q1_15 rhat_16 true r H)
      · have c9b := decide_eq_false c9; try simp only [c9b, nrm]
        refine g_mv rfl rfl (gT ?_)
        refine g_mv rfl rfl (gT ?_)
        refine g_bin rfl rfl rfl rfl rfl (gT ?_)
        refine g_mv rfl rfl (gT ?_)
        refine g_bin rfl rfl rfl rfl rfl (gT ?_)
        refine g_mv rfl rfl (gT ?_)
        refine g_bin rfl rfl rfl rfl rfl (gT ?_)
        refine g_bin rfl rfl rfl rfl rfl (gT ?_)
        refine g_pick rfl rfl rfl (gT ?_)
        refine g_nil (hK _ _ _ ?_)
        refine k_wk (σ := []) [2, 5, 0, 0, 0, 1, 0, 0, 0, 61] rfl (by decide) rfl ?_; refine gC ?_
        exact gI (ih1 y_2 s_8 yn1_9 yn0_10 un32_11 un1_13 un0_14 q1_15 rhat_16 (decide ((IntKind.u64.wrap (q1_15 * yn0_10)) > (IntKind.u64.wrap ((IntKind.u64.wrap (4294967296 * rhat_16)) + un1_13)))) r H)
    · intro y_2 s_8 yn1_9 yn0_10 un32_11 un1_13 un0_14 q1_15 rhat_16 t_78 r H
      unfold bits_Div64.j1 at H
      simp only [bodyOf, Try.f59, frs, sub, if_true, if_false, Nat.one_ne_zero]
      refine k_seq ?_
      rcases its H with ⟨c10, H⟩ | ⟨c10, H⟩
      · have c10b : t_78 = true := c10; try simp only [c10b, nrm]
        refine w_cond rfl (fun _ => ?_) (fun h => Bool.noConfusion h)
        refine w_skip ?_
        refine k_seq ?_
        refine w_block ?_
        refine w_seq ?_
        refine wR fun K hK => ?_
        refine g_mv rfl rfl (gT ?_)
        refine g_bin rfl rfl rfl rfl rfl (gT ?_)
        refine g_as rfl rfl (gT ?_)
        refine g_nil (hK _ _ _ ?_)
        refine k_seq ?_
        refine w_seq ?_
        refine wR fun K hK => ?_
        refine g_mv rfl rfl (gT ?_)
        refine g_mv rfl rfl (gT ?_)
        refine g_bin rfl rfl rfl rfl rfl (gT ?_)
        refine g_as rfl rfl (gT ?_)
        refine g_nil (hK _ _ _ ?_)
        refine k_seq ?_
        refine w_seq ?_
        refine wR fun K hK => ?_
        refine g_mv rfl rfl (gT ?_)
        refine g_bin rfl rfl rfl rfl rfl (gT ?_)
        refine g_nil (hK _ _ _ ?_)
        refine k_seq ?_
        rcases its H with ⟨c11, H⟩ | ⟨c11, H⟩
        · have c11b := decide_eq_true c11; try simp only [c11b, nrm]
          refine w_cond rfl (fun _ => ?_) (fun h => Bool.noConfusion h)
          refine w_exit rfl ?_
          refine k_wk (σ := []) [2, 5, 0, 0, 0, 1, 0, 0] rfl (by decide) rfl ?_; refine gC ?_
          exact gI (ih2 y_2 s_8 yn1_9 yn0_10 un32_11 un1_13 un0_14 (IntKind.u64.wrap (q1_15 - 1)) r H)
        · have c11b := decide_eq_false c11; try simp only [c11b, nrm]
          refine w_cond rfl (fun h => Bool.noConfusion h) (fun _ => ?_)
          refine w_skip ?_
          refine k_block ?_
          refine k_loop ?_
          refine w_wk (σ := []) [2, 5, 0, 0, 0, 1, 0, 0, 0] rfl (by decide) ?_; refine gC ?_
          exact gI (ih0 y_2 s_8 yn1_9 yn0_10 un32_11 un1_13 un0_14 (IntKind.u64.wrap (q1_15 - 1)) (IntKind.u64.wrap (rhat_16 + yn1_9)) r H)
      · have c10b : t_78 = false := Bool.eq_false_iff.mpr c10; try simp only [c10b, nrm]
        refine w_cond rfl (fun h => Bool.noConfusion h) (fun _ => ?_)
        refine w_exit rfl ?_
        refine k_wk (σ := []) [2, 5, 0, 0, 0, 1, 0, 0] rfl (by decide) rfl ?_; refine gC ?_
        exact gI (ih2 y_2 s_8 yn1_9 yn0_10 un32_11 un1_13 un0_14 q1_15 r H)
    · intro y_2 s_8 yn1_9 yn0_10 un32_11 un1_13 un0_14 q1_15 r H
      unfold bits_Div64.j2 at H
      simp only [bodyOf, Try.f59, frs, sub, if_true, if_false, Nat.one_ne_zero]
      refine k_seq ?_
      refine w_seq ?_
      refine wR fun K hK => ?_
      refine g_mv rfl rfl (gT ?_)
      refine g_bin rfl rfl rfl rfl rfl (gT ?_)
      refine g_mv rfl rfl (gT ?_)
      refine g_bin rfl rfl rfl rfl rfl (gT ?_)
      refine g_mv rfl rfl (gT ?_)
      refine g_mv rfl rfl (gT ?_)
      refine g_bin rfl rfl rfl rfl rfl (gT ?_)
      refine g_bin rfl rfl rfl rfl rfl (gT ?_)
      refine g_as rfl rfl (gT ?_)
      refine g_nil (hK _ _ _ ?_)
      refine k_seq ?_
      refine w_seq ?_
      refine wR fun K hK => ?_
      refine g_mv rfl rfl (gT ?_)
      refine g_mv rfl rfl (gT ?_)
      obtain ⟨c12, H⟩ := it0 H
      refine g_quo rfl rfl rfl rfl (by first | assumption | omega) (gT ?_)
      refine g_as rfl rfl (gT ?_)
      refine g_nil (hK _ _ _ ?_)
      refine k_seq ?_
      refine w_seq ?_
      refine wR fun K hK => ?_
      refine g_mv rfl rfl (gT ?_)
      refine g_mv rfl rfl (gT ?_)
      refine g_mv rfl rfl (gT ?_)
      refine g_bin rfl rfl rfl rfl rfl (gT ?_)
      refine g_bin rfl rfl rfl rfl rfl (gT ?_)
      refine g_as rfl rfl (gT ?_)
      refine g_nil (hK _ _ _ ?_)
      refine k_seq ?_
      refine w_seq ?_
      refine w_block ?_
      refine w_wk (σ := []) [2, 5, 0, 0, 3, 0, 0, 0, 0] rfl (by decide) ?_; refine gC ?_
      exact gI (ih3 y_2 s_8 yn1_9 yn0_10 un0_14 q1_15 (IntKind.u64.wrap ((IntKind.u64.wrap ((IntKind.u64.wrap ((IntKind.u64.wrap (un32_11 * 4294967296)) + un1_13)) - (IntKind.u64.wrap (q1_15 * y_2)))) - (IntKind.u64.wrap ((IntKind.u64.wrap (Int.tdiv (IntKind.u64.wrap ((IntKind.u64.wrap ((IntKind.u64.wrap (un32_11 * 4294967296)) + un1_13)) - (IntKind.u64.wrap (q1_15 * y_2)))) yn1_9)) * yn1_9)))) (IntKind.u64.wrap ((IntKind.u64.wrap ((IntKind.u64.wrap (un32_11 * 4294967296)) + un1_13)) - (IntKind.u64.wrap (q1_15 * y_2)))) (IntKind.u64.wrap (Int.tdiv (IntKind.u64.wrap ((IntKind.u64.wrap ((IntKind.u64.wrap (un32_11 * 4294967296)) + un1_13)) - (IntKind.u64.wrap (q1_15 * y_2)))) yn1_9)) r H)
    · intro y_2 s_8 yn1_9 yn0_10 un0_14 q1_15 rhat_16 un21_17 q0_18 r H
      unfold bits_Div64.l1 at H
      simp only [bodyOf, Try.f59, frs, sub, if_true, if_false, Nat.one_ne_zero]
      refine w_loop ?_
      refine w_seq ?_
      refine w_seq ?_
      refine wR fun K hK => ?_
      refine g_mv rfl rfl (gT ?_)
      refine g_bin rfl rfl rfl rfl rfl (gT ?_)
      refine g_mv rfl rfl (gT ?_)
      rcases its H with ⟨c13, H⟩ | ⟨c13, H⟩
      · have c13b := decide_eq_true c13; try simp only [c13b, nrm]
        refine g_sk rfl rfl (gT ?_)
        refine g_sk rfl rfl (gT ?_)
        refine g_sk rfl rfl (gT ?_)
        refine g_sk rfl rfl (gT ?_)
        refine g_sk rfl rfl (gT ?_)
        refine g_sk rfl rfl (gT ?_)
        refine g_sk rfl rfl (gT ?_)
        refine g_sk rfl rfl (gT ?_)
        refine g_pick rfl rfl rfl (gT ?_)
        refine g_nil (hK _ _ _ ?_)
        refine k_wk (σ := []) [2, 5, 0, 0, 3, 0, 0, 0, 0, 94] rfl (by decide) rfl ?_; refine gC ?_
        exact gI (ih4 y_2 s_8 yn1_9 yn0_10 un0_14 q1_15 rhat_16 un21_17 q0_18 true r H)
      · have c13b := decide_eq_false c13; try simp only [c13b, nrm]
        refine g_mv rfl rfl (gT ?_)
        refine g_mv rfl rfl (gT ?_)
        refine g_bin rfl rfl rfl rfl rfl (gT ?_)
        refine g_mv rfl rfl (gT ?_)
        refine g_bin rfl rfl rfl rfl rfl (gT ?_)
        refine g_mv rfl rfl (gT ?_)
        refine g_bin rfl rfl rfl rfl rfl (gT ?_)
        refine g_bin rfl rfl rfl rfl rfl (gT ?_)
        refine g_pick rfl rfl rfl (gT ?_)
        refine g_nil (hK _ _ _ ?_)
        refine k_wk (σ := []) [2, 5, 0, 0, 3, 0, 0, 0, 0, 94] rfl (by decide) rfl ?_; refine gC ?_
        exact gI (ih4 y_2 s_8 yn1_9 yn0_10 un0_14 q1_15 rhat_16 un21_17 q0_18 (decide ((IntKind.u64.wrap (q0_18 * yn0_10)) > (IntKind.u64.wrap ((IntKind.u64.wrap (4294967296 * rhat_16)) + un0_14)))) r H)
    · intro y_2 s_8 yn1_9 yn0_10 un0_14 q1_15 rhat_16 un21_17 q0_18 t_113 r H
      unfold bits_Div64.j4 at H
      simp only [bodyOf, Try.f59, frs, sub, if_true, if_false, Nat.one_ne_zero]
      refine k_seq ?_
      rcases its H with ⟨c14, H⟩ | ⟨c14, H⟩
      · have c14b : t_113 = true := c14; try simp only [c14b, nrm]
        refine w_cond rfl (fun _ => ?_) (fun h => Bool.noConfusion h)
        refine w_skip ?_
        refine k_seq ?_
        refine w_block ?_
        refine w_seq ?_
        refine wR fun K hK => ?_
        refine g_mv rfl rfl (gT ?_)
        refine g_bin rfl rfl rfl rfl rfl (gT ?_)
        refine g_as rfl rfl (gT ?_)
        refine g_nil (hK _ _ _ ?_)
        refine k_seq ?_
        refine w_seq ?_
        refine wR fun K hK => ?_
        refine g_mv rfl rfl (gT ?_)
        refine g_mv rfl rfl (gT ?_)
        refine g_bin rfl rfl rfl rfl rfl (gT ?_)
        refine g_as rfl rfl (gT ?_)
        refine g_nil (hK _ _ _ ?_)
        refine k_seq ?_
        refine w_seq ?_
        refine wR fun K hK => ?_
        refine g_mv rfl rfl (gT ?_)
        refine g_bin rfl rfl rfl rfl rfl (gT ?_)
        refine g_nil (hK _ _ _ ?_)
        refine k_seq ?_
        rcases its H with ⟨c15, H⟩ | ⟨c15, H⟩
        · have c15b := decide_eq_true c15; try simp only [c15b, nrm]
          refine w_cond rfl (fun _ => ?_) (fun h => Bool.noConfusion h)
          refine w_exit rfl ?_
          refine k_seq ?_
          refine w_seq ?_
          refine wR fun K hK => ?_
          refine g_mv rfl rfl (gT ?_)
          refine g_bin rfl rfl rfl rfl rfl (gT ?_)
          refine g_mv rfl rfl (gT ?_)
          refine g_bin rfl rfl rfl rfl rfl (gT ?_)
          refine g_mv rfl rfl (gT ?_)
          refine g_bin rfl rfl rfl rfl rfl (gT ?_)
          refine g_mv rfl rfl (gT ?_)
          refine g_bin rfl rfl rfl rfl rfl (gT ?_)
          refine g_mv rfl rfl (gT ?_)
          refine g_mv rfl rfl (gT ?_)
          refine g_bin rfl rfl rfl rfl rfl (gT ?_)
          refine g_bin rfl rfl rfl rfl rfl (gT ?_)
          refine g_mv rfl rfl (gT ?_)
          obtain ⟨c16, H⟩ := it1 H
          refine g_shr rfl rfl rfl rfl (by omega) (gT ?_)
          refine g_as rfl rfl (gT ?_)
          refine g_as rfl rfl (gT ?_)
          refine g_nil (hK _ _ _ ?_)
          refine k_seq ?_
          refine w_ret ?_
          refine fin_wp (τ := []) rfl (by decide) ?_; rw [← Option.some.inj H]; simp only [Try.f59]; exact gF
        · have c15b := decide_eq_false c15; try simp only [c15b, nrm]
          refine w_cond rfl (fun h => Bool.noConfusion h) (fun _ => ?_)
          refine w_skip ?_
          refine k_block ?_
          refine k_loop ?_
          refine w_wk (σ := []) [2, 5, 0, 0, 3, 0, 0, 0, 0] rfl (by decide) ?_; refine gC ?_
          exact gI (ih3 y_2 s_8 yn1_9 yn0_10 un0_14 q1_15 (IntKind.u64.wrap (rhat_16 + yn1_9)) un21_17 (IntKind.u64.wrap (q0_18 - 1)) r H)
      · have c14b : t_113 = false := Bool.eq_false_iff.mpr c14; try simp only [c14b, nrm]
        refine w_cond rfl (fun h => Bool.noConfusion h) (fun _ => ?_)
        refine w_exit rfl ?_
        refine k_seq ?_
        refine w_seq ?_
        refine wR fun K hK => ?_
        refine g_mv rfl rfl (gT ?_)
        refine g_bin rfl rfl rfl rfl rfl (gT ?_)
        refine g_mv rfl rfl (gT ?_)
        refine g_bin rfl rfl rfl rfl rfl (gT ?_)
        refine g_mv rfl rfl (gT ?_)
        refine g_bin rfl rfl rfl rfl rfl (gT ?_)
        refine g_mv rfl rfl (gT ?_)
        refine g_bin rfl rfl rfl rfl rfl (gT ?_)
        refine g_mv rfl rfl (gT ?_)
        refine g_mv rfl rfl (gT ?_)
        refine g_bin rfl rfl rfl rfl rfl (gT ?_)
        refine g_bin rfl rfl rfl rfl rfl (gT ?_)
        refine g_mv rfl rfl (gT ?_)
        obtain ⟨c17, H⟩ := it1 H
        refine g_shr rfl rfl rfl rfl (by omega) (gT ?_)
        refine g_as rfl rfl (gT ?_)
        refine g_as rfl rfl (gT ?_)
        refine g_nil (hK _ _ _ ?_)
        refine k_seq ?_
        refine w_ret ?_
        refine fin_wp (τ := []) rfl (by decide) ?_; rw [← Option.some.inj H]; simp only [Try.f59]; exact gF
set_option maxHeartbeats 8000000 in
set_option maxRecDepth 100000 in
theorem bits_Div64.does {k : Nat} {a0 : Int} {a1 : Int} {a2 : Int} {r : Int × Int} (H : bits_Div64.f k a0 a1 a2 = some r) : Do E0 (.fn 59 [.i .u64 a0, .i .u64 a1, .i .u64 a2] [] (.t [.i .u64 r.1, .i .u64 r.2]) []) := by
  obtain ⟨ih0, ih1, ih2, ih3, ih4⟩ := bits_Div64.does_l (a0 := a0) (a1 := a1) (a2 := a2) k
  refine fn_wpl Try.func59 rfl (Q := (bits_Div64.Q a0 a1 a2 r)) (fun s h => h) ?_
  unfold bits_Div64.f at H
  simp only [Try.ntmps59, List.length, List.replicate, Nat.reduceAdd, Nat.reduceSub, List.cons_append, List.nil_append]
  refine w_seq ?_
  refine wR fun K hK => ?_
  refine g_as rfl rfl (gT ?_)
  refine g_as rfl rfl (gT ?_)
  refine g_nil (hK _ _ _ ?_)
  refine k_seq ?_
  refine w_seq ?_
  refine w_seq ?_
  refine wR fun K hK => ?_
  refine g_mv rfl rfl (gT ?_)
  refine g_bin rfl rfl rfl rfl rfl (gT ?_)
  refine g_nil (hK _ _ _ ?_)
  refine k_seq ?_
  rcases its H with ⟨c1, H⟩ | ⟨c1, H⟩
  · have c1b := beq_iff_eq.mpr c1; have c1n := bne_eq_false_iff_eq.mpr c1; try simp only [c1b, c1n, nrm]
    refine w_cond rfl (fun _ => ?_) (fun h => Bool.noConfusion h)
    refine wR fun K hK => ?_
    cases H
  · have c1b := beq_eq_false_iff_ne.mpr c1; have c1n := bne_iff_ne.mpr c1; try simp only [c1b, c1n, nrm]
    refine w_cond rfl (fun h => Bool.noConfusion h) (fun _ => ?_)
    refine w_skip ?_
    refine k_seq ?_
    refine w_seq ?_
    refine w_seq ?_
    refine wR fun K hK => ?_
    refine g_mv rfl rfl (gT ?_)
    refine g_mv rfl rfl (gT ?_)
    refine g_bin rfl rfl rfl rfl rfl (gT ?_)
    refine g_nil (hK _ _ _ ?_)
    refine k_seq ?_
    rcases its H with ⟨c2, H⟩ | ⟨c2, H⟩
    · have c2b := decide_eq_true c2; try simp only [c2b, nrm]
      refine w_cond rfl (fun _ => ?_) (fun h => Bool.noConfusion h)
      refine wR fun K hK => ?_
      cases H
    · have c2b := decide_eq_false c2; try simp only [c2b, nrm]
      refine w_cond rfl (fun h => Bool.noConfusion h) (fun _ => ?_)
      refine w_skip ?_
      refine k_seq ?_
      refine w_seq ?_
      refine w_seq ?_
      refine wR fun K hK => ?_
      refine g_mv rfl rfl (gT ?_)
      refine g_bin rfl rfl rfl rfl rfl (gT ?_)
      refine g_nil (hK _ _ _ ?_)
      refine k_seq ?_
      rcases its H with ⟨c3, H⟩ | ⟨c3, H⟩
      · have c3b := beq_iff_eq.mpr c3; have c3n := bne_eq_false_iff_eq.mpr c3; try simp only [c3b, c3n, nrm]
        refine w_cond rfl (fun _ => ?_) (fun h => Bool.noConfusion h)
        refine w_seq ?_
        refine wD fun K hK => ?_
        refine g_mv rfl rfl (gT ?_)
        refine g_mv rfl rfl (gT ?_)
        obtain ⟨c4, H⟩ := it0 H
        refine g_quo rfl rfl rfl rfl (by first | assumption | omega) (gT ?_)
        refine g_mv rfl rfl (gT ?_)
        refine g_mv rfl rfl (gT ?_)
        refine g_rem rfl rfl rfl rfl (by first | assumption | omega) (gT ?_)
        refine g_as rfl rfl (gT ?_)
        refine g_as rfl rfl (gT ?_)
        refine g_nil (hK _ _ _ (by kernel_rfl) ?_)
        refine k_seq ?_
        refine w_ret ?_
        refine fin_wp (τ := []) rfl (by decide) ?_; rw [← Option.some.inj H]; simp only [Try.f59]; exact gF
      · have c3b := beq_eq_false_iff_ne.mpr c3; have c3n := bne_iff_ne.mpr c3; try simp only [c3b, c3n, nrm]
        refine w_cond rfl (fun h => Bool.noConfusion h) (fun _ => ?_)
        refine w_skip ?_
        refine k_seq ?_
        refine w_seq ?_
        refine wR fun K hK => ?_
        refine g_mv rfl rfl (gT ?_)
        obtain ⟨q5, hq5, H⟩ := bnd H
        refine g_cs [] rfl rfl (by rfl) Try.func61 rfl (by decide) (bits_LeadingZeros64.does hq5) ⟨Nat.le_of_ble_eq_true rfl, Nat.le_of_ble_eq_true rfl⟩ ?_; refine gC ?_
        refine g_conv rfl rfl Try.underlying3 Try.underlying72 rfl (gT ?_)
        refine g_as rfl rfl (gT ?_)
        refine g_nil (hK _ _ _ ?_)
        refine k_seq ?_
        refine w_seq ?_
        refine wR fun K hK => ?_
        refine g_mv rfl rfl (gT ?_)
        refine g_mv rfl rfl (gT ?_)
        obtain ⟨c6, H⟩ := it1 H
        refine g_shl rfl rfl rfl rfl (by omega) (gT ?_)
        refine g_as rfl rfl (gT ?_)
        refine g_nil (hK _ _ _ ?_)
        refine k_seq ?_
        refine w_seq ?_
        refine wR fun K hK => ?_
        refine g_mv rfl rfl (gT ?_)
        refine g_shrc (p := 4294967296) rfl rfl rfl rfl (by decide) (by rfl) (gT ?_)
        refine g_as rfl rfl (gT ?_)
        refine g_nil (hK _ _ _ ?_)
        refine k_seq ?_
        refine w_seq ?_
        refine wR fun K hK => ?_
        refine g_mv rfl rfl (gT ?_)
        refine g_bin rfl rfl rfl rfl rfl (gT ?_)
        refine g_as rfl rfl (gT ?_)
        refine g_nil (hK _ _ _ ?_)
        refine k_seq ?_
        refine w_seq ?_
        refine wR fun K hK => ?_
        refine g_mv rfl rfl (gT ?_)
        refine g_mv rfl rfl (gT ?_)
        refine g_shl rfl rfl rfl rfl (by omega) (gT ?_)
        refine g_mv rfl rfl (gT ?_)
        refine g_mv rfl rfl (gT ?_)
        refine g_bin rfl rfl rfl rfl rfl (gT ?_)
        obtain ⟨c7, H⟩ := it1 H
        refine g_shr rfl rfl rfl rfl (by omega) (gT ?_)
        refine g_bin rfl rfl rfl rfl rfl (gT ?_)
        refine g_as rfl rfl (gT ?_)
        refine g_nil (hK _ _ _ ?_)
        refine k_seq ?_
        refine w_seq ?_
        refine wR fun K hK => ?_
        refine g_mv rfl rfl (gT ?_)
        refine g_mv rfl rfl (gT ?_)
        refine g_shl rfl rfl rfl rfl (by omega) (gT ?_)
        refine g_as rfl rfl (gT ?_)
        refine g_nil (hK _ _ _ ?_)
        refine k_seq ?_
        refine w_seq ?_
        refine wR fun K hK => ?_
        refine g_mv rfl rfl (gT ?_)
        refine g_shrc (p := 4294967296) rfl rfl rfl rfl (by decide) (by rfl) (gT ?_)
        refine g_as rfl rfl (gT ?_)
        refine g_nil (hK _ _ _ ?_)
        refine k_seq ?_
        refine w_seq ?_
        refine wR fun K hK => ?_
        refine g_mv rfl rfl (gT ?_)
        refine g_bin rfl rfl rfl rfl rfl (gT ?_)
        refine g_as rfl rfl (gT ?_)
        refine g_nil (hK _ _ _ ?_)
        refine k_seq ?_
        refine w_seq ?_
        refine wR fun K hK => ?_
        refine g_mv rfl rfl (gT ?_)
        refine g_mv rfl rfl (gT ?_)
        obtain ⟨c8, H⟩ := it0 H
        refine g_quo rfl rfl rfl rfl (by first | assumption | omega) (gT ?_)
        refine g_as rfl rfl (gT ?_)
        refine g_nil (hK _ _ _ ?_)
        refine k_seq ?_
        refine w_seq ?_
        refine wR fun K hK => ?_
        refine g_mv rfl rfl (gT ?_)
        refine g_mv rfl rfl (gT ?_)
        refine g_mv rfl rfl (gT ?_)
        refine g_bin rfl rfl rfl rfl rfl (gT ?_)
        refine g_bin rfl rfl rfl rfl rfl (gT ?_)
        refine g_as rfl rfl (gT ?_)
        refine g_nil (hK _ _ _ ?_)
        refine k_seq ?_
        refine w_seq ?_
        refine w_block ?_
        refine w_wk (σ := []) [2, 5, 0, 0, 0, 1, 0, 0, 0] rfl (by decide) ?_; refine gC ?_
        exact gI (ih0 (shl .u64 a2 (IntKind.u64.wrap (q5))) (IntKind.u64.wrap (q5)) ((shl .u64 a2 (IntKind.u64.wrap (q5))) / 4294967296) (Go.bits .and .u64 (shl .u64 a2 (IntKind.u64.wrap (q5))) 4294967295) (Go.bits .or .u64 (shl .u64 a0 (IntKind.u64.wrap (q5))) (shr .u64 a1 (IntKind.u64.wrap (64 - (IntKind.u64.wrap (q5)))))) ((shl .u64 a1 (IntKind.u64.wrap (q5))) / 4294967296) (Go.bits .and .u64 (shl .u64 a1 (IntKind.u64.wrap (q5))) 4294967295) (IntKind.u64.wrap (Int.tdiv (Go.bits .or .u64 (shl .u64 a0 (IntKind.u64.wrap (q5))) (shr .u64 a1 (IntKind.u64.wrap (64 - (IntKind.u64.wrap (q5)))))) ((shl .u64 a2 (IntKind.u64.wrap (q5))) / 4294967296))) (IntKind.u64.wrap ((Go.bits .or .u64 (shl .u64 a0 (IntKind.u64.wrap (q5))) (shr .u64 a1 (IntKind.u64.wrap (64 - (IntKind.u64.wrap (q5)))))) - (IntKind.u64.wrap ((IntKind.u64.wrap (Int.tdiv (Go.bits .or .u64 (shl .u64 a0 (IntKind.u64.wrap (q5))) (shr .u64 a1 (IntKind.u64.wrap (64 - (IntKind.u64.wrap (q5)))))) ((shl .u64 a2 (IntKind.u64.wrap (q5))) / 4294967296))) * ((shl .u64 a2 (IntKind.u64.wrap (q5))) / 4294967296))))) r H)

set_option maxHeartbeats 8000000 in
set_option maxRecDepth 100000 in
theorem wide_Wide_Div.does {k : Nat} {a0_0 : Int} {a0_1 : Int} {a1 : Int} {r : Int × Int × Bool} (H : wide_Wide_Div.f k a0_0 a0_1 a1 = some r) : Do E0 (.fn 50 [.a [.i .u64 a0_0, .i .u64 a0_1], .i .u64 a1] [] (.t [.i .u64 r.1, .i .u64 r.2.1, .b r.2.2]) []) := by
  refine fn_wpl Try.func50 rfl (Q := (wide_Wide_Div.Q a0_0 a0_1 a1 r)) (fun s h => h) ?_
  unfold wide_Wide_Div.f at H
  simp only [Try.ntmps50, List.length, List.replicate, Nat.reduceAdd, Nat.reduceSub, List.cons_append, List.nil_append]
  refine w_seq ?_
  refine wR fun K hK => ?_
  refine g_box rfl rfl rfl (by rfl) (gU ?_)
  refine g_as rfl rfl (gT ?_)
  refine g_as rfl rfl (gT ?_)
  refine g_as rfl rfl (gT ?_)
  refine g_nil (hK _ _ _ ?_)
  refine k_seq ?_
  refine w_seq ?_
  refine w_seq ?_
  refine wR fun K hK => ?_
  refine g_fd rfl rfl fa67_0 rfl (gT ?_)
  refine g_ldc rfl rfl ag35 sz35 rfl rfl rfl (gT ?_)
  refine g_mv rfl rfl (gT ?_)
  refine g_bin rfl rfl rfl rfl rfl (gT ?_)
  refine g_nil (hK _ _ _ ?_)
  refine k_seq ?_
  rcases its H with ⟨c1, H⟩ | ⟨c1, H⟩
  · have c1b := decide_eq_true c1; try simp only [c1b, nrm]
    refine w_cond rfl (fun _ => ?_) (fun h => Bool.noConfusion h)
    refine w_seq ?_
    refine wR fun K hK => ?_
    refine g_as rfl rfl (gT ?_)
    refine g_as rfl rfl (gT ?_)
    refine g_as rfl rfl (gT ?_)
    refine g_nil (hK _ _ _ ?_)
    refine k_seq ?_
    refine w_ret ?_
    refine fin_wp (τ := []) rfl (by decide) ?_; rw [← Option.some.inj H]; simp only [Try.f50]; exact gF
  · have c1b := decide_eq_false c1; try simp only [c1b, nrm]
    refine w_cond rfl (fun h => Bool.noConfusion h) (fun _ => ?_)
    refine w_skip ?_
    refine k_seq ?_
    refine w_seq ?_
    refine wR fun K hK => ?_
    refine g_fd rfl rfl fa67_0 rfl (gT ?_)
    refine g_ldc rfl rfl ag35 sz35 rfl rfl rfl (gT ?_)
    refine g_fd rfl rfl fa67_1 rfl (gT ?_)
    refine g_ldc rfl rfl ag35 sz35 rfl rfl rfl (gT ?_)
    refine g_mv rfl rfl (gT ?_)
    obtain ⟨q2, hq2, H⟩ := bnd H
    refine g_cs [] rfl rfl (by rfl) Try.func59 rfl (by decide) (bits_Div64.does hq2) ⟨Nat.le_of_ble_eq_true rfl, Nat.le_of_ble_eq_true rfl⟩ ?_; refine gC ?_
    refine g_mv rfl rfl (gT ?_)
    refine g_ext rfl rfl rfl (Nat.le_of_ble_eq_true rfl) (gT ?_)
    refine g_ext rfl rfl rfl (Nat.le_of_ble_eq_true rfl) (gT ?_)
    refine g_as rfl rfl (gT ?_)
    refine g_as rfl rfl (gT ?_)
    refine g_nil (hK _ _ _ ?_)
    refine k_seq ?_
    refine w_seq ?_
    refine wR fun K hK => ?_
    refine g_mv rfl rfl (gT ?_)
    refine g_mv rfl rfl (gT ?_)
    refine g_as rfl rfl (gT ?_)
    refine g_as rfl rfl (gT ?_)
    refine g_as rfl rfl (gT ?_)
    refine g_nil (hK _ _ _ ?_)
    refine k_seq ?_
    refine w_ret ?_
    refine fin_wp (τ := []) rfl (by decide) ?_; rw [← Option.some.inj H]; simp only [Try.f50]; exact gF

set_option maxHeartbeats 8000000 in
set_option maxRecDepth 100000 in
theorem soft_Div.does_l {a0 : Int} {a1 : Int} (k : Nat) : (∀ (a_0 : Int) (b_1 : Int) (neg_9 : Bool) (x_10 : Int) (y_11 : Int) (t_42 : Bool) (r : Int × Int), soft_Div.j0 k a_0 b_1 neg_9 x_10 y_11 t_42 = some r → kont E0 (soft_Div.Q a0 a1 r) (frs (bodyOf Try.f33) [1, 1, 1, 1, 0, 0, 0] []) .normal ⟨[.i .u64 a_0, .i .u64 b_1, .u, .u, .u, .u, .u, .u, .u, .b neg_9, .i .i64 x_10, .i .i64 y_11, .u, .u, .u, .u, .u, .u, .u, .u, .u, .u, .u, .u, .u, .u, .u, .u, .u, .u, .u, .u, .u, .u, .u, .u, .u, .u, .u, .u, .u, .u, .b t_42, .u, .u, .u, .u, .u, .u, .u, .u, .u, .u, .u, .u, .u, .u, .u, .u, .u, .u, .u, .u, .u, .u, .u, .u, .u, .u, .u, .u, .u, .u, .u, .u, .u, .u, .u, .u, .u, .u, .u, .u, .u, .u, .u, .u, .u, .u, .u, .u, .u, .u, .u, .u, .u, .u, .u, .u, .u, .u, .u, .u, .u, .u, .u, .u, .u, .u, .u, .u, .u, .u, .u, .u, .u, .u, .u, .u, .u, .u, .u, .u, .u, .u], ofL [], 0, 0⟩) ∧
    (∀ (a_0 : Int) (b_1 : Int) (neg_9 : Bool) (y_11 : Int) (t_62 : Bool) (r : Int × Int), soft_Div.j1 k a_0 b_1 neg_9 y_11 t_62 = some r → kont E0 (soft_Div.Q a0 a1 r) (frs (bodyOf Try.f33) [1, 1, 1, 1, 0, 0, 1, 1, 1, 1, 0] []) .normal ⟨[.i .u64 a_0, .i .u64 b_1, .u, .u, .u, .u, .u, .u, .u, .b neg_9, .u, .i .i64 y_11, .u, .u, .u, .u, .u, .u, .u, .u, .u, .u, .u, .u, .u, .u, .u, .u, .u, .u, .u, .u, .u, .u, .u, .u, .u, .u, .u, .u, .u, .u, .u, .u, .u, .u, .u, .u, .u, .u, .u, .u, .u, .u, .u, .u, .u, .u, .u, .u, .u, .u, .b t_62, .u, .u, .u, .u, .u, .u, .u, .u, .u, .u, .u, .u, .u, .u, .u, .u, .u, .u, .u, .u, .u, .u, .u, .u, .u, .u, .u, .u, .u, .u, .u, .u, .u, .u, .u, .u, .u, .u, .u, .u, .u, .u, .u, .u, .u, .u, .u, .u, .u, .u, .u, .u, .u, .u, .u, .u, .u, .u, .u, .u, .u, .u], ofL [], 0, 0⟩) := by
  induction k with
  | zero => exact ⟨fun _ _ _ _ _ _ r h => by simp [soft_Div.j0] at h, fun _ _ _ _ _ r h => by simp [soft_Div.j1] at h⟩
  | succ k ih =>
    obtain ⟨ih0, ih1⟩ := ih
    refine ⟨?_, ?_⟩
    · intro a_0 b_1 neg_9 x_10 y_11 t_42 r H
      unfold soft_Div.j0 at H
      simp only [bodyOf, Try.f33, frs, sub, if_true, if_false, Nat.one_ne_zero]
      refine k_seq ?_
      rcases its H with ⟨c11, H⟩ | ⟨c11, H⟩
      · have c11b : t_42 = true := c11; try simp only [c11b, nrm]
        refine w_cond rfl (fun _ => ?_) (fun h => Bool.noConfusion h)
        refine w_seq ?_
        refine wR fun K hK => ?_
        refine g_as rfl rfl (gT ?_)
        refine g_as rfl rfl (gT ?_)
        refine g_nil (hK _ _ _ ?_)
        refine k_seq ?_
        refine w_ret ?_
        refine fin_wp (τ := []) rfl (by decide) ?_; rw [← Option.some.inj H]; simp only [Try.f33]; exact gF
      · have c11b : t_42 = false := Bool.eq_false_iff.mpr c11; try simp only [c11b, nrm]
        refine w_cond rfl (fun h => Bool.noConfusion h) (fun _ => ?_)
        refine w_seq ?_
        refine wR fun K hK => ?_
        refine g_mv rfl rfl (gT ?_)
        refine g_bin rfl rfl rfl rfl rfl (gT ?_)
        refine g_as rfl rfl (gT ?_)
        refine g_nil (hK _ _ _ ?_)
        refine k_seq ?_
        rcases its H with ⟨c12, H⟩ | ⟨c12, H⟩
        · have c12b := beq_iff_eq.mpr c12; have c12n := bne_eq_false_iff_eq.mpr c12; try simp only [c12b, c12n, nrm]
          refine w_cond rfl (fun _ => ?_) (fun h => Bool.noConfusion h)
          refine w_seq ?_
          refine wR fun K hK => ?_
          refine g_mv rfl rfl (gT ?_)
          obtain ⟨q13, hq13, H⟩ := bnd H
          refine g_cs [] rfl rfl (by rfl) Try.func46 rfl (by decide) (word_Make.does hq13) ⟨Nat.le_of_ble_eq_true rfl, Nat.le_of_ble_eq_true rfl⟩ ?_; refine gC ?_
          refine g_as rfl rfl (gT ?_)
          refine g_as rfl rfl (gT ?_)
          refine g_nil (hK _ _ _ ?_)
          refine k_seq ?_
          refine w_ret ?_
          refine fin_wp (τ := []) rfl (by decide) ?_; rw [← Option.some.inj H]; simp only [Try.f33]; exact gF
        · have c12b := beq_eq_false_iff_ne.mpr c12; have c12n := bne_iff_ne.mpr c12; try simp only [c12b, c12n, nrm]
          refine w_cond rfl (fun h => Bool.noConfusion h) (fun _ => ?_)
          refine w_seq ?_
          refine wR fun K hK => ?_
          refine g_mv rfl rfl (gT ?_)
          refine g_bin rfl rfl rfl rfl rfl (gT ?_)
          refine g_mv rfl rfl (gT ?_)
          rcases its H with ⟨c14, H⟩ | ⟨c14, H⟩
          · have c14b := beq_iff_eq.mpr c14; have c14n := bne_eq_false_iff_eq.mpr c14; try simp only [c14b, c14n, nrm]
            refine g_sk rfl rfl (gT ?_)
            refine g_sk rfl rfl (gT ?_)
            refine g_pick rfl rfl rfl (gT ?_)
            refine g_as rfl rfl (gT ?_)
            refine g_nil (hK _ _ _ ?_)
            refine k_wk (σ := []) [0, 0, 7, 1, 50] rfl (by decide) rfl ?_; refine gC ?_
            exact gI (ih1 a_0 b_1 neg_9 y_11 true r H)
          · have c14b := beq_eq_false_iff_ne.mpr c14; have c14n := bne_iff_ne.mpr c14; try simp only [c14b, c14n, nrm]
            refine g_mv rfl rfl (gT ?_)
            refine g_bin rfl rfl rfl rfl rfl (gT ?_)
            refine g_pick rfl rfl rfl (gT ?_)
            refine g_as rfl rfl (gT ?_)
            refine g_nil (hK _ _ _ ?_)
            refine k_wk (σ := []) [0, 0, 7, 1, 50] rfl (by decide) rfl ?_; refine gC ?_
            exact gI (ih1 a_0 b_1 neg_9 y_11 (x_10 == 1) r H)
    · intro a_0 b_1 neg_9 y_11 t_62 r H
      unfold soft_Div.j1 at H
      simp only [bodyOf, Try.f33, frs, sub, if_true, if_false, Nat.one_ne_zero]
      refine k_seq ?_
      rcases its H with ⟨c15, H⟩ | ⟨c15, H⟩
      · have c15b : t_62 = true := c15; try simp only [c15b, nrm]
        refine w_cond rfl (fun _ => ?_) (fun h => Bool.noConfusion h)
        refine w_seq ?_
        refine wR fun K hK => ?_
        refine g_mv rfl rfl (gT ?_)
        obtain ⟨q16, hq16, H⟩ := bnd H
        refine g_cs [] rfl rfl (by rfl) Try.func46 rfl (by decide) (word_Make.does hq16) ⟨Nat.le_of_ble_eq_true rfl, Nat.le_of_ble_eq_true rfl⟩ ?_; refine gC ?_
        refine g_as rfl rfl (gT ?_)
        refine g_as rfl rfl (gT ?_)
        refine g_nil (hK _ _ _ ?_)
        refine k_seq ?_
        refine w_ret ?_
        refine fin_wp (τ := []) rfl (by decide) ?_; rw [← Option.some.inj H]; simp only [Try.f33]; exact gF
      · have c15b : t_62 = false := Bool.eq_false_iff.mpr c15; try simp only [c15b, nrm]
        refine w_cond rfl (fun h => Bool.noConfusion h) (fun _ => ?_)
        refine w_seq ?_
        refine wR fun K hK => ?_
        refine g_mv rfl rfl (gT ?_)
        refine g_bin rfl rfl rfl rfl rfl (gT ?_)
        refine g_as rfl rfl (gT ?_)
        refine g_nil (hK _ _ _ ?_)
        refine k_seq ?_
        rcases its H with ⟨c17, H⟩ | ⟨c17, H⟩
        · have c17b := beq_iff_eq.mpr c17; have c17n := bne_eq_false_iff_eq.mpr c17; try simp only [c17b, c17n, nrm]
          refine w_cond rfl (fun _ => ?_) (fun h => Bool.noConfusion h)
          refine w_seq ?_
          refine wR fun K hK => ?_
          refine g_mv rfl rfl (gT ?_)
          obtain ⟨q18, hq18, H⟩ := bnd H
          refine g_cs [] rfl rfl (by rfl) Try.func46 rfl (by decide) (word_Make.does hq18) ⟨Nat.le_of_ble_eq_true rfl, Nat.le_of_ble_eq_true rfl⟩ ?_; refine gC ?_
          refine g_as rfl rfl (gT ?_)
          refine g_as rfl rfl (gT ?_)
          refine g_nil (hK _ _ _ ?_)
          refine k_seq ?_
          refine w_ret ?_
          refine fin_wp (τ := []) rfl (by decide) ?_; rw [← Option.some.inj H]; simp only [Try.f33]; exact gF
        · have c17b := beq_eq_false_iff_ne.mpr c17; have c17n := bne_iff_ne.mpr c17; try simp only [c17b, c17n, nrm]
          refine w_cond rfl (fun h => Bool.noConfusion h) (fun _ => ?_)
          refine w_skip ?_
          refine k_block ?_
          refine k_seq ?_
          refine w_seq ?_
          refine wR fun K hK => ?_
          refine g_mv rfl rfl (gT ?_)
          obtain ⟨q19, hq19, H⟩ := bnd H
          refine g_cs [] rfl rfl (by rfl) Try.func47 rfl (by decide) (word_Parts.does hq19) ⟨Nat.le_of_ble_eq_true rfl, Nat.le_of_ble_eq_true rfl⟩ ?_; refine gC ?_
          refine g_mv rfl rfl (gT ?_)
          refine g_ext rfl rfl rfl (Nat.le_of_ble_eq_true rfl) (gT ?_)
          refine g_ext rfl rfl rfl (Nat.le_of_ble_eq_true rfl) (gT ?_)
          refine g_as rfl rfl (gT ?_)
          refine g_as rfl rfl (gT ?_)
          refine g_nil (hK _ _ _ ?_)
          refine k_seq ?_
          refine w_seq ?_
          refine wR fun K hK => ?_
          refine g_mv rfl rfl (gT ?_)
          obtain ⟨q20, hq20, H⟩ := bnd H
          refine g_cs [] rfl rfl (by rfl) Try.func47 rfl (by decide) (word_Parts.does hq20) ⟨Nat.le_of_ble_eq_true rfl, Nat.le_of_ble_eq_true rfl⟩ ?_; refine gC ?_
          refine g_mv rfl rfl (gT ?_)
          refine g_ext rfl rfl rfl (Nat.le_of_ble_eq_true rfl) (gT ?_)
          refine g_ext rfl rfl rfl (Nat.le_of_ble_eq_true rfl) (gT ?_)
          refine g_as rfl rfl (gT ?_)
          refine g_as rfl rfl (gT ?_)
          refine g_nil (hK _ _ _ ?_)
          refine k_seq ?_
          refine w_seq ?_
          refine wR fun K hK => ?_
          refine g_mv rfl rfl (gT ?_)
          refine g_bd rfl rfl zr67 Try.underlying67 (pl := [(0, 1), (1, 1)]) (by kernel_rfl) ?_; refine gB ?_
          obtain ⟨q21, hq21, H⟩ := bnd H
          refine g_cs [] rfl rfl (by rfl) Try.func49 rfl (by decide) (wide_Wide_Len.does hq21) ⟨Nat.le_of_ble_eq_true rfl, Nat.le_of_ble_eq_true rfl⟩ ?_; refine gC ?_
          refine g_bin rfl rfl rfl rfl rfl (gT ?_)
          refine g_mv rfl rfl (gT ?_)
          refine g_bd rfl rfl zr67 Try.underlying67 (pl := [(0, 1), (1, 1)]) (by kernel_rfl) ?_; refine gB ?_
          obtain ⟨q22, hq22, H⟩ := bnd H
          refine g_cs [] rfl rfl (by rfl) Try.func49 rfl (by decide) (wide_Wide_Len.does hq22) ⟨Nat.le_of_ble_eq_true rfl, Nat.le_of_ble_eq_true rfl⟩ ?_; refine gC ?_
          refine g_bin rfl rfl rfl rfl rfl (gT ?_)
          refine g_as rfl rfl (gT ?_)
          refine g_as rfl rfl (gT ?_)
          refine g_nil (hK _ _ _ ?_)
          refine k_seq ?_
          refine w_seq ?_
          refine wR fun K hK => ?_
          refine g_mv rfl rfl (gT ?_)
          refine g_mv rfl rfl (gT ?_)
          refine g_bin rfl rfl rfl rfl rfl (gT ?_)
          obtain ⟨c23, H⟩ := it1 H
          refine g_shl rfl rfl rfl rfl (by omega) (gT ?_)
          refine g_bd rfl rfl zr67 Try.underlying67 (pl := [(0, 1), (1, 1)]) (by kernel_rfl) ?_; refine gB ?_
          refine g_alloc rfl rfl zr67 (gU ?_)
          refine g_st rfl rfl sz67 rfl rfl rfl (by rfl) (Nat.le_of_ble_eq_true rfl) (gU ?_)
          refine g_nil (hK _ _ _ ?_)
          refine k_seq ?_
          refine w_seq ?_
          refine wD fun K hK => ?_
          refine g_lda rfl rfl ag67 sz67 rfl rfl (Nat.le_of_ble_eq_true rfl) (gT ?_)
          refine g_mv rfl rfl (gT ?_)
          refine g_mv rfl rfl (gT ?_)
          obtain ⟨c24, H⟩ := it1 H
          refine g_shl rfl rfl rfl rfl (by omega) (gT ?_)
          obtain ⟨q25, hq25, H⟩ := bnd H
          refine g_cs [] rfl rfl (by rfl) Try.func50 rfl (by decide) (wide_Wide_Div.does hq25) ⟨Nat.le_of_ble_eq_true rfl, Nat.le_of_ble_eq_true rfl⟩ ?_; refine gC ?_
          refine g_mv rfl rfl (gT ?_)
          refine g_ext rfl rfl rfl (Nat.le_of_ble_eq_true rfl) (gT ?_)
          refine g_ext rfl rfl rfl (Nat.le_of_ble_eq_true rfl) (gT ?_)
          refine g_ext rfl rfl rfl (Nat.le_of_ble_eq_true rfl) (gT ?_)
          refine g_as rfl rfl (gT ?_)
          refine g_as rfl rfl (gT ?_)
          refine g_as rfl rfl (gT ?_)
          refine g_nil (hK _ _ _ (by kernel_rfl) ?_)
          refine k_seq ?_
          refine w_seq ?_
          refine wR fun K hK => ?_
          refine g_mv rfl rfl (gT ?_)
          refine g_mv rfl rfl (gT ?_)
          refine g_bd rfl rfl zr67 Try.underlying67 (pl := [(0, 1), (1, 1)]) (by kernel_rfl) ?_; refine gB ?_
          refine g_mv rfl rfl (gT ?_)
          refine g_mv rfl rfl (gT ?_)
          refine g_bin rfl rfl rfl rfl rfl (gT ?_)
          refine g_bin rfl rfl rfl rfl rfl (gT ?_)
          refine g_bin rfl rfl rfl rfl rfl (gT ?_)
          refine g_mv rfl rfl (gT ?_)
          refine g_mv rfl rfl (gT ?_)
          refine g_bin rfl rfl rfl rfl rfl (gT ?_)
          refine g_bin rfl rfl rfl rfl rfl (gT ?_)
          refine g_mv rfl rfl (gT ?_)
          refine g_bin rfl rfl rfl rfl rfl (gT ?_)
          obtain ⟨q26, hq26, H⟩ := bnd H
          refine g_cs [] rfl rfl (by rfl) Try.func36 rfl (by decide) (round_Round.does hq26) ⟨Nat.le_of_ble_eq_true rfl, Nat.le_of_ble_eq_true rfl⟩ ?_; refine gC ?_
          refine g_ext rfl rfl rfl (Nat.le_of_ble_eq_true rfl) (gT ?_)
          refine g_ext rfl rfl rfl (Nat.le_of_ble_eq_true rfl) (gT ?_)
          refine g_as rfl rfl (gT ?_)
          refine g_as rfl rfl (gT ?_)
          refine g_nil (hK _ _ _ ?_)
          refine k_seq ?_
          refine w_ret ?_
          refine fin_wp (τ := []) rfl (by decide) ?_; rw [← Option.some.inj H]; simp only [Try.f33]; exact gF
set_option maxHeartbeats 8000000 in
set_option maxRecDepth 100000 in
theorem soft_Div.does {k : Nat} {a0 : Int} {a1 : Int} {r : Int × Int} (H : soft_Div.f k a0 a1 = some r) : Do E0 (.fn 33 [.i .u64 a0, .i .u64 a1] [] (.t [.i .u64 r.1, .i .u8 r.2]) []) := by
  obtain ⟨ih0, ih1⟩ := soft_Div.does_l (a0 := a0) (a1 := a1) k
  refine fn_wpl Try.func33 rfl (Q := (soft_Div.Q a0 a1 r)) (fun s h => h) ?_
  unfold soft_Div.f at H
  simp only [Try.ntmps33, List.length, List.replicate, Nat.reduceAdd, Nat.reduceSub, List.cons_append, List.nil_append]
  refine w_seq ?_
  refine wR fun K hK => ?_
  refine g_as rfl rfl (gT ?_)
  refine g_as rfl rfl (gT ?_)
  refine g_nil (hK _ _ _ ?_)
  refine k_seq ?_
  refine w_seq ?_
  refine w_seq ?_
  refine wR fun K hK => ?_
  refine g_mv rfl rfl (gT ?_)
  refine g_mv rfl rfl (gT ?_)
  refine g_bsl (k := .u64) (xs := [a0, a1]) rfl rfl Try.underlying22 sz35 zr35 (by decide) rfl rfl rfl (gU ?_)
  obtain ⟨q1, hq1, H⟩ := bnd H
  refine g_cs [] rfl rfl (by rfl) Try.func45 rfl (by decide) (soft_nan.does hq1) ⟨Nat.le_of_ble_eq_true rfl, Nat.le_of_ble_eq_true rfl⟩ ?_; refine gC ?_
  refine g_mv rfl rfl (gT ?_)
  refine g_ext rfl rfl rfl (Nat.le_of_ble_eq_true rfl) (gT ?_)
  refine g_ext rfl rfl rfl (Nat.le_of_ble_eq_true rfl) (gT ?_)
  refine g_ext rfl rfl rfl (Nat.le_of_ble_eq_true rfl) (gT ?_)
  refine g_as rfl rfl (gT ?_)
  refine g_as rfl rfl (gT ?_)
  refine g_as rfl rfl (gT ?_)
  refine g_nil (hK _ _ _ ?_)
  refine k_seq ?_
  refine w_seq ?_
  refine wR fun K hK => ?_
  refine g_mv rfl rfl (gT ?_)
  refine g_nil (hK _ _ _ ?_)
  refine k_seq ?_
  rcases its H with ⟨c2, H⟩ | ⟨c2, H⟩
  · have c2b : q1.2.2 = true := c2; try simp only [c2b, nrm]
    refine w_cond rfl (fun _ => ?_) (fun h => Bool.noConfusion h)
    refine w_seq ?_
    refine wR fun K hK => ?_
    refine g_mv rfl rfl (gT ?_)
    refine g_mv rfl rfl (gT ?_)
    refine g_as rfl rfl (gT ?_)
    refine g_as rfl rfl (gT ?_)
    refine g_nil (hK _ _ _ ?_)
    refine k_seq ?_
    refine w_ret ?_
    refine fin_wp (τ := []) rfl (by decide) ?_; rw [← Option.some.inj H]; simp only [Try.f33]; exact gF
  · have c2b : q1.2.2 = false := Bool.eq_false_iff.mpr c2; try simp only [c2b, nrm]
    refine w_cond rfl (fun h => Bool.noConfusion h) (fun _ => ?_)
    refine w_skip ?_
    refine k_seq ?_
    refine w_seq ?_
    refine wR fun K hK => ?_
    refine g_mv rfl rfl (gT ?_)
    obtain ⟨q3, hq3, H⟩ := bnd H
    refine g_cs [] rfl rfl (by rfl) Try.func39 rfl (by decide) (word_Neg.does hq3) ⟨Nat.le_of_ble_eq_true rfl, Nat.le_of_ble_eq_true rfl⟩ ?_; refine gC ?_
    refine g_mv rfl rfl (gT ?_)
    obtain ⟨q4, hq4, H⟩ := bnd H
    refine g_cs [] rfl rfl (by rfl) Try.func39 rfl (by decide) (word_Neg.does hq4) ⟨Nat.le_of_ble_eq_true rfl, Nat.le_of_ble_eq_true rfl⟩ ?_; refine gC ?_
    refine g_neb rfl rfl Try.underlying4 rfl rfl (gT ?_)
    refine g_as rfl rfl (gT ?_)
    refine g_nil (hK _ _ _ ?_)
    refine k_seq ?_
    refine w_seq ?_
    refine wR fun K hK => ?_
    refine g_mv rfl rfl (gT ?_)
    obtain ⟨q5, hq5, H⟩ := bnd H
    refine g_cs [] rfl rfl (by rfl) Try.func27 rfl (by decide) (word_Kind.does hq5) ⟨Nat.le_of_ble_eq_true rfl, Nat.le_of_ble_eq_true rfl⟩ ?_; refine gC ?_
    refine g_mv rfl rfl (gT ?_)
    obtain ⟨q6, hq6, H⟩ := bnd H
    refine g_cs [] rfl rfl (by rfl) Try.func27 rfl (by decide) (word_Kind.does hq6) ⟨Nat.le_of_ble_eq_true rfl, Nat.le_of_ble_eq_true rfl⟩ ?_; refine gC ?_
    refine g_as rfl rfl (gT ?_)
    refine g_as rfl rfl (gT ?_)
    refine g_nil (hK _ _ _ ?_)
    refine k_seq ?_
    refine w_seq ?_
    refine w_block ?_
    refine w_seq ?_
    refine wR fun K hK => ?_
    refine g_mv rfl rfl (gT ?_)
    refine g_bin rfl rfl rfl rfl rfl (gT ?_)
    refine g_mv rfl rfl (gT ?_)
    rcases its H with ⟨c7, H⟩ | ⟨c7, H⟩
    · have c7b := beq_iff_eq.mpr c7; have c7n := bne_eq_false_iff_eq.mpr c7; try simp only [c7b, c7n, nrm]
      refine g_mv rfl rfl (gT ?_)
      refine g_bin rfl rfl rfl rfl rfl (gT ?_)
      refine g_pick rfl rfl rfl (gT ?_)
      refine g_mv rfl rfl (gT ?_)
      rcases its H with ⟨c8, H⟩ | ⟨c8, H⟩
      · have c8b := beq_iff_eq.mpr c8; have c8n := bne_eq_false_iff_eq.mpr c8; try simp only [c8b, c8n, nrm]
        refine g_sk rfl rfl (gT ?_)
        refine g_sk rfl rfl (gT ?_)
        refine g_sk rfl rfl (gT ?_)
        refine g_sk rfl rfl (gT ?_)
        refine g_sk rfl rfl (gT ?_)
        refine g_sk rfl rfl (gT ?_)
        refine g_pick rfl rfl rfl (gT ?_)
        refine g_as rfl rfl (gT ?_)
        refine g_nil (hK _ _ _ ?_)
        refine k_wk (σ := []) [0, 0, 7, 0, 0, 30] rfl (by decide) rfl ?_; refine gC ?_
        exact gI (ih0 a0 a1 (q3 != q4) q5 q6 true r H)
      · have c8b := beq_eq_false_iff_ne.mpr c8; have c8n := bne_iff_ne.mpr c8; try simp only [c8b, c8n, nrm]
        refine g_mv rfl rfl (gT ?_)
        refine g_bin rfl rfl rfl rfl rfl (gT ?_)
        refine g_mv rfl rfl (gT ?_)
        rcases its H with ⟨c9, H⟩ | ⟨c9, H⟩
        · have c9b := beq_iff_eq.mpr c9; have c9n := bne_eq_false_iff_eq.mpr c9; try simp only [c9b, c9n, nrm]
          refine g_mv rfl rfl (gT ?_)
          refine g_bin rfl rfl rfl rfl rfl (gT ?_)
          refine g_pick rfl rfl rfl (gT ?_)
          refine g_pick rfl rfl rfl (gT ?_)
          refine g_as rfl rfl (gT ?_)
          refine g_nil (hK _ _ _ ?_)
          refine k_wk (σ := []) [0, 0, 7, 0, 0, 30] rfl (by decide) rfl ?_; refine gC ?_
          exact gI (ih0 a0 a1 (q3 != q4) q5 q6 (q6 == 1) r H)
        · have c9b := beq_eq_false_iff_ne.mpr c9; have c9n := bne_iff_ne.mpr c9; try simp only [c9b, c9n, nrm]
          refine g_sk rfl rfl (gT ?_)
          refine g_sk rfl rfl (gT ?_)
          refine g_pick rfl rfl rfl (gT ?_)
          refine g_pick rfl rfl rfl (gT ?_)
          refine g_as rfl rfl (gT ?_)
          refine g_nil (hK _ _ _ ?_)
          refine k_wk (σ := []) [0, 0, 7, 0, 0, 30] rfl (by decide) rfl ?_; refine gC ?_
          exact gI (ih0 a0 a1 (q3 != q4) q5 q6 false r H)
    · have c7b := beq_eq_false_iff_ne.mpr c7; have c7n := bne_iff_ne.mpr c7; try simp only [c7b, c7n, nrm]
      refine g_sk rfl rfl (gT ?_)
      refine g_sk rfl rfl (gT ?_)
      refine g_pick rfl rfl rfl (gT ?_)
      refine g_mv rfl rfl (gT ?_)
      refine g_mv rfl rfl (gT ?_)
      refine g_bin rfl rfl rfl rfl rfl (gT ?_)
      refine g_mv rfl rfl (gT ?_)
      rcases its H with ⟨c10, H⟩ | ⟨c10, H⟩
      · have c10b := beq_iff_eq.mpr c10; have c10n := bne_eq_false_iff_eq.mpr c10; try simp only [c10b, c10n, nrm]
        refine g_mv rfl rfl (gT ?_)
        refine g_bin rfl rfl rfl rfl rfl (gT ?_)
        refine g_pick rfl rfl rfl (gT ?_)
        refine g_pick rfl rfl rfl (gT ?_)
        refine g_as rfl rfl (gT ?_)
        refine g_nil (hK _ _ _ ?_)
        refine k_wk (σ := []) [0, 0, 7, 0, 0, 30] rfl (by decide) rfl ?_; refine gC ?_
        exact gI (ih0 a0 a1 (q3 != q4) q5 q6 (q6 == 1) r H)
      · have c10b := beq_eq_false_iff_ne.mpr c10; have c10n := bne_iff_ne.mpr c10; try simp only [c10b, c10n, nrm]
        refine g_sk rfl rfl (gT ?_)
        refine g_sk rfl rfl (gT ?_)
        refine g_pick rfl rfl rfl (gT ?_)
        refine g_pick rfl rfl rfl (gT ?_)
        refine g_as rfl rfl (gT ?_)
        refine g_nil (hK _ _ _ ?_)
        refine k_wk (σ := []) [0, 0, 7, 0, 0, 30] rfl (by decide) rfl ?_; refine gC ?_
        exact gI (ih0 a0 a1 (q3 != q4) q5 q6 false r H)

set_option maxHeartbeats 8000000 in
set_option maxRecDepth 100000 in
theorem soft_Calc_Div_nil.does {k : Nat} {a1 : Int} {a2 : Int} {r : Int} (H : soft_Calc_Div_nil.f k a1 a2 = some r) : Do E0 (.fn 15 [.p none, .i .u64 a1, .i .u64 a2] [] (.i .u64 r) []) := by
  refine fn_wpl Try.func15 rfl (Q := (soft_Calc_Div_nil.Q a1 a2 r)) (fun s h => h) ?_
  unfold soft_Calc_Div_nil.f at H
  simp only [Try.ntmps15, List.length, List.replicate, Nat.reduceAdd, Nat.reduceSub, List.cons_append, List.nil_append]
  refine w_seq ?_
  refine wR fun K hK => ?_
  refine g_as rfl rfl (gT ?_)
  refine g_nil (hK _ _ _ ?_)
  refine k_seq ?_
  refine w_seq ?_
  refine wR fun K hK => ?_
  refine g_mv rfl rfl (gT ?_)
  refine g_mv rfl rfl (gT ?_)
  refine g_mv rfl rfl (gT ?_)
  obtain ⟨q1, hq1, H⟩ := bnd H
  refine g_cs [] rfl rfl (by rfl) Try.func33 rfl (by decide) (soft_Div.does hq1) ⟨Nat.le_of_ble_eq_true rfl, Nat.le_of_ble_eq_true rfl⟩ ?_; refine gC ?_
  refine g_ext rfl rfl rfl (Nat.le_of_ble_eq_true rfl) (gT ?_)
  refine g_ext rfl rfl rfl (Nat.le_of_ble_eq_true rfl) (gT ?_)
  obtain ⟨q2, hq2, H⟩ := bnd H
  refine g_cs [] rfl rfl (by rfl) Try.func30 rfl (by decide) (soft_Calc_note_nil.does hq2) ⟨Nat.le_of_ble_eq_true rfl, Nat.le_of_ble_eq_true rfl⟩ ?_; refine gC ?_
  refine g_as rfl rfl (gT ?_)
  refine g_nil (hK _ _ _ ?_)
  refine k_seq ?_
  refine w_ret ?_
  refine fin_wp (τ := []) rfl (by decide) ?_; rw [← Option.some.inj H]; simp only [Try.f15]; exact gF

set_option maxHeartbeats 8000000 in
set_option maxRecDepth 100000 in
theorem solve_Trsv_nil.does_l {a1_0 : Int} {a1_1 : Int} {a1_2 : Int} {l1_3 : List Int} {a2 : Bool} {a3 : Bool} {l4 : List Int} (k : Nat) : (∀ (upper_2 : Bool) (unit_3 : Bool) (b_4 : List Int) (t_36 : Bool) (h0_0 : Int) (h0_1 : Int) (h0_2 : Int) (h0_3 : List Int) (r : (List Int) × Int), solve_Trsv_nil.j0 k upper_2 unit_3 b_4 t_36 h0_0 h0_1 h0_2 h0_3 = some r → kont E0 (solve_Trsv_nil.Q a1_0 a1_1 a1_2 l1_3 a2 a3 l4 r) (frs (bodyOf Try.f9) [1, 0, 0] []) .normal ⟨[.p none, .u, .b upper_2, .b unit_3, .r (b_4.map (V.i .u64)) b_4.length true, .u, .p (some (0, 0)), .u, .u, .u, .u, .u, .u, .u, .u, .u, .u, .u, .u, .u, .u, .u, .u, .u, .u, .u, .u, .u, .u, .u, .u, .u, .u, .u, .u, .u, .b t_36, .u, .u, .u, .u, .u, .u, .u, .u, .u, .u, .u, .u, .u, .u, .u, .u, .u, .u, .u, .u, .u, .u, .u, .u, .u, .u, .u, .u, .u, .u, .u, .u, .u, .u, .u, .u, .u, .u, .u, .u, .u, .u, .u, .u, .u, .u, .u, .u, .u, .u, .u, .u, .u, .u, .u, .u, .u, .u, .u, .u, .u, .u, .u, .u, .u, .u, .u, .u, .u, .u, .u, .u, .u, .u, .u, .u, .u, .u, .u, .u], ofL [.row [.i .i64 h0_0, .i .i64 h0_1, .i .i64 h0_2, .r (h0_3.map (V.i .u64)) h0_3.length true] 0 0 true true none], 1, 0⟩) ∧
    (∀ (upper_2 : Bool) (unit_3 : Bool) (b_4 : List Int) (n_12 : Int) (t_39 : Int) (t_40 : Int) (h0_0 : Int) (h0_1 : Int) (h0_2 : Int) (h0_3 : List Int) (r : (List Int) × Int), solve_Trsv_nil.l0 k upper_2 unit_3 b_4 n_12 t_39 t_40 h0_0 h0_1 h0_2 h0_3 = some r → wk_ E0 (solve_Trsv_nil.Q a1_0 a1_1 a1_2 l1_3 a2 a3 l4 r) (frs (bodyOf Try.f9) [1, 1, 1, 0, 1, 0] []) (sub (bodyOf Try.f9) [1, 1, 1, 0, 1, 0]) ⟨[.p none, .u, .b upper_2, .b unit_3, .r (b_4.map (V.i .u64)) b_4.length true, .u, .p (some (0, 0)), .u, .u, .u, .u, .u, .i .i64 n_12, .u, .u, .u, .u, .u, .u, .u, .u, .u, .u, .u, .u, .u, .u, .u, .u, .u, .u, .u, .u, .u, .u, .u, .u, .u, .u, .i .i64 t_39, .i .i64 t_40, .u, .u, .u, .u, .u, .u, .u, .u, .u, .u, .u, .u, .u, .u, .u, .u, .u, .u, .u, .u, .u, .u, .u, .u, .u, .u, .u, .u, .u, .u, .u, .u, .u, .u, .u, .u, .u, .u, .u, .u, .u, .u, .u, .u, .u, .u, .u, .u, .u, .u, .u, .u, .u, .u, .u, .u, .u, .u, .u, .u, .u, .u, .u, .u, .u, .u, .u, .u, .u, .u, .u, .u, .u, .u, .u, .u], ofL [.row [.i .i64 h0_0, .i .i64 h0_1, .i .i64 h0_2, .r (h0_3.map (V.i .u64)) h0_3.length true] 0 0 true true none], 1, 0⟩) ∧
    (∀ (upper_2 : Bool) (unit_3 : Bool) (n_12 : Int) (h1 : List Int) (t_56 : Int) (t_57 : Int) (h0_0 : Int) (h0_1 : Int) (h0_2 : Int) (h0_3 : List Int) (r : (List Int) × Int), solve_Trsv_nil.l1 k upper_2 unit_3 n_12 h1 t_56 t_57 h0_0 h0_1 h0_2 h0_3 = some r → wk_ E0 (solve_Trsv_nil.Q a1_0 a1_1 a1_2 l1_3 a2 a3 l4 r) (frs (bodyOf Try.f9) [1, 1, 1, 1, 1, 0, 1, 0] []) (sub (bodyOf Try.f9) [1, 1, 1, 1, 1, 0, 1, 0]) ⟨[.p none, .u, .b upper_2, .b unit_3, .u, .u, .p (some (0, 0)), .u, .u, .u, .u, .u, .i .i64 n_12, .u, .s (some (1, 0)) h1.length, .u, .u, .u, .u, .u, .u, .u, .u, .u, .u, .u, .u, .u, .u, .u, .u, .u, .u, .u, .u, .u, .u, .u, .u, .u, .u, .u, .u, .u, .u, .u, .u, .u, .u, .u, .u, .u, .u, .u, .u, .u, .i .i64 t_56, .i .i64 t_57, .u, .u, .u, .u, .u, .u, .u, .u, .u, .u, .u, .u, .u, .u, .u, .u, .u, .u, .u, .u, .u, .u, .u, .u, .u, .u, .u, .u, .u, .u, .u, .u, .u, .u, .u, .u, .u, .u, .u, .u, .u, .u, .u, .u, .u, .u, .u, .u, .u, .u, .u, .u, .u, .u, .u, .u, .u, .u, .u], ofL [.row [.i .i64 h0_0, .i .i64 h0_1, .i .i64 h0_2, .r (h0_3.map (V.i .u64)) h0_3.length true] 0 0 true true none, .row (h1.map (V.i .u64)) 2 1 true true none], 2, 0⟩) ∧
    (∀ (upper_2 : Bool) (unit_3 : Bool) (n_12 : Int) (h1 : List Int) (i_16 : Int) (t_56 : Int) (t_57 : Int) (h0_0 : Int) (h0_1 : Int) (h0_2 : Int) (h0_3 : List Int) (r : (List Int) × Int), solve_Trsv_nil.j3 k upper_2 unit_3 n_12 h1 i_16 t_56 t_57 h0_0 h0_1 h0_2 h0_3 = some r → kont E0 (solve_Trsv_nil.Q a1_0 a1_1 a1_2 l1_3 a2 a3 l4 r) (frs (bodyOf Try.f9) [1, 1, 1, 1, 1, 0, 1, 0, 0, 1, 1, 0, 0, 1, 1, 0, 1] []) .normal ⟨[.p none, .u, .b upper_2, .b unit_3, .u, .u, .p (some (0, 0)), .u, .u, .u, .u, .u, .i .i64 n_12, .u, .s (some (1, 0)) h1.length, .u, .i .i64 i_16, .u, .u, .u, .u, .u, .u, .u, .u, .u, .u, .u, .u, .u, .u, .u, .u, .u, .u, .u, .u, .u, .u, .u, .u, .u, .u, .u, .u, .u, .u, .u, .u, .u, .u, .u, .u, .u, .u, .u, .i .i64 t_56, .i .i64 t_57, .u, .u, .u, .u, .u, .u, .u, .u, .u, .u, .u, .u, .u, .u, .u, .u, .u, .u, .u, .u, .u, .u, .u, .u, .u, .u, .u, .u, .u, .u, .u, .u, .u, .u, .u, .u, .u, .u, .u, .u, .u, .u, .u, .u, .u, .u, .u, .u, .u, .u, .u, .u, .u, .u, .u, .u, .u, .u, .u], ofL [.row [.i .i64 h0_0, .i .i64 h0_1, .i .i64 h0_2, .r (h0_3.map (V.i .u64)) h0_3.length true] 0 0 true true none, .row (h1.map (V.i .u64)) 2 1 true true none], 2, 0⟩) ∧
    (∀ (upper_2 : Bool) (unit_3 : Bool) (n_12 : Int) (h1 : List Int) (i_16 : Int) (hi_18 : Int) (k_19 : Int) (t_56 : Int) (t_57 : Int) (h0_0 : Int) (h0_1 : Int) (h0_2 : Int) (h0_3 : List Int) (r : (List Int) × Int), solve_Trsv_nil.l2 k upper_2 unit_3 n_12 h1 i_16 hi_18 k_19 t_56 t_57 h0_0 h0_1 h0_2 h0_3 = some r → wk_ E0 (solve_Trsv_nil.Q a1_0 a1_1 a1_2 l1_3 a2 a3 l4 r) (frs (bodyOf Try.f9) [1, 1, 1, 1, 1, 0, 1, 0, 0, 1, 1, 0, 0, 1, 1, 1, 1, 0, 1, 0] []) (sub (bodyOf Try.f9) [1, 1, 1, 1, 1, 0, 1, 0, 0, 1, 1, 0, 0, 1, 1, 1, 1, 0, 1, 0]) ⟨[.p none, .u, .b upper_2, .b unit_3, .u, .u, .p (some (0, 0)), .u, .u, .u, .u, .u, .i .i64 n_12, .u, .s (some (1, 0)) h1.length, .u, .i .i64 i_16, .u, .i .i64 hi_18, .i .i64 k_19, .u, .u, .u, .u, .u, .u, .u, .u, .u, .u, .u, .u, .u, .u, .u, .u, .u, .u, .u, .u, .u, .u, .u, .u, .u, .u, .u, .u, .u, .u, .u, .u, .u, .u, .u, .u, .i .i64 t_56, .i .i64 t_57, .u, .u, .u, .u, .u, .u, .u, .u, .u, .u, .u, .u, .u, .u, .u, .u, .u, .u, .u, .u, .u, .u, .u, .u, .u, .u, .u, .u, .u, .u, .u, .u, .u, .u, .u, .u, .u, .u, .u, .u, .u, .u, .u, .u, .u, .u, .u, .u, .u, .u, .u, .u, .u, .u, .u, .u, .u, .u, .u], ofL [.row [.i .i64 h0_0, .i .i64 h0_1, .i .i64 h0_2, .r (h0_3.map (V.i .u64)) h0_3.length true] 0 0 true true none, .row (h1.map (V.i .u64)) 2 1 true true none], 2, 0⟩) := by
  induction k with
  | zero => exact ⟨fun _ _ _ _ _ _ _ _ r h => by simp [solve_Trsv_nil.j0] at h, fun _ _ _ _ _ _ _ _ _ _ r h => by simp [solve_Trsv_nil.l0] at h, fun _ _ _ _ _ _ _ _ _ _ r h => by simp [solve_Trsv_nil.l1] at h, fun _ _ _ _ _ _ _ _ _ _ _ r h => by simp [solve_Trsv_nil.j3] at h, fun _ _ _ _ _ _ _ _ _ _ _ _ _ r h => by simp [solve_Trsv_nil.l2] at h⟩
  | succ k ih =>
    obtain ⟨ih0, ih1, ih2, ih3, ih4⟩ := ih
    refine ⟨?_, ?_, ?_, ?_, ?_⟩
    · intro upper_2 unit_3 b_4 t_36 h0_0 h0_1 h0_2 h0_3 r H
      unfold solve_Trsv_nil.j0 at H
      simp only [bodyOf, Try.f9, frs, sub, if_true, if_false, Nat.one_ne_zero]
      refine k_seq ?_
      rcases its H with ⟨c4, H⟩ | ⟨c4, H⟩
      · have c4b : t_36 = true := c4; try simp only [c4b, nrm]
        refine w_cond rfl (fun _ => ?_) (fun h => Bool.noConfusion h)
        refine w_seq ?_
        refine wR fun K hK => ?_
        refine g_as rfl rfl (gT ?_)
        refine g_as rfl rfl (gT ?_)
        refine g_nil (hK _ _ _ ?_)
        refine k_seq ?_
        refine w_less (.at 10 [] 2 1 rfl rfl) ?_; simp only [nrmx, nrm, List.set_cons_zero, List.set_cons_succ, Nat.reduceAdd]
        refine w_ret ?_
        refine fin_wp (τ := [9]) rfl (by decide) ?_; rw [← Option.some.inj H]; simp only [Try.f9]; exact gF
      · have c4b : t_36 = false := Bool.eq_false_iff.mpr c4; try simp only [c4b, nrm]
        refine w_cond rfl (fun h => Bool.noConfusion h) (fun _ => ?_)
        refine w_skip ?_
        refine k_seq ?_
        refine w_seq ?_
        refine wR fun K hK => ?_
        refine g_mv rfl rfl (gT ?_)
        refine g_len_r rfl rfl Try.underlying22 rfl (gT ?_)
        refine g_as rfl rfl (gT ?_)
        refine g_nil (hK _ _ _ ?_)
        refine k_seq ?_
        refine w_seq ?_
        refine w_seq ?_
        refine wR fun K hK => ?_
        refine g_mv rfl rfl (gT ?_)
        refine g_mv rfl rfl (gT ?_)
        refine g_nil (hK _ _ _ ?_)
        refine k_seq ?_
        refine w_block ?_
        refine w_wk (σ := [0]) [0, 1, 0, 0, 1, 5, 26, 0] rfl (by decide) ?_; refine gC ?_
        exact gI (ih1 upper_2 unit_3 b_4 (b_4.length : Int) (b_4.length : Int) 0 h0_0 h0_1 h0_2 h0_3 r H)
    · intro upper_2 unit_3 b_4 n_12 t_39 t_40 h0_0 h0_1 h0_2 h0_3 r H
      unfold solve_Trsv_nil.l0 at H
      simp only [bodyOf, Try.f9, frs, sub, if_true, if_false, Nat.one_ne_zero]
      refine w_loop ?_
      refine w_seq ?_
      refine wR fun K hK => ?_
      refine g_bin rfl rfl rfl rfl rfl (gT ?_)
      refine g_nil (hK _ _ _ ?_)
      refine k_seq ?_
      refine w_seq ?_
      rcases its H with ⟨c5, H⟩ | ⟨c5, H⟩
      · have c5b := decide_eq_true c5; try simp only [c5b, nrm]
        refine w_cond rfl (fun _ => ?_) (fun h => Bool.noConfusion h)
        refine w_skip ?_
        refine k_seq ?_
        refine w_seq ?_
        refine w_block ?_
        refine w_seq ?_
        refine wR fun K hK => ?_
        refine g_mv rfl rfl (gT ?_)
        refine g_as rfl rfl (gT ?_)
        refine g_nil (hK _ _ _ ?_)
        refine k_seq ?_
        refine w_seq ?_
        refine wR fun K hK => ?_
        refine g_mv rfl rfl (gT ?_)
        refine g_un rfl rfl rfl rfl (gT ?_)
        refine g_mv rfl rfl (gT ?_)
        rcases its H with ⟨c6, H⟩ | ⟨c6, H⟩
        · have c6b : unit_3 = true := c6; try simp only [c6b, nrm]
          refine g_sk rfl rfl (gT ?_)
          refine g_sk rfl rfl (gT ?_)
          refine g_sk rfl rfl (gT ?_)
          refine g_sk rfl rfl (gT ?_)
          refine g_sk rfl rfl (gT ?_)
          refine g_sk rfl rfl (gT ?_)
          refine g_pick rfl rfl rfl (gT ?_)
          refine g_nil (hK _ _ _ ?_)
          refine k_seq ?_
          refine w_cond rfl (fun h => Bool.noConfusion h) (fun _ => ?_)
          refine w_skip ?_
          refine k_block ?_
          refine k_seq ?_
          refine wR fun K hK => ?_
          refine g_bin rfl rfl rfl rfl rfl (gT ?_)
          refine g_mv rfl rfl (gT ?_)
          refine g_nil (hK _ _ _ ?_)
          refine k_loop ?_
          refine w_wk (σ := [0]) [0, 1, 0, 0, 1, 5, 26, 0] rfl (by decide) ?_; refine gC ?_
          exact gI (ih1 upper_2 true b_4 n_12 t_39 (wrap64 (t_40 + 1)) h0_0 h0_1 h0_2 h0_3 r H)
        · have c6b : unit_3 = false := Bool.eq_false_iff.mpr c6; try simp only [c6b, nrm]
          refine g_lda rfl rfl ag25 sz25 rfl rfl (Nat.le_of_ble_eq_true rfl) (gT ?_)
          refine g_mv rfl rfl (gT ?_)
          refine g_mv rfl rfl (gT ?_)
          obtain ⟨q7, hq7, H⟩ := bnd H
          refine g_cs [] rfl rfl (by rfl) Try.func11 rfl (by decide) (mat_Matrix_At.does hq7) ⟨Nat.le_of_ble_eq_true rfl, Nat.le_of_ble_eq_true rfl⟩ ?_; refine gC ?_
          obtain ⟨q8, hq8, H⟩ := bnd H
          refine g_cs [] rfl rfl (by rfl) Try.func27 rfl (by decide) (word_Kind.does hq8) ⟨Nat.le_of_ble_eq_true rfl, Nat.le_of_ble_eq_true rfl⟩ ?_; refine gC ?_
          refine g_bin rfl rfl rfl rfl rfl (gT ?_)
          refine g_pick rfl rfl rfl (gT ?_)
          refine g_nil (hK _ _ _ ?_)
          refine k_seq ?_
          rcases its H with ⟨c9, H⟩ | ⟨c9, H⟩
          · have c9b := beq_iff_eq.mpr c9; have c9n := bne_eq_false_iff_eq.mpr c9; try simp only [c9b, c9n, nrm]
            refine w_cond rfl (fun _ => ?_) (fun h => Bool.noConfusion h)
            refine w_seq ?_
            refine wR fun K hK => ?_
            refine g_as rfl rfl (gT ?_)
            refine g_as rfl rfl (gT ?_)
            refine g_nil (hK _ _ _ ?_)
            refine k_seq ?_
            refine w_less (.at 10 [] 2 1 rfl rfl) ?_; simp only [nrmx, nrm, List.set_cons_zero, List.set_cons_succ, Nat.reduceAdd]
            refine w_ret ?_
            refine fin_wp (τ := [61]) rfl (by decide) ?_; rw [← Option.some.inj H]; simp only [Try.f9]; exact gF
          · have c9b := beq_eq_false_iff_ne.mpr c9; have c9n := bne_iff_ne.mpr c9; try simp only [c9b, c9n, nrm]
            refine w_cond rfl (fun h => Bool.noConfusion h) (fun _ => ?_)
            refine w_skip ?_
            refine k_block ?_
            refine k_seq ?_
            refine wR fun K hK => ?_
            refine g_bin rfl rfl rfl rfl rfl (gT ?_)
            refine g_mv rfl rfl (gT ?_)
            refine g_nil (hK _ _ _ ?_)
            refine k_loop ?_
            refine w_wk (σ := [0]) [0, 1, 0, 0, 1, 5, 26, 0] rfl (by decide) ?_; refine gC ?_
            exact gI (ih1 upper_2 false b_4 n_12 t_39 (wrap64 (t_40 + 1)) h0_0 h0_1 h0_2 h0_3 r H)
      · have c5b := decide_eq_false c5; try simp only [c5b, nrm]
        refine w_cond rfl (fun h => Bool.noConfusion h) (fun _ => ?_)
        refine w_exit rfl ?_
        refine k_seq ?_
        refine w_seq ?_
        refine wR fun K hK => ?_
        refine g_mv rfl rfl (gT ?_)
        obtain ⟨c10, H⟩ := it1 H
        refine g_apnr rfl rfl Try.underlying22 Try.underlying22 sz35 by35 zr35 rfl rfl rfl (by unfold limit; omega) (by omega) (gU ?_)
        refine g_as rfl rfl (gT ?_)
        refine g_nil (hK _ _ _ ?_)
        refine k_seq ?_
        refine w_seq ?_
        refine w_seq ?_
        refine wR fun K hK => ?_
        refine g_mv rfl rfl (gT ?_)
        refine g_mv rfl rfl (gT ?_)
        refine g_nil (hK _ _ _ ?_)
        refine k_seq ?_
        refine w_block ?_
        refine w_wk (σ := [0, 9]) [0, 1, 0, 2, 5, 1, 41, 0] rfl (by decide) ?_; refine gC ?_
        exact gI (ih2 upper_2 unit_3 n_12 b_4 n_12 0 h0_0 h0_1 h0_2 h0_3 r H)
    · intro upper_2 unit_3 n_12 h1 t_56 t_57 h0_0 h0_1 h0_2 h0_3 r H
      unfold solve_Trsv_nil.l1 at H
      simp only [bodyOf, Try.f9, frs, sub, if_true, if_false, Nat.one_ne_zero]
      refine w_loop ?_
      refine w_seq ?_
      refine wR fun K hK => ?_
      refine g_bin rfl rfl rfl rfl rfl (gT ?_)
      refine g_nil (hK _ _ _ ?_)
      refine k_seq ?_
      refine w_seq ?_
      rcases its H with ⟨c11, H⟩ | ⟨c11, H⟩
      · have c11b := decide_eq_true c11; try simp only [c11b, nrm]
        refine w_cond rfl (fun _ => ?_) (fun h => Bool.noConfusion h)
        refine w_skip ?_
        refine k_seq ?_
        refine w_seq ?_
        refine w_block ?_
        refine w_seq ?_
        refine wR fun K hK => ?_
        refine g_mv rfl rfl (gT ?_)
        refine g_as rfl rfl (gT ?_)
        refine g_nil (hK _ _ _ ?_)
        refine k_seq ?_
        refine w_seq ?_
        refine wR fun K hK => ?_
        refine g_mv rfl rfl (gT ?_)
        refine g_as rfl rfl (gT ?_)
        refine g_nil (hK _ _ _ ?_)
        refine k_seq ?_
        refine w_seq ?_
        refine w_seq ?_
        refine wR fun K hK => ?_
        refine g_mv rfl rfl (gT ?_)
        refine g_nil (hK _ _ _ ?_)
        refine k_seq ?_
        rcases its H with ⟨c12, H⟩ | ⟨c12, H⟩
        · have c12b : upper_2 = true := c12; try simp only [c12b, nrm]
          refine w_cond rfl (fun _ => ?_) (fun h => Bool.noConfusion h)
          refine wR fun K hK => ?_
          refine g_mv rfl rfl (gT ?_)
          refine g_bin rfl rfl rfl rfl rfl (gT ?_)
          refine g_mv rfl rfl (gT ?_)
          refine g_bin rfl rfl rfl rfl rfl (gT ?_)
          refine g_as rfl rfl (gT ?_)
          refine g_nil (hK _ _ _ ?_)
          refine k_wk (σ := [0, 1]) [0, 1, 0, 2, 5, 1, 1, 39, 0] rfl (by decide) rfl ?_; refine gC ?_
          exact gI (ih3 true unit_3 n_12 h1 (wrap64 ((wrap64 (n_12 - 1)) - t_57)) t_56 t_57 h0_0 h0_1 h0_2 h0_3 r H)
        · have c12b : upper_2 = false := Bool.eq_false_iff.mpr c12; try simp only [c12b, nrm]
          refine w_cond rfl (fun h => Bool.noConfusion h) (fun _ => ?_)
          refine w_skip ?_
          refine k_wk (σ := [0, 1]) [0, 1, 0, 2, 5, 1, 1, 39, 0] rfl (by decide) rfl ?_; refine gC ?_
          exact gI (ih3 false unit_3 n_12 h1 t_57 t_56 t_57 h0_0 h0_1 h0_2 h0_3 r H)
      · have c11b := decide_eq_false c11; try simp only [c11b, nrm]
        refine w_cond rfl (fun h => Bool.noConfusion h) (fun _ => ?_)
        refine w_exit rfl ?_
        refine k_seq ?_
        refine w_seq ?_
        refine wR fun K hK => ?_
        refine g_mv rfl rfl (gT ?_)
        refine g_as rfl rfl (gT ?_)
        refine g_as rfl rfl (gT ?_)
        refine g_nil (hK _ _ _ ?_)
        refine k_seq ?_
        refine w_ret ?_
        refine fin_wp (τ := [1]) rfl (by decide) ?_; rw [← Option.some.inj H]; simp only [Try.f9]; exact gF
    · intro upper_2 unit_3 n_12 h1 i_16 t_56 t_57 h0_0 h0_1 h0_2 h0_3 r H
      unfold solve_Trsv_nil.j3 at H
      simp only [bodyOf, Try.f9, frs, sub, if_true, if_false, Nat.one_ne_zero]
      refine k_seq ?_
      refine w_seq ?_
      refine wR fun K hK => ?_
      refine g_mv rfl rfl (gT ?_)
      rcases its H with ⟨c13, H⟩ | ⟨c13, H⟩
      · have c13b : upper_2 = true := c13; try simp only [c13b, nrm]
        obtain ⟨q14, hq14, H⟩ := bnd H
        refine g_cs [] rfl rfl (by rfl) Try.func28 rfl (by decide) (solve_of.does hq14) ⟨Nat.le_of_ble_eq_true rfl, Nat.le_of_ble_eq_true rfl⟩ ?_; refine gC ?_
        refine g_fx rfl rfl fx60_0 rfl (by rfl) (gT ?_)
        refine g_mv rfl rfl (gT ?_)
        refine g_mv rfl rfl (gT ?_)
        obtain ⟨q15, hq15, H⟩ := bnd H
        refine g_cs [] rfl rfl (by rfl) Try.func42 rfl (by decide) (solve_of_1.does hq15) ⟨Nat.le_of_ble_eq_true rfl, Nat.le_of_ble_eq_true rfl⟩ ?_; refine gC ?_
        refine g_mv rfl rfl (gT ?_)
        refine g_ext rfl rfl rfl (Nat.le_of_ble_eq_true rfl) (gT ?_)
        refine g_ext rfl rfl rfl (Nat.le_of_ble_eq_true rfl) (gT ?_)
        refine g_as rfl rfl (gT ?_)
        refine g_as rfl rfl (gT ?_)
        refine g_nil (hK _ _ _ ?_)
        refine k_seq ?_
        refine w_seq ?_
        refine w_seq ?_
        refine wR fun K hK => ?_
        refine g_mv rfl rfl (gT ?_)
        refine g_as rfl rfl (gT ?_)
        refine g_nil (hK _ _ _ ?_)
        refine k_seq ?_
        refine w_block ?_
        refine w_wk (σ := [0, 1]) [0, 1, 0, 2, 5, 1, 1, 1, 0, 36, 0] rfl (by decide) ?_; refine gC ?_
        exact gI (ih4 true unit_3 n_12 h1 i_16 q15.2 q15.1 t_56 t_57 h0_0 h0_1 h0_2 h0_3 r H)
      · have c13b : upper_2 = false := Bool.eq_false_iff.mpr c13; try simp only [c13b, nrm]
        obtain ⟨q16, hq16, H⟩ := bnd H
        refine g_cs [] rfl rfl (by rfl) Try.func28 rfl (by decide) (solve_of_v2.does hq16) ⟨Nat.le_of_ble_eq_true rfl, Nat.le_of_ble_eq_true rfl⟩ ?_; refine gC ?_
        refine g_fx rfl rfl fx60_0 rfl (by rfl) (gT ?_)
        refine g_mv rfl rfl (gT ?_)
        refine g_mv rfl rfl (gT ?_)
        obtain ⟨q17, hq17, H⟩ := bnd H
        refine g_cs [] rfl rfl (by rfl) Try.func43 rfl (by decide) (solve_of_2.does hq17) ⟨Nat.le_of_ble_eq_true rfl, Nat.le_of_ble_eq_true rfl⟩ ?_; refine gC ?_
        refine g_mv rfl rfl (gT ?_)
        refine g_ext rfl rfl rfl (Nat.le_of_ble_eq_true rfl) (gT ?_)
        refine g_ext rfl rfl rfl (Nat.le_of_ble_eq_true rfl) (gT ?_)
        refine g_as rfl rfl (gT ?_)
        refine g_as rfl rfl (gT ?_)
        refine g_nil (hK _ _ _ ?_)
        refine k_seq ?_
        refine w_seq ?_
        refine w_seq ?_
        refine wR fun K hK => ?_
        refine g_mv rfl rfl (gT ?_)
        refine g_as rfl rfl (gT ?_)
        refine g_nil (hK _ _ _ ?_)
        refine k_seq ?_
        refine w_block ?_
        refine w_wk (σ := [0, 1]) [0, 1, 0, 2, 5, 1, 1, 1, 0, 36, 0] rfl (by decide) ?_; refine gC ?_
        exact gI (ih4 false unit_3 n_12 h1 i_16 q17.2 q17.1 t_56 t_57 h0_0 h0_1 h0_2 h0_3 r H)
    · intro upper_2 unit_3 n_12 h1 i_16 hi_18 k_19 t_56 t_57 h0_0 h0_1 h0_2 h0_3 r H
      unfold solve_Trsv_nil.l2 at H
      simp only [bodyOf, Try.f9, frs, sub, if_true, if_false, Nat.one_ne_zero]
      refine w_loop ?_
      refine w_seq ?_
      refine w_seq ?_
      refine wR fun K hK => ?_
      refine g_mv rfl rfl (gT ?_)
      refine g_mv rfl rfl (gT ?_)
      refine g_bin rfl rfl rfl rfl rfl (gT ?_)
      refine g_nil (hK _ _ _ ?_)
      refine k_seq ?_
      rcases its H with ⟨c18, H⟩ | ⟨c18, H⟩
      · have c18b := decide_eq_true c18; try simp only [c18b, nrm]
        refine w_cond rfl (fun _ => ?_) (fun h => Bool.noConfusion h)
        refine w_skip ?_
        refine k_seq ?_
        refine w_seq ?_
        refine w_block ?_
        refine wD fun K hK => ?_
        refine g_mv rfl rfl (gT ?_)
        refine g_mv rfl rfl (gT ?_)
        refine g_mv rfl rfl (gT ?_)
        refine g_mv rfl rfl (gT ?_)
        refine g_mv rfl rfl (gT ?_)
        obtain ⟨c19, H⟩ := it1 H
        obtain ⟨c20, H⟩ := it1 H
        refine g_ixo rfl rfl Try.underlying22 sz35 rfl rfl (by first | assumption | omega) (by first | assumption | omega | (simp only [List.length_set, List.length_replicate] at *; omega)) (gT ?_)
        refine g_ldo rfl rfl ag35 sz35 rfl rfl (by first | assumption | omega | (simp only [List.length_set, List.length_replicate] at *; omega)) (gT ?_)
        refine g_mv rfl rfl (gT ?_)
        refine g_lda rfl rfl ag25 sz25 rfl rfl (Nat.le_of_ble_eq_true rfl) (gT ?_)
        refine g_mv rfl rfl (gT ?_)
        refine g_mv rfl rfl (gT ?_)
        obtain ⟨q21, hq21, H⟩ := bnd H
        refine g_cs [] rfl rfl (by rfl) Try.func11 rfl (by decide) (mat_Matrix_At.does hq21) ⟨Nat.le_of_ble_eq_true rfl, Nat.le_of_ble_eq_true rfl⟩ ?_; refine gC ?_
        refine g_mv rfl rfl (gT ?_)
        refine g_mv rfl rfl (gT ?_)
        obtain ⟨c22, H⟩ := it1 H
        obtain ⟨c23, H⟩ := it1 H
        refine g_ixo rfl rfl Try.underlying22 sz35 rfl rfl (by first | assumption | omega) (by first | assumption | omega | (simp only [List.length_set, List.length_replicate] at *; omega)) (gT ?_)
        refine g_ldo rfl rfl ag35 sz35 rfl rfl (by first | assumption | omega | (simp only [List.length_set, List.length_replicate] at *; omega)) (gT ?_)
        obtain ⟨q24, hq24, H⟩ := bnd H
        refine g_cs [] rfl rfl (by rfl) Try.func14 rfl (by decide) (soft_Calc_Mul_nil.does hq24) ⟨Nat.le_of_ble_eq_true rfl, Nat.le_of_ble_eq_true rfl⟩ ?_; refine gC ?_
        obtain ⟨q25, hq25, H⟩ := bnd H
        refine g_cs [] rfl rfl (by rfl) Try.func13 rfl (by decide) (soft_Calc_Sub_nil.does hq25) ⟨Nat.le_of_ble_eq_true rfl, Nat.le_of_ble_eq_true rfl⟩ ?_; refine gC ?_
        refine g_ixo rfl rfl Try.underlying22 sz35 rfl rfl (by first | assumption | omega) (by first | assumption | omega | (simp only [List.length_set, List.length_replicate] at *; omega)) (gT ?_)
        refine g_st rfl rfl sz35 rfl rfl rfl (by rfl) (by simp only [List.length_map, List.length_set, List.length_replicate]; first | assumption | omega) (gU ?_)
        refine g_nil (hK _ _ _ (by kernel_rfl) ?_)
        refine k_block ?_
        refine k_seq ?_
        refine wR fun K hK => ?_
        refine g_mv rfl rfl (gT ?_)
        refine g_bin rfl rfl rfl rfl rfl (gT ?_)
        refine g_as rfl rfl (gT ?_)
        refine g_nil (hK _ _ _ ?_)
        refine k_loop ?_
        refine w_wk (σ := [0, 1]) [0, 1, 0, 2, 5, 1, 1, 1, 0, 36, 0] rfl (by decide) ?_; refine gC ?_
        exact gI (ih4 upper_2 unit_3 n_12 (h1.set i_16.toNat q25) i_16 hi_18 (wrap64 (k_19 + 1)) t_56 t_57 h0_0 h0_1 h0_2 h0_3 r H)
      · have c18b := decide_eq_false c18; try simp only [c18b, nrm]
        refine w_cond rfl (fun h => Bool.noConfusion h) (fun _ => ?_)
        refine w_exit rfl ?_
        refine k_seq ?_
        refine w_seq ?_
        refine wR fun K hK => ?_
        refine g_mv rfl rfl (gT ?_)
        refine g_un rfl rfl rfl rfl (gT ?_)
        refine g_nil (hK _ _ _ ?_)
        refine k_seq ?_
        rcases its H with ⟨c26, H⟩ | ⟨c26, H⟩
        · have c26b : unit_3 = true := c26; try simp only [c26b, nrm]
          refine w_cond rfl (fun h => Bool.noConfusion h) (fun _ => ?_)
          refine w_skip ?_
          refine k_block ?_
          refine k_seq ?_
          refine wR fun K hK => ?_
          refine g_bin rfl rfl rfl rfl rfl (gT ?_)
          refine g_mv rfl rfl (gT ?_)
          refine g_nil (hK _ _ _ ?_)
          refine k_loop ?_
          refine w_wk (σ := [0, 1]) [0, 1, 0, 2, 5, 1, 41, 0] rfl (by decide) ?_; refine gC ?_
          exact gI (ih2 upper_2 true n_12 h1 t_56 (wrap64 (t_57 + 1)) h0_0 h0_1 h0_2 h0_3 r H)
        · have c26b : unit_3 = false := Bool.eq_false_iff.mpr c26; try simp only [c26b, nrm]
          refine w_cond rfl (fun _ => ?_) (fun h => Bool.noConfusion h)
          refine wD fun K hK => ?_
          refine g_mv rfl rfl (gT ?_)
          refine g_mv rfl rfl (gT ?_)
          refine g_mv rfl rfl (gT ?_)
          refine g_mv rfl rfl (gT ?_)
          refine g_mv rfl rfl (gT ?_)
          obtain ⟨c27, H⟩ := it1 H
          obtain ⟨c28, H⟩ := it1 H
          refine g_ixo rfl rfl Try.underlying22 sz35 rfl rfl (by first | assumption | omega) (by first | assumption | omega | (simp only [List.length_set, List.length_replicate] at *; omega)) (gT ?_)
          refine g_ldo rfl rfl ag35 sz35 rfl rfl (by first | assumption | omega | (simp only [List.length_set, List.length_replicate] at *; omega)) (gT ?_)
          refine g_lda rfl rfl ag25 sz25 rfl rfl (Nat.le_of_ble_eq_true rfl) (gT ?_)
          refine g_mv rfl rfl (gT ?_)
          refine g_mv rfl rfl (gT ?_)
          obtain ⟨q29, hq29, H⟩ := bnd H
          refine g_cs [] rfl rfl (by rfl) Try.func11 rfl (by decide) (mat_Matrix_At.does hq29) ⟨Nat.le_of_ble_eq_true rfl, Nat.le_of_ble_eq_true rfl⟩ ?_; refine gC ?_
          obtain ⟨q30, hq30, H⟩ := bnd H
          refine g_cs [] rfl rfl (by rfl) Try.func15 rfl (by decide) (soft_Calc_Div_nil.does hq30) ⟨Nat.le_of_ble_eq_true rfl, Nat.le_of_ble_eq_true rfl⟩ ?_; refine gC ?_
          refine g_ixo rfl rfl Try.underlying22 sz35 rfl rfl (by first | assumption | omega) (by first | assumption | omega | (simp only [List.length_set, List.length_replicate] at *; omega)) (gT ?_)
          refine g_st rfl rfl sz35 rfl rfl rfl (by rfl) (by simp only [List.length_map, List.length_set, List.length_replicate]; first | assumption | omega) (gU ?_)
          refine g_nil (hK _ _ _ (by kernel_rfl) ?_)
          refine k_block ?_
          refine k_seq ?_
          refine wR fun K hK => ?_
          refine g_bin rfl rfl rfl rfl rfl (gT ?_)
          refine g_mv rfl rfl (gT ?_)
          refine g_nil (hK _ _ _ ?_)
          refine k_loop ?_
          refine w_wk (σ := [0, 1]) [0, 1, 0, 2, 5, 1, 41, 0] rfl (by decide) ?_; refine gC ?_
          exact gI (ih2 upper_2 false n_12 (h1.set i_16.toNat q30) t_56 (wrap64 (t_57 + 1)) h0_0 h0_1 h0_2 h0_3 r H)
set_option maxHeartbeats 8000000 in
set_option maxRecDepth 100000 in
theorem solve_Trsv_nil.does {k : Nat} {a1_0 : Int} {a1_1 : Int} {a1_2 : Int} {l1_3 : List Int} {a2 : Bool} {a3 : Bool} {l4 : List Int} {r : (List Int) × Int} (H : solve_Trsv_nil.f k a1_0 a1_1 a1_2 l1_3 a2 a3 l4 = some r) : Do E0 (.fn 9 [.p none, .a [.i .i64 a1_0, .i .i64 a1_1, .i .i64 a1_2, .r (l1_3.map (V.i .u64)) l1_3.length true], .b a2, .b a3, .r (l4.map (V.i .u64)) l4.length true] [] (.t [.s (some (0, 0)) r.1.length, .i .i64 r.2]) [.row (r.1.map (V.i .u64)) 2 1 true true none]) := by
  obtain ⟨ih0, ih1, ih2, ih3, ih4⟩ := solve_Trsv_nil.does_l (a1_0 := a1_0) (a1_1 := a1_1) (a1_2 := a1_2) (l1_3 := l1_3) (a2 := a2) (a3 := a3) (l4 := l4) k
  refine fn_wpl Try.func9 rfl (Q := (solve_Trsv_nil.Q a1_0 a1_1 a1_2 l1_3 a2 a3 l4 r)) (fun s h => h) ?_
  unfold solve_Trsv_nil.f at H
  simp only [Try.ntmps9, List.length, List.replicate, Nat.reduceAdd, Nat.reduceSub, List.cons_append, List.nil_append]
  refine w_seq ?_
  refine wR fun K hK => ?_
  refine g_box rfl rfl rfl (by rfl) (gU ?_)
  refine g_as rfl rfl (gT ?_)
  refine g_as rfl rfl (gT ?_)
  refine g_nil (hK _ _ _ ?_)
  refine k_seq ?_
  refine w_seq ?_
  refine w_seq ?_
  refine wR fun K hK => ?_
  refine g_lda rfl rfl ag25 sz25 rfl rfl (Nat.le_of_ble_eq_true rfl) (gT ?_)
  obtain ⟨q1, hq1, H⟩ := bnd H
  refine g_cs [] rfl rfl (by rfl) Try.func26 rfl (by decide) (mat_Matrix_Check.does hq1) ⟨Nat.le_of_ble_eq_true rfl, Nat.le_of_ble_eq_true rfl⟩ ?_; refine gC ?_
  refine g_bin rfl rfl rfl rfl rfl (gT ?_)
  refine g_mv rfl rfl (gT ?_)
  rcases its H with ⟨c2, H⟩ | ⟨c2, H⟩
  · have c2b := beq_iff_eq.mpr c2; have c2n := bne_eq_false_iff_eq.mpr c2; try simp only [c2b, c2n, nrm]
    refine g_fd rfl rfl fa25_0 rfl (gT ?_)
    refine g_ldc rfl rfl ag3 sz3 rfl rfl rfl (gT ?_)
    refine g_fd rfl rfl fa25_1 rfl (gT ?_)
    refine g_ldc rfl rfl ag3 sz3 rfl rfl rfl (gT ?_)
    refine g_bin rfl rfl rfl rfl rfl (gT ?_)
    refine g_pick rfl rfl rfl (gT ?_)
    refine g_mv rfl rfl (gT ?_)
    rcases its H with ⟨c3, H⟩ | ⟨c3, H⟩
    · have c3b := beq_iff_eq.mpr c3; have c3n := bne_eq_false_iff_eq.mpr c3; try simp only [c3b, c3n, nrm]
      refine g_fd rfl rfl fa25_1 rfl (gT ?_)
      refine g_ldc rfl rfl ag3 sz3 rfl rfl rfl (gT ?_)
      refine g_mv rfl rfl (gT ?_)
      refine g_len_r rfl rfl Try.underlying22 rfl (gT ?_)
      refine g_bin rfl rfl rfl rfl rfl (gT ?_)
      refine g_pick rfl rfl rfl (gT ?_)
      refine g_nil (hK _ _ _ ?_)
      refine k_wk (σ := [0]) [0, 1, 0, 0, 1, 29] rfl (by decide) rfl ?_; refine gC ?_
      exact gI (ih0 a2 a3 l4 (a1_1 != (l4.length : Int)) a1_0 a1_1 a1_2 l1_3 r H)
    · have c3b := beq_eq_false_iff_ne.mpr c3; have c3n := bne_iff_ne.mpr c3; try simp only [c3b, c3n, nrm]
      refine g_sk rfl rfl (gT ?_)
      refine g_sk rfl rfl (gT ?_)
      refine g_sk rfl rfl (gT ?_)
      refine g_sk rfl rfl (gT ?_)
      refine g_sk rfl rfl (gT ?_)
      refine g_pick rfl rfl rfl (gT ?_)
      refine g_nil (hK _ _ _ ?_)
      refine k_wk (σ := [0]) [0, 1, 0, 0, 1, 29] rfl (by decide) rfl ?_; refine gC ?_
      exact gI (ih0 a2 a3 l4 true a1_0 a1_1 a1_2 l1_3 r H)
  · have c2b := beq_eq_false_iff_ne.mpr c2; have c2n := bne_iff_ne.mpr c2; try simp only [c2b, c2n, nrm]
    refine g_sk rfl rfl (gT ?_)
    refine g_sk rfl rfl (gT ?_)
    refine g_sk rfl rfl (gT ?_)
    refine g_sk rfl rfl (gT ?_)
    refine g_sk rfl rfl (gT ?_)
    refine g_pick rfl rfl rfl (gT ?_)
    refine g_mv rfl rfl (gT ?_)
    refine g_sk rfl rfl (gT ?_)
    refine g_sk rfl rfl (gT ?_)
    refine g_sk rfl rfl (gT ?_)
    refine g_sk rfl rfl (gT ?_)
    refine g_sk rfl rfl (gT ?_)
    refine g_pick rfl rfl rfl (gT ?_)
    refine g_nil (hK _ _ _ ?_)
    refine k_wk (σ := [0]) [0, 1, 0, 0, 1, 29] rfl (by decide) rfl ?_; refine gC ?_
    exact gI (ih0 a2 a3 l4 true a1_0 a1_1 a1_2 l1_3 r H)

set_option maxHeartbeats 8000000 in
set_option maxRecDepth 100000 in
theorem gimballaw12_head.does {k : Nat} {r : Bool} (H : gimballaw12_head.f k  = some r) : Do E0 (.fn 6 [] [] (.b r) []) := by
  refine fn_wpl Try.func6 rfl (Q := (gimballaw12_head.Q  r)) (fun s h => h) ?_
  unfold gimballaw12_head.f at H
  simp only [Try.ntmps6, List.length, List.replicate, Nat.reduceAdd, Nat.reduceSub, List.cons_append, List.nil_append]
  refine w_seq ?_
  refine wR fun K hK => ?_
  refine g_as rfl rfl (gT ?_)
  refine g_nil (hK _ _ _ ?_)
  refine k_seq ?_
  refine w_seq ?_
  refine wR fun K hK => ?_
  obtain ⟨q1, hq1, H⟩ := bnd H
  refine g_cs [] rfl rfl (by rfl) Try.func17 rfl (by decide) (mat_New.does hq1) ⟨Nat.le_of_ble_eq_true rfl, Nat.le_of_ble_eq_true rfl⟩ ?_; refine gC ?_
  refine g_alloc rfl rfl zr25 (gU ?_)
  refine g_st rfl rfl sz25 rfl rfl rfl (by rfl) (Nat.le_of_ble_eq_true rfl) (gU ?_)
  refine g_nil (hK _ _ _ ?_)
  refine k_seq ?_
  refine w_seq ?_
  refine wR fun K hK => ?_
  refine g_lda rfl rfl ag25 sz25 rfl rfl (Nat.le_of_ble_eq_true rfl) (gT ?_)
  obtain ⟨q2, hq2, H⟩ := bnd H
  have zq2_0 := mat_Matrix_Set.len hq2
  (try simp only [List.length_set, List.length_replicate, List.length_append, List.length_cons, List.length_nil, Nat.zero_add] at zq2_0)
  refine g_cs [4] rfl rfl (by rfl) Try.func20 rfl (by decide) (mat_Matrix_Set.does hq2) ⟨Nat.le_of_ble_eq_true rfl, Nat.le_of_ble_eq_true rfl⟩ ?_; simp only [nrm, nrmw, nrmc, nrme, nrmo, nrml, nrmb, nrmx, Nat.reduceEqDiff, Nat.reduceBEq, Nat.zero_add, Nat.add_zero, Nat.mul_one, List.length_cons, List.length_nil, List.length_map, List.length_set, List.length_replicate, List.drop_zero, List.drop_succ_cons, List.drop_nil, List.take_zero, List.take_succ_cons, List.take_nil, Nat.le_refl, if_true, if_false, Option.any_none, Option.any_some, List.contains_nil, Bool.not_false, Bool.or_true, Bool.true_or, Bool.or_false, Bool.false_or, Bool.and_true, Bool.true_and, Bool.and_self, reduceCtorEq, beq_self_eq_true, List.map_cons, List.map_nil, List.append_nil, List.nil_append, List.filter_cons, List.filter_nil, List.cons_append, Bool.false_eq_true, true_and, and_true, List.getElem_toArray, List.getElem_cons_zero, List.getElem_cons_succ, Nat.reduceAdd, Nat.reduceMul, Nat.reduceLT, Nat.reduceSub, Nat.reduceLeDiff, ← zq2_0]
  refine g_nil (hK _ _ _ ?_)
  refine k_seq ?_
  refine w_seq ?_
  refine wR fun K hK => ?_
  refine g_lda rfl rfl ag25 sz25 rfl rfl (Nat.le_of_ble_eq_true rfl) (gT ?_)
  obtain ⟨q3, hq3, H⟩ := bnd H
  have zq3_0 := mat_Matrix_Set.len hq3
  (try simp only [List.length_set, List.length_replicate, List.length_append, List.length_cons, List.length_nil, Nat.zero_add] at zq3_0)
  refine g_cs [4] rfl rfl (by rfl) Try.func20 rfl (by decide) (mat_Matrix_Set.does hq3) ⟨Nat.le_of_ble_eq_true rfl, Nat.le_of_ble_eq_true rfl⟩ ?_; simp only [nrm, nrmw, nrmc, nrme, nrmo, nrml, nrmb, nrmx, Nat.reduceEqDiff, Nat.reduceBEq, Nat.zero_add, Nat.add_zero, Nat.mul_one, List.length_cons, List.length_nil, List.length_map, List.length_set, List.length_replicate, List.drop_zero, List.drop_succ_cons, List.drop_nil, List.take_zero, List.take_succ_cons, List.take_nil, Nat.le_refl, if_true, if_false, Option.any_none, Option.any_some, List.contains_nil, Bool.not_false, Bool.or_true, Bool.true_or, Bool.or_false, Bool.false_or, Bool.and_true, Bool.true_and, Bool.and_self, reduceCtorEq, beq_self_eq_true, List.map_cons, List.map_nil, List.append_nil, List.nil_append, List.filter_cons, List.filter_nil, List.cons_append, Bool.false_eq_true, true_and, and_true, List.getElem_toArray, List.getElem_cons_zero, List.getElem_cons_succ, Nat.reduceAdd, Nat.reduceMul, Nat.reduceLT, Nat.reduceSub, Nat.reduceLeDiff, ← zq3_0]
  refine g_nil (hK _ _ _ ?_)
  refine k_seq ?_
  refine w_seq ?_
  refine wR fun K hK => ?_
  refine g_lda rfl rfl ag25 sz25 rfl rfl (Nat.le_of_ble_eq_true rfl) (gT ?_)
  obtain ⟨q4, hq4, H⟩ := bnd H
  have zq4_0 := mat_Matrix_Set.len hq4
  (try simp only [List.length_set, List.length_replicate, List.length_append, List.length_cons, List.length_nil, Nat.zero_add] at zq4_0)
  refine g_cs [4] rfl rfl (by rfl) Try.func20 rfl (by decide) (mat_Matrix_Set.does hq4) ⟨Nat.le_of_ble_eq_true rfl, Nat.le_of_ble_eq_true rfl⟩ ?_; simp only [nrm, nrmw, nrmc, nrme, nrmo, nrml, nrmb, nrmx, Nat.reduceEqDiff, Nat.reduceBEq, Nat.zero_add, Nat.add_zero, Nat.mul_one, List.length_cons, List.length_nil, List.length_map, List.length_set, List.length_replicate, List.drop_zero, List.drop_succ_cons, List.drop_nil, List.take_zero, List.take_succ_cons, List.take_nil, Nat.le_refl, if_true, if_false, Option.any_none, Option.any_some, List.contains_nil, Bool.not_false, Bool.or_true, Bool.true_or, Bool.or_false, Bool.false_or, Bool.and_true, Bool.true_and, Bool.and_self, reduceCtorEq, beq_self_eq_true, List.map_cons, List.map_nil, List.append_nil, List.nil_append, List.filter_cons, List.filter_nil, List.cons_append, Bool.false_eq_true, true_and, and_true, List.getElem_toArray, List.getElem_cons_zero, List.getElem_cons_succ, Nat.reduceAdd, Nat.reduceMul, Nat.reduceLT, Nat.reduceSub, Nat.reduceLeDiff, ← zq4_0]
  refine g_nil (hK _ _ _ ?_)
  refine k_seq ?_
  refine w_seq ?_
  refine wR fun K hK => ?_
  refine g_lda rfl rfl ag25 sz25 rfl rfl (Nat.le_of_ble_eq_true rfl) (gT ?_)
  refine g_bsl (k := .u64) (xs := [4616189618054758400, 4620693217682128896]) rfl rfl Try.underlying22 sz35 zr35 (by decide) rfl rfl rfl (gU ?_)
  obtain ⟨q5, hq5, H⟩ := bnd H
  refine g_cs [] rfl rfl (by rfl) Try.func9 rfl (by decide) (solve_Trsv_nil.does hq5) ⟨Nat.le_of_ble_eq_true rfl, Nat.le_of_ble_eq_true rfl⟩ ?_; refine gC ?_
  refine g_mv rfl rfl (gT ?_)
  refine g_ext rfl rfl rfl (Nat.le_of_ble_eq_true rfl) (gT ?_)
  refine g_ext rfl rfl rfl (Nat.le_of_ble_eq_true rfl) (gT ?_)
  refine g_as rfl rfl (gT ?_)
  refine g_as rfl rfl (gT ?_)
  refine g_nil (hK _ _ _ ?_)
  refine k_seq ?_
  refine w_seq ?_
  refine wR fun K hK => ?_
  refine g_mv rfl rfl (gT ?_)
  refine g_bin rfl rfl rfl rfl rfl (gT ?_)
  refine g_mv rfl rfl (gT ?_)
  rcases its H with ⟨c6, H⟩ | ⟨c6, H⟩
  · have c6b := beq_iff_eq.mpr c6; have c6n := bne_eq_false_iff_eq.mpr c6; try simp only [c6b, c6n, nrm]
    refine g_mv rfl rfl (gT ?_)
    refine g_len_s rfl rfl Try.underlying22 rfl (gT ?_)
    refine g_bin rfl rfl rfl rfl rfl (gT ?_)
    refine g_pick rfl rfl rfl (gT ?_)
    refine g_mv rfl rfl (gT ?_)
    rcases its H with ⟨c7, H⟩ | ⟨c7, H⟩
    · have c7b := beq_iff_eq.mpr c7; have c7n := bne_eq_false_iff_eq.mpr c7; try simp only [c7b, c7n, nrm]
      refine g_mv rfl rfl (gT ?_)
      obtain ⟨c8, H⟩ := it1 H
      refine g_ixo rfl rfl Try.underlying22 sz35 rfl rfl (by first | assumption | omega) (by first | assumption | omega | (simp only [List.length_set, List.length_replicate] at *; omega)) (gT ?_)
      refine g_ldo rfl rfl ag35 sz35 rfl rfl (by first | assumption | omega | (simp only [List.length_set, List.length_replicate] at *; omega)) (gT ?_)
      refine g_bin rfl rfl rfl rfl rfl (gT ?_)
      refine g_pick rfl rfl rfl (gT ?_)
      refine g_mv rfl rfl (gT ?_)
      rcases its H with ⟨c9, H⟩ | ⟨c9, H⟩
      · have c9b := beq_iff_eq.mpr c9; have c9n := bne_eq_false_iff_eq.mpr c9; try simp only [c9b, c9n, nrm]
        refine g_mv rfl rfl (gT ?_)
        obtain ⟨c10, H⟩ := it1 H
        refine g_ixo rfl rfl Try.underlying22 sz35 rfl rfl (by first | assumption | omega) (by first | assumption | omega | (simp only [List.length_set, List.length_replicate] at *; omega)) (gT ?_)
        refine g_ldo rfl rfl ag35 sz35 rfl rfl (by first | assumption | omega | (simp only [List.length_set, List.length_replicate] at *; omega)) (gT ?_)
        refine g_bin rfl rfl rfl rfl rfl (gT ?_)
        refine g_pick rfl rfl rfl (gT ?_)
        refine g_as rfl rfl (gT ?_)
        refine g_nil (hK _ _ _ ?_)
        refine k_seq ?_
        refine w_ret ?_
        refine fin_wp (τ := []) rfl (by decide) ?_; rw [← Option.some.inj H]; simp only [Try.f6]; exact gF
      · have c9b := beq_eq_false_iff_ne.mpr c9; have c9n := bne_iff_ne.mpr c9; try simp only [c9b, c9n, nrm]
        refine g_sk rfl rfl (gT ?_)
        refine g_sk rfl rfl (gT ?_)
        refine g_sk rfl rfl (gT ?_)
        refine g_sk rfl rfl (gT ?_)
        refine g_pick rfl rfl rfl (gT ?_)
        refine g_as rfl rfl (gT ?_)
        refine g_nil (hK _ _ _ ?_)
        refine k_seq ?_
        refine w_ret ?_
        refine fin_wp (τ := []) rfl (by decide) ?_; rw [← Option.some.inj H]; simp only [Try.f6]; exact gF
    · have c7b := beq_eq_false_iff_ne.mpr c7; have c7n := bne_iff_ne.mpr c7; try simp only [c7b, c7n, nrm]
      refine g_sk rfl rfl (gT ?_)
      refine g_sk rfl rfl (gT ?_)
      refine g_sk rfl rfl (gT ?_)
      refine g_sk rfl rfl (gT ?_)
      refine g_pick rfl rfl rfl (gT ?_)
      refine g_mv rfl rfl (gT ?_)
      refine g_sk rfl rfl (gT ?_)
      refine g_sk rfl rfl (gT ?_)
      refine g_sk rfl rfl (gT ?_)
      refine g_sk rfl rfl (gT ?_)
      refine g_pick rfl rfl rfl (gT ?_)
      refine g_as rfl rfl (gT ?_)
      refine g_nil (hK _ _ _ ?_)
      refine k_seq ?_
      refine w_ret ?_
      refine fin_wp (τ := []) rfl (by decide) ?_; rw [← Option.some.inj H]; simp only [Try.f6]; exact gF
  · have c6b := beq_eq_false_iff_ne.mpr c6; have c6n := bne_iff_ne.mpr c6; try simp only [c6b, c6n, nrm]
    refine g_sk rfl rfl (gT ?_)
    refine g_sk rfl rfl (gT ?_)
    refine g_sk rfl rfl (gT ?_)
    refine g_pick rfl rfl rfl (gT ?_)
    refine g_mv rfl rfl (gT ?_)
    refine g_sk rfl rfl (gT ?_)
    refine g_sk rfl rfl (gT ?_)
    refine g_sk rfl rfl (gT ?_)
    refine g_sk rfl rfl (gT ?_)
    refine g_pick rfl rfl rfl (gT ?_)
    refine g_mv rfl rfl (gT ?_)
    refine g_sk rfl rfl (gT ?_)
    refine g_sk rfl rfl (gT ?_)
    refine g_sk rfl rfl (gT ?_)
    refine g_sk rfl rfl (gT ?_)
    refine g_pick rfl rfl rfl (gT ?_)
    refine g_as rfl rfl (gT ?_)
    refine g_nil (hK _ _ _ ?_)
    refine k_seq ?_
    refine w_ret ?_
    refine fin_wp (τ := []) rfl (by decide) ?_; rw [← Option.some.inj H]; simp only [Try.f6]; exact gF

theorem gimballaw12_head_ok.does {r : Unit} (H : gimballaw12_head_ok.f = some r) : Do E0 (.fn 6 [] [] (.b true) []) := (gimballaw12_head.does (k := 200) (r := true) (by kernel_rfl))

set_option maxHeartbeats 8000000 in
set_option maxRecDepth 100000 in
theorem gimballaw12_made.does_l {a0 : Int} {l1 : List Int} {a2 : Int} (k : Nat) : (∀ (all_1 : List Int) (from_2 : Int) (t_14 : Int) (t_15 : Int) (h0_0 : Int) (h1_0 : Int) (h1_1 : Int) (h1_2 : Int) (h2 : List Int) (r : Int × Int × Int × (List Int)), gimballaw12_made.l0 k all_1 from_2 t_14 t_15 h1_0 h1_1 h1_2 h2 = some r → wk_ E0 (gimballaw12_made.Q a0 l1 a2 r) (frs (bodyOf Try.f7) [1, 1, 0, 1, 0] []) (sub (bodyOf Try.f7) [1, 1, 0, 1, 0]) ⟨[.u, .r (all_1.map (V.i .u64)) all_1.length true, .i .i64 from_2, .u, .u, .u, .p (some (0, 0)), .p (some (1, 0)), .u, .u, .u, .u, .u, .u, .i .i64 t_14, .i .i64 t_15, .u, .u, .u, .u, .u, .u, .u, .u, .u, .u, .u, .u, .u, .u, .u, .u, .u, .u, .u, .u], ofL [.row [.i .i64 h0_0, .i .i64 h0_0, .i .i64 h0_0, .s none 0] 0 0 true true none, .row [.i .i64 h1_0, .i .i64 h1_1, .i .i64 h1_2, .s (some (2, 0)) h2.length] 0 0 true true none, .row (h2.map (V.i .u64)) 2 1 true true none], 3, 0⟩) := by
  induction k with
  | zero => exact fun _ _ _ _ _ _ _ _ _ r h => by simp [gimballaw12_made.l0] at h
  | succ k ih =>
    have ih0 := ih
    refine ?_
    · intro all_1 from_2 t_14 t_15 h0_0 h1_0 h1_1 h1_2 h2 r H
      unfold gimballaw12_made.l0 at H
      simp only [bodyOf, Try.f7, frs, sub, if_true, if_false, Nat.one_ne_zero]
      refine w_loop ?_
      refine w_seq ?_
      refine wR fun K hK => ?_
      refine g_bin rfl rfl rfl rfl rfl (gT ?_)
      refine g_nil (hK _ _ _ ?_)
      refine k_seq ?_
      refine w_seq ?_
      rcases its H with ⟨c2, H⟩ | ⟨c2, H⟩
      · have c2b := decide_eq_true c2; try simp only [c2b, nrm]
        refine w_cond rfl (fun _ => ?_) (fun h => Bool.noConfusion h)
        refine w_skip ?_
        refine k_seq ?_
        refine w_seq ?_
        refine w_block ?_
        refine w_seq ?_
        refine wR fun K hK => ?_
        refine g_mv rfl rfl (gT ?_)
        refine g_as rfl rfl (gT ?_)
        refine g_nil (hK _ _ _ ?_)
        refine k_seq ?_
        refine w_seq ?_
        refine wR fun K hK => ?_
        refine g_mv rfl rfl (gT ?_)
        refine g_len_r rfl rfl Try.underlying22 rfl (gT ?_)
        refine g_bin rfl rfl rfl rfl rfl (gT ?_)
        refine g_nil (hK _ _ _ ?_)
        refine k_seq ?_
        rcases its H with ⟨c3, H⟩ | ⟨c3, H⟩
        · have c3b := decide_eq_true c3; try simp only [c3b, nrm]
          refine w_cond rfl (fun _ => ?_) (fun h => Bool.noConfusion h)
          refine wD fun K hK => ?_
          refine g_fd rfl rfl fa25_3 rfl (gT ?_)
          refine g_ldc rfl rfl ag22 sz22 rfl rfl rfl (gT ?_)
          refine g_mv rfl rfl (gT ?_)
          refine g_mv rfl rfl (gT ?_)
          refine g_mv rfl rfl (gT ?_)
          refine g_mv rfl rfl (gT ?_)
          refine g_bin rfl rfl rfl rfl rfl (gT ?_)
          refine g_mv rfl rfl (gT ?_)
          refine g_len_r rfl rfl Try.underlying22 rfl (gT ?_)
          obtain ⟨c4, H⟩ := it0 H
          refine g_rem rfl rfl rfl rfl (by first | assumption | omega) (gT ?_)
          obtain ⟨c5, H⟩ := it1 H
          obtain ⟨c6, H⟩ := it1 H
          refine g_ixr rfl rfl Try.underlying22 sz35 rfl rfl (by first | assumption | omega) (by first | assumption | omega | (simp only [List.length_set, List.length_replicate] at *; omega)) (gT ?_)
          refine g_ldq rfl rfl ag35 sz35 rfl (by first | assumption | omega) (gT ?_)
          obtain ⟨c7, H⟩ := it1 H
          obtain ⟨c8, H⟩ := it1 H
          refine g_ixo rfl rfl Try.underlying22 sz35 rfl rfl (by first | assumption | omega) (by first | assumption | omega | (simp only [List.length_set, List.length_replicate] at *; omega)) (gT ?_)
          refine g_st rfl rfl sz35 rfl rfl rfl (by rfl) (by simp only [List.length_map, List.length_set, List.length_replicate]; first | assumption | omega) (gU ?_)
          refine g_nil (hK _ _ _ (by kernel_rfl) ?_)
          refine k_block ?_
          refine k_seq ?_
          refine wR fun K hK => ?_
          refine g_bin rfl rfl rfl rfl rfl (gT ?_)
          refine g_mv rfl rfl (gT ?_)
          refine g_nil (hK _ _ _ ?_)
          refine k_loop ?_
          refine w_wk (σ := [0, 1, 2]) [1, 0, 3, 0, 6, 0] rfl (by decide) ?_; refine gC ?_
          exact gI (ih0 all_1 from_2 t_14 (wrap64 (t_15 + 1)) h0_0 h1_0 h1_1 h1_2 (h2.set t_15.toNat (rd all_1 (Int.tmod (wrap64 (t_15 + from_2)) (all_1.length : Int)))) r H)
        · have c3b := decide_eq_false c3; try simp only [c3b, nrm]
          refine w_cond rfl (fun h => Bool.noConfusion h) (fun _ => ?_)
          refine w_skip ?_
          refine k_block ?_
          refine k_seq ?_
          refine wR fun K hK => ?_
          refine g_bin rfl rfl rfl rfl rfl (gT ?_)
          refine g_mv rfl rfl (gT ?_)
          refine g_nil (hK _ _ _ ?_)
          refine k_loop ?_
          refine w_wk (σ := [0, 1, 2]) [1, 0, 3, 0, 6, 0] rfl (by decide) ?_; refine gC ?_
          exact gI (ih0 all_1 from_2 t_14 (wrap64 (t_15 + 1)) h0_0 h1_0 h1_1 h1_2 h2 r H)
      · have c2b := decide_eq_false c2; try simp only [c2b, nrm]
        refine w_cond rfl (fun h => Bool.noConfusion h) (fun _ => ?_)
        refine w_exit rfl ?_
        refine k_seq ?_
        refine w_seq ?_
        refine wR fun K hK => ?_
        refine g_lda rfl rfl ag25 sz25 rfl rfl (Nat.le_of_ble_eq_true rfl) (gT ?_)
        refine g_st rfl rfl sz25 rfl rfl rfl (by rfl) (Nat.le_of_ble_eq_true rfl) (gU ?_)
        refine g_nil (hK _ _ _ ?_)
        refine k_seq ?_
        refine w_ret ?_
        refine fin_wp (τ := [2]) rfl (by decide) ?_; rw [← Option.some.inj H]; simp only [Try.f7, ag25, sz25, nrm, nrmw, nrmc, nrme, nrmo, nrml, nrmb, nrmx, Nat.reduceEqDiff, Nat.reduceBEq, Nat.zero_add, Nat.add_zero, Nat.mul_one, List.length_cons, List.length_nil, List.length_map, List.length_set, List.length_replicate, List.drop_zero, List.drop_succ_cons, List.drop_nil, List.take_zero, List.take_succ_cons, List.take_nil, Nat.le_refl, if_true, if_false, Option.any_none, Option.any_some, List.contains_nil, Bool.not_false, Bool.or_true, Bool.true_or, Bool.or_false, Bool.false_or, Bool.and_true, Bool.true_and, Bool.and_self, reduceCtorEq, beq_self_eq_true, List.map_cons, List.map_nil, List.append_nil, List.nil_append, List.filter_cons, List.filter_nil, List.cons_append, Bool.false_eq_true, true_and, and_true, List.getElem_toArray, List.getElem_cons_zero, List.getElem_cons_succ, Nat.reduceAdd, Nat.reduceMul, Nat.reduceLT, Nat.reduceSub, Nat.reduceLeDiff]; try (first | rfl | exact ⟨rfl, trivial⟩ | exact ⟨rfl, rfl⟩)
set_option maxHeartbeats 8000000 in
set_option maxRecDepth 100000 in
theorem gimballaw12_made.does {k : Nat} {a0 : Int} {l1 : List Int} {a2 : Int} {r : Int × Int × Int × (List Int)} (H : gimballaw12_made.f k a0 l1 a2 = some r) : Do E0 (.fn 7 [.i .i64 a0, .r (l1.map (V.i .u64)) l1.length true, .i .i64 a2] [] (.a [.i .i64 r.1, .i .i64 r.2.1, .i .i64 r.2.2.1, .s (some (0, 0)) r.2.2.2.length]) [.row (r.2.2.2.map (V.i .u64)) 2 1 true true none]) := by
  obtain ih0 := gimballaw12_made.does_l (a0 := a0) (l1 := l1) (a2 := a2) k
  refine fn_wpl Try.func7 rfl (Q := (gimballaw12_made.Q a0 l1 a2 r)) (fun s h => h) ?_
  unfold gimballaw12_made.f at H
  simp only [Try.ntmps7, List.length, List.replicate, Nat.reduceAdd, Nat.reduceSub, List.cons_append, List.nil_append]
  refine w_seq ?_
  refine wR fun K hK => ?_
  refine g_alloc rfl rfl zr25 (gU ?_)
  refine g_nil (hK _ _ _ ?_)
  refine k_seq ?_
  refine w_seq ?_
  refine wR fun K hK => ?_
  refine g_mv rfl rfl (gT ?_)
  refine g_mv rfl rfl (gT ?_)
  obtain ⟨q1, hq1, H⟩ := bnd H
  refine g_cs [] rfl rfl (by rfl) Try.func17 rfl (by decide) (mat_New.does hq1) ⟨Nat.le_of_ble_eq_true rfl, Nat.le_of_ble_eq_true rfl⟩ ?_; refine gC ?_
  refine g_alloc rfl rfl zr25 (gU ?_)
  refine g_st rfl rfl sz25 rfl rfl rfl (by rfl) (Nat.le_of_ble_eq_true rfl) (gU ?_)
  refine g_nil (hK _ _ _ ?_)
  refine k_seq ?_
  refine w_seq ?_
  refine w_seq ?_
  refine wR fun K hK => ?_
  refine g_fd rfl rfl fa25_3 rfl (gT ?_)
  refine g_ldc rfl rfl ag22 sz22 rfl rfl rfl (gT ?_)
  refine g_len_s rfl rfl Try.underlying22 rfl (gT ?_)
  refine g_mv rfl rfl (gT ?_)
  refine g_nil (hK _ _ _ ?_)
  refine k_seq ?_
  refine w_block ?_
  refine w_wk (σ := [0, 16, 12]) [1, 0, 3, 0, 6, 0] rfl (by decide) ?_; refine gC ?_
  exact gI (ih0 l1 a2 (q1.2.2.2.length : Int) 0 0 q1.1 q1.2.1 q1.2.2.1 q1.2.2.2 r H)

set_option maxHeartbeats 8000000 in
set_option maxRecDepth 100000 in
theorem gimballaw12_list.does_l {a0 : Int} {l1 : List Int} {a2 : Int} (k : Nat) : (∀ (n_0 : Int) (all_1 : List Int) (from_2 : Int) (h0 : List Int) (i_8 : Int) (r : (List Int)), gimballaw12_list.l0 k n_0 all_1 from_2 h0 i_8 = some r → wk_ E0 (gimballaw12_list.Q a0 l1 a2 r) (frs (bodyOf Try.f8) [1, 1, 0, 1, 0] []) (sub (bodyOf Try.f8) [1, 1, 0, 1, 0]) ⟨[.i .i64 n_0, .r (all_1.map (V.i .u64)) all_1.length true, .i .i64 from_2, .u, .u, .u, .u, .s (some (0, 0)) h0.length, .i .i64 i_8, .u, .u, .u, .u, .u, .u, .u, .u, .u, .u, .u, .u, .u, .u, .u, .u, .u, .u, .u, .u, .u, .u, .u, .u, .u], ofL [.row (h0.map (V.i .u64)) 2 1 true true none], 1, 0⟩) := by
  induction k with
  | zero => exact fun _ _ _ _ _ r h => by simp [gimballaw12_list.l0] at h
  | succ k ih =>
    have ih0 := ih
    refine ?_
    · intro n_0 all_1 from_2 h0 i_8 r H
      unfold gimballaw12_list.l0 at H
      simp only [bodyOf, Try.f8, frs, sub, if_true, if_false, Nat.one_ne_zero]
      refine w_loop ?_
      refine w_seq ?_
      refine w_seq ?_
      refine wR fun K hK => ?_
      refine g_mv rfl rfl (gT ?_)
      refine g_mv rfl rfl (gT ?_)
      refine g_bin rfl rfl rfl rfl rfl (gT ?_)
      refine g_nil (hK _ _ _ ?_)
      refine k_seq ?_
      rcases its H with ⟨c1, H⟩ | ⟨c1, H⟩
      · have c1b := decide_eq_true c1; try simp only [c1b, nrm]
        refine w_cond rfl (fun _ => ?_) (fun h => Bool.noConfusion h)
        refine w_skip ?_
        refine k_seq ?_
        refine w_seq ?_
        refine w_block ?_
        refine w_seq ?_
        refine wR fun K hK => ?_
        refine g_mv rfl rfl (gT ?_)
        refine g_len_r rfl rfl Try.underlying22 rfl (gT ?_)
        refine g_bin rfl rfl rfl rfl rfl (gT ?_)
        refine g_nil (hK _ _ _ ?_)
        refine k_seq ?_
        rcases its H with ⟨c2, H⟩ | ⟨c2, H⟩
        · have c2b := decide_eq_true c2; try simp only [c2b, nrm]
          refine w_cond rfl (fun _ => ?_) (fun h => Bool.noConfusion h)
          refine wR fun K hK => ?_
          refine g_mv rfl rfl (gT ?_)
          refine g_mv rfl rfl (gT ?_)
          refine g_mv rfl rfl (gT ?_)
          refine g_mv rfl rfl (gT ?_)
          refine g_bin rfl rfl rfl rfl rfl (gT ?_)
          refine g_mv rfl rfl (gT ?_)
          refine g_len_r rfl rfl Try.underlying22 rfl (gT ?_)
          obtain ⟨c3, H⟩ := it0 H
          refine g_rem rfl rfl rfl rfl (by first | assumption | omega) (gT ?_)
          obtain ⟨c4, H⟩ := it1 H
          obtain ⟨c5, H⟩ := it1 H
          refine g_ixr rfl rfl Try.underlying22 sz35 rfl rfl (by first | assumption | omega) (by first | assumption | omega | (simp only [List.length_set, List.length_replicate] at *; omega)) (gT ?_)
          refine g_ldq rfl rfl ag35 sz35 rfl (by first | assumption | omega) (gT ?_)
          refine g_bsl (k := .u64) (xs := [(rd all_1 (Int.tmod (wrap64 (i_8 + from_2)) (all_1.length : Int)))]) rfl rfl Try.underlying22 sz35 zr35 (by decide) rfl rfl rfl (gU ?_)
          obtain ⟨c6, H⟩ := it1 H
          refine g_aps rfl rfl Try.underlying22 Try.underlying22 sz35 by35 zr35 rfl rfl rfl rfl rfl rfl (by unfold limit; omega) (by omega) ?_; refine gN ?_
          refine g_as rfl rfl (gT ?_)
          refine g_nil (hK _ _ _ ?_)
          refine k_block ?_
          refine k_seq ?_
          refine wR fun K hK => ?_
          refine g_mv rfl rfl (gT ?_)
          refine g_bin rfl rfl rfl rfl rfl (gT ?_)
          refine g_as rfl rfl (gT ?_)
          refine g_nil (hK _ _ _ ?_)
          refine k_loop ?_
          refine w_wk (σ := [69]) [0, 0, 0, 4, 0] rfl (by decide) ?_; refine gC ?_
          exact gI (ih0 n_0 all_1 from_2 (h0 ++ ([(rd all_1 (Int.tmod (wrap64 (i_8 + from_2)) (all_1.length : Int)))] : List Int)) (wrap64 (i_8 + 1)) r H)
        · have c2b := decide_eq_false c2; try simp only [c2b, nrm]
          refine w_cond rfl (fun h => Bool.noConfusion h) (fun _ => ?_)
          refine wR fun K hK => ?_
          refine g_mv rfl rfl (gT ?_)
          refine g_bsl (k := .u64) (xs := [4607182418800017408]) rfl rfl Try.underlying22 sz35 zr35 (by decide) rfl rfl rfl (gU ?_)
          obtain ⟨c7, H⟩ := it1 H
          refine g_aps rfl rfl Try.underlying22 Try.underlying22 sz35 by35 zr35 rfl rfl rfl rfl rfl rfl (by unfold limit; omega) (by omega) ?_; refine gN ?_
          refine g_as rfl rfl (gT ?_)
          refine g_nil (hK _ _ _ ?_)
          refine k_block ?_
          refine k_seq ?_
          refine wR fun K hK => ?_
          refine g_mv rfl rfl (gT ?_)
          refine g_bin rfl rfl rfl rfl rfl (gT ?_)
          refine g_as rfl rfl (gT ?_)
          refine g_nil (hK _ _ _ ?_)
          refine k_loop ?_
          refine w_wk (σ := [33]) [0, 0, 0, 4, 0] rfl (by decide) ?_; refine gC ?_
          exact gI (ih0 n_0 all_1 from_2 (h0 ++ ([4607182418800017408] : List Int)) (wrap64 (i_8 + 1)) r H)
      · have c1b := decide_eq_false c1; try simp only [c1b, nrm]
        refine w_cond rfl (fun h => Bool.noConfusion h) (fun _ => ?_)
        refine w_exit rfl ?_
        refine k_seq ?_
        refine w_seq ?_
        refine wR fun K hK => ?_
        refine g_mv rfl rfl (gT ?_)
        refine g_as rfl rfl (gT ?_)
        refine g_nil (hK _ _ _ ?_)
        refine k_seq ?_
        refine w_ret ?_
        refine fin_wp (τ := [0]) rfl (by decide) ?_; rw [← Option.some.inj H]; simp only [Try.f8]; exact gF
set_option maxHeartbeats 8000000 in
set_option maxRecDepth 100000 in
theorem gimballaw12_list.does {k : Nat} {a0 : Int} {l1 : List Int} {a2 : Int} {r : (List Int)} (H : gimballaw12_list.f k a0 l1 a2 = some r) : Do E0 (.fn 8 [.i .i64 a0, .r (l1.map (V.i .u64)) l1.length true, .i .i64 a2] [] (.s (some (0, 0)) r.length) [.row (r.map (V.i .u64)) 2 1 true true none]) := by
  obtain ih0 := gimballaw12_list.does_l (a0 := a0) (l1 := l1) (a2 := a2) k
  refine fn_wpl Try.func8 rfl (Q := (gimballaw12_list.Q a0 l1 a2 r)) (fun s h => h) ?_
  unfold gimballaw12_list.f at H
  simp only [Try.ntmps8, List.length, List.replicate, Nat.reduceAdd, Nat.reduceSub, List.cons_append, List.nil_append]
  refine w_seq ?_
  refine wR fun K hK => ?_
  refine g_as rfl rfl (gT ?_)
  refine g_nil (hK _ _ _ ?_)
  refine k_seq ?_
  refine w_seq ?_
  refine wR fun K hK => ?_
  refine g_bsl (k := .u64) (xs := []) rfl rfl Try.underlying22 sz35 zr35 (by decide) rfl rfl rfl (gU ?_)
  refine g_as rfl rfl (gT ?_)
  refine g_nil (hK _ _ _ ?_)
  refine k_seq ?_
  refine w_seq ?_
  refine w_seq ?_
  refine wR fun K hK => ?_
  refine g_as rfl rfl (gT ?_)
  refine g_nil (hK _ _ _ ?_)
  refine k_seq ?_
  refine w_block ?_
  refine w_wk (σ := [4]) [0, 0, 0, 4, 0] rfl (by decide) ?_; refine gC ?_
  exact gI (ih0 a0 l1 a2 ([] : List Int) 0 r H)

set_option maxHeartbeats 8000000 in
set_option maxRecDepth 100000 in
theorem soft_Calc_note.does {s0_0 : Int} {a1 : Int} {a2 : Int} {r : Int × Int} (H : soft_Calc_note.f s0_0 a1 a2 = some r) : Do E0 (.fn 30 [.p (some (0, 0)), .i .u64 a1, .i .u8 a2] [.row [.i .u8 s0_0] 0 0 true false none] (.i .u64 r.1) [.row [.i .u8 r.2] 0 0 true false none]) := by
  refine fn_wpl Try.func30 rfl (Q := (soft_Calc_note.Q s0_0 a1 a2 r)) (fun s h => h) ?_
  unfold soft_Calc_note.f at H
  simp only [Try.ntmps30, List.length, List.replicate, Nat.reduceAdd, Nat.reduceSub, List.cons_append, List.nil_append]
  refine w_seq ?_
  refine wR fun K hK => ?_
  refine g_as rfl rfl (gT ?_)
  refine g_nil (hK _ _ _ ?_)
  refine k_seq ?_
  refine w_seq ?_
  refine w_seq ?_
  refine wR fun K hK => ?_
  refine g_mv rfl rfl (gT ?_)
  refine g_same rfl rfl (c := .b true) (by simp only [nrm]; simp only [binV, sameV, V.same, Go.Rk.Rd.of, Go.Rk.Rd.bind, Try.underlying28]; rfl) (gT ?_)
  refine g_nil (hK _ _ _ ?_)
  refine k_seq ?_
  refine w_cond rfl (fun _ => ?_) (fun h => Bool.noConfusion h)
  refine wR fun K hK => ?_
  refine g_mv rfl rfl (gT ?_)
  refine g_nc rfl rfl rfl (gT ?_)
  refine g_fd rfl rfl fa31_0 rfl (gT ?_)
  refine g_ldc rfl rfl ag29 sz29 rfl rfl rfl (gT ?_)
  refine g_mv rfl rfl (gT ?_)
  refine g_bin rfl rfl rfl rfl rfl (gT ?_)
  refine g_nc rfl rfl rfl (gT ?_)
  refine g_fd rfl rfl fa31_0 rfl (gT ?_)
  refine g_st rfl rfl sz29 rfl rfl rfl (by rfl) (Nat.le_of_ble_eq_true rfl) (gU ?_)
  refine g_nil (hK _ _ _ ?_)
  refine k_seq ?_
  refine w_seq ?_
  refine wR fun K hK => ?_
  refine g_mv rfl rfl (gT ?_)
  refine g_as rfl rfl (gT ?_)
  refine g_nil (hK _ _ _ ?_)
  refine k_seq ?_
  refine w_ret ?_
  refine fin_wp (τ := [0]) rfl (by decide) ?_; rw [← Option.some.inj H]; simp only [Try.f30]; exact gF

set_option maxHeartbeats 8000000 in
set_option maxRecDepth 100000 in
theorem soft_Calc_Mul.does {k : Nat} {s0_0 : Int} {a1 : Int} {a2 : Int} {r : Int × Int} (H : soft_Calc_Mul.f k s0_0 a1 a2 = some r) : Do E0 (.fn 14 [.p (some (0, 0)), .i .u64 a1, .i .u64 a2] [.row [.i .u8 s0_0] 0 0 true false none] (.i .u64 r.1) [.row [.i .u8 r.2] 0 0 true false none]) := by
  refine fn_wpl Try.func14 rfl (Q := (soft_Calc_Mul.Q s0_0 a1 a2 r)) (fun s h => h) ?_
  unfold soft_Calc_Mul.f at H
  simp only [Try.ntmps14, List.length, List.replicate, Nat.reduceAdd, Nat.reduceSub, List.cons_append, List.nil_append]
  refine w_seq ?_
  refine wR fun K hK => ?_
  refine g_as rfl rfl (gT ?_)
  refine g_nil (hK _ _ _ ?_)
  refine k_seq ?_
  refine w_seq ?_
  refine wR fun K hK => ?_
  refine g_mv rfl rfl (gT ?_)
  refine g_mv rfl rfl (gT ?_)
  refine g_mv rfl rfl (gT ?_)
  obtain ⟨q1, hq1, H⟩ := bnd H
  refine g_cs [] rfl rfl (by rfl) Try.func32 rfl (by decide) (soft_Mul.does hq1) ⟨Nat.le_of_ble_eq_true rfl, Nat.le_of_ble_eq_true rfl⟩ ?_; refine gC ?_
  refine g_ext rfl rfl rfl (Nat.le_of_ble_eq_true rfl) (gT ?_)
  refine g_ext rfl rfl rfl (Nat.le_of_ble_eq_true rfl) (gT ?_)
  obtain ⟨q2, hq2, H⟩ := bnd H
  refine g_cs [0] rfl rfl (by rfl) Try.func30 rfl (by decide) (soft_Calc_note.does hq2) ⟨Nat.le_of_ble_eq_true rfl, Nat.le_of_ble_eq_true rfl⟩ ?_; refine gC ?_
  refine g_as rfl rfl (gT ?_)
  refine g_nil (hK _ _ _ ?_)
  refine k_seq ?_
  refine w_ret ?_
  refine fin_wp (τ := [0]) rfl (by decide) ?_; rw [← Option.some.inj H]; simp only [Try.f14]; exact gF

set_option maxHeartbeats 8000000 in
set_option maxRecDepth 100000 in
theorem soft_Calc_Add.does {k : Nat} {s0_0 : Int} {a1 : Int} {a2 : Int} {r : Int × Int} (H : soft_Calc_Add.f k s0_0 a1 a2 = some r) : Do E0 (.fn 24 [.p (some (0, 0)), .i .u64 a1, .i .u64 a2] [.row [.i .u8 s0_0] 0 0 true false none] (.i .u64 r.1) [.row [.i .u8 r.2] 0 0 true false none]) := by
  refine fn_wpl Try.func24 rfl (Q := (soft_Calc_Add.Q s0_0 a1 a2 r)) (fun s h => h) ?_
  unfold soft_Calc_Add.f at H
  simp only [Try.ntmps24, List.length, List.replicate, Nat.reduceAdd, Nat.reduceSub, List.cons_append, List.nil_append]
  refine w_seq ?_
  refine wR fun K hK => ?_
  refine g_as rfl rfl (gT ?_)
  refine g_nil (hK _ _ _ ?_)
  refine k_seq ?_
  refine w_seq ?_
  refine wR fun K hK => ?_
  refine g_mv rfl rfl (gT ?_)
  refine g_mv rfl rfl (gT ?_)
  refine g_mv rfl rfl (gT ?_)
  obtain ⟨q1, hq1, H⟩ := bnd H
  refine g_cs [] rfl rfl (by rfl) Try.func37 rfl (by decide) (soft_Add.does hq1) ⟨Nat.le_of_ble_eq_true rfl, Nat.le_of_ble_eq_true rfl⟩ ?_; refine gC ?_
  refine g_ext rfl rfl rfl (Nat.le_of_ble_eq_true rfl) (gT ?_)
  refine g_ext rfl rfl rfl (Nat.le_of_ble_eq_true rfl) (gT ?_)
  obtain ⟨q2, hq2, H⟩ := bnd H
  refine g_cs [0] rfl rfl (by rfl) Try.func30 rfl (by decide) (soft_Calc_note.does hq2) ⟨Nat.le_of_ble_eq_true rfl, Nat.le_of_ble_eq_true rfl⟩ ?_; refine gC ?_
  refine g_as rfl rfl (gT ?_)
  refine g_nil (hK _ _ _ ?_)
  refine k_seq ?_
  refine w_ret ?_
  refine fin_wp (τ := [0]) rfl (by decide) ?_; rw [← Option.some.inj H]; simp only [Try.f24]; exact gF

set_option maxHeartbeats 8000000 in
set_option maxRecDepth 100000 in
theorem solve_Trmv.does_l {s0_0 : Int} {a1_0 : Int} {a1_1 : Int} {a1_2 : Int} {l1_3 : List Int} {a2 : Bool} {a3 : Bool} {l4 : List Int} (k : Nat) : (∀ (upper_2 : Bool) (unit_3 : Bool) (x_4 : List Int) (t_34 : Bool) (h0 : Int) (h1_0 : Int) (h1_1 : Int) (h1_2 : Int) (h1_3 : List Int) (r : (List Int) × Int × Int), solve_Trmv.j0 k upper_2 unit_3 x_4 t_34 h0 h1_0 h1_1 h1_2 h1_3 = some r → kont E0 (solve_Trmv.Q s0_0 a1_0 a1_1 a1_2 l1_3 a2 a3 l4 r) (frs (bodyOf Try.f23) [1, 0, 0] []) .normal ⟨[.p (some (0, 0)), .u, .b upper_2, .b unit_3, .r (x_4.map (V.i .u64)) x_4.length true, .u, .p (some (1, 0)), .u, .u, .u, .u, .u, .u, .u, .u, .u, .u, .u, .u, .u, .u, .u, .u, .u, .u, .u, .u, .u, .u, .u, .u, .u, .u, .u, .b t_34, .u, .u, .u, .u, .u, .u, .u, .u, .u, .u, .u, .u, .u, .u, .u, .u, .u, .u, .u, .u, .u, .u, .u, .u, .u, .u, .u, .u, .u, .u, .u, .u, .u, .u, .u, .u, .u, .u, .u, .u, .u, .u, .u, .u, .u, .u, .u, .u, .u, .u, .u, .u, .u, .u, .u, .u], ofL [.row [.i .u8 h0] 0 0 true false none, .row [.i .i64 h1_0, .i .i64 h1_1, .i .i64 h1_2, .r (h1_3.map (V.i .u64)) h1_3.length true] 0 0 true true none], 2, 1⟩) ∧
    (∀ (upper_2 : Bool) (unit_3 : Bool) (x_4 : List Int) (h2 : List Int) (t_36 : Int) (t_37 : Int) (h0 : Int) (h1_0 : Int) (h1_1 : Int) (h1_2 : Int) (h1_3 : List Int) (r : (List Int) × Int × Int), solve_Trmv.l0 k upper_2 unit_3 x_4 h2 t_36 t_37 h0 h1_0 h1_1 h1_2 h1_3 = some r → wk_ E0 (solve_Trmv.Q s0_0 a1_0 a1_1 a1_2 l1_3 a2 a3 l4 r) (frs (bodyOf Try.f23) [1, 1, 1, 0, 1, 0] []) (sub (bodyOf Try.f23) [1, 1, 1, 0, 1, 0]) ⟨[.p (some (0, 0)), .u, .b upper_2, .b unit_3, .r (x_4.map (V.i .u64)) x_4.length true, .u, .p (some (1, 0)), .u, .u, .u, .u, .u, .s (some (2, 0)) h2.length, .u, .u, .u, .u, .u, .u, .u, .u, .u, .u, .u, .u, .u, .u, .u, .u, .u, .u, .u, .u, .u, .u, .u, .i .i64 t_36, .i .i64 t_37, .u, .u, .u, .u, .u, .u, .u, .u, .u, .u, .u, .u, .u, .u, .u, .u, .u, .u, .u, .u, .u, .u, .u, .u, .u, .u, .u, .u, .u, .u, .u, .u, .u, .u, .u, .u, .u, .u, .u, .u, .u, .u, .u, .u, .u, .u, .u, .u, .u, .u, .u, .u, .u], ofL [.row [.i .u8 h0] 0 0 true false none, .row [.i .i64 h1_0, .i .i64 h1_1, .i .i64 h1_2, .r (h1_3.map (V.i .u64)) h1_3.length true] 0 0 true true none, .row (h2.map (V.i .u64)) 2 1 true true none], 3, 1⟩) ∧
    (∀ (upper_2 : Bool) (unit_3 : Bool) (x_4 : List Int) (h2 : List Int) (i_13 : Int) (sum_14 : Int) (t_36 : Int) (t_37 : Int) (h0 : Int) (h1_0 : Int) (h1_1 : Int) (h1_2 : Int) (h1_3 : List Int) (r : (List Int) × Int × Int), solve_Trmv.j2 k upper_2 unit_3 x_4 h2 i_13 sum_14 t_36 t_37 h0 h1_0 h1_1 h1_2 h1_3 = some r → kont E0 (solve_Trmv.Q s0_0 a1_0 a1_1 a1_2 l1_3 a2 a3 l4 r) (frs (bodyOf Try.f23) [1, 1, 1, 0, 1, 0, 0, 1, 1, 0, 0, 1, 1, 0, 1] []) .normal ⟨[.p (some (0, 0)), .u, .b upper_2, .b unit_3, .r (x_4.map (V.i .u64)) x_4.length true, .u, .p (some (1, 0)), .u, .u, .u, .u, .u, .s (some (2, 0)) h2.length, .i .i64 i_13, .i .u64 sum_14, .u, .u, .u, .u, .u, .u, .u, .u, .u, .u, .u, .u, .u, .u, .u, .u, .u, .u, .u, .u, .u, .i .i64 t_36, .i .i64 t_37, .u, .u, .u, .u, .u, .u, .u, .u, .u, .u, .u, .u, .u, .u, .u, .u, .u, .u, .u, .u, .u, .u, .u, .u, .u, .u, .u, .u, .u, .u, .u, .u, .u, .u, .u, .u, .u, .u, .u, .u, .u, .u, .u, .u, .u, .u, .u, .u, .u, .u, .u, .u, .u], ofL [.row [.i .u8 h0] 0 0 true false none, .row [.i .i64 h1_0, .i .i64 h1_1, .i .i64 h1_2, .r (h1_3.map (V.i .u64)) h1_3.length true] 0 0 true true none, .row (h2.map (V.i .u64)) 2 1 true true none], 3, 1⟩) ∧
    (∀ (upper_2 : Bool) (unit_3 : Bool) (x_4 : List Int) (h2 : List Int) (i_13 : Int) (sum_14 : Int) (hi_16 : Int) (k_17 : Int) (t_36 : Int) (t_37 : Int) (h0 : Int) (h1_0 : Int) (h1_1 : Int) (h1_2 : Int) (h1_3 : List Int) (r : (List Int) × Int × Int), solve_Trmv.l1 k upper_2 unit_3 x_4 h2 i_13 sum_14 hi_16 k_17 t_36 t_37 h0 h1_0 h1_1 h1_2 h1_3 = some r → wk_ E0 (solve_Trmv.Q s0_0 a1_0 a1_1 a1_2 l1_3 a2 a3 l4 r) (frs (bodyOf Try.f23) [1, 1, 1, 0, 1, 0, 0, 1, 1, 0, 0, 1, 1, 1, 1, 0, 1, 0] []) (sub (bodyOf Try.f23) [1, 1, 1, 0, 1, 0, 0, 1, 1, 0, 0, 1, 1, 1, 1, 0, 1, 0]) ⟨[.p (some (0, 0)), .u, .b upper_2, .b unit_3, .r (x_4.map (V.i .u64)) x_4.length true, .u, .p (some (1, 0)), .u, .u, .u, .u, .u, .s (some (2, 0)) h2.length, .i .i64 i_13, .i .u64 sum_14, .u, .i .i64 hi_16, .i .i64 k_17, .u, .u, .u, .u, .u, .u, .u, .u, .u, .u, .u, .u, .u, .u, .u, .u, .u, .u, .i .i64 t_36, .i .i64 t_37, .u, .u, .u, .u, .u, .u, .u, .u, .u, .u, .u, .u, .u, .u, .u, .u, .u, .u, .u, .u, .u, .u, .u, .u, .u, .u, .u, .u, .u, .u, .u, .u, .u, .u, .u, .u, .u, .u, .u, .u, .u, .u, .u, .u, .u, .u, .u, .u, .u, .u, .u, .u, .u], ofL [.row [.i .u8 h0] 0 0 true false none, .row [.i .i64 h1_0, .i .i64 h1_1, .i .i64 h1_2, .r (h1_3.map (V.i .u64)) h1_3.length true] 0 0 true true none, .row (h2.map (V.i .u64)) 2 1 true true none], 3, 1⟩) := by
  induction k with
  | zero => exact ⟨fun _ _ _ _ _ _ _ _ _ r h => by simp [solve_Trmv.j0] at h, fun _ _ _ _ _ _ _ _ _ _ _ r h => by simp [solve_Trmv.l0] at h, fun _ _ _ _ _ _ _ _ _ _ _ _ _ r h => by simp [solve_Trmv.j2] at h, fun _ _ _ _ _ _ _ _ _ _ _ _ _ _ _ r h => by simp [solve_Trmv.l1] at h⟩
  | succ k ih =>
    obtain ⟨ih0, ih1, ih2, ih3⟩ := ih
    refine ⟨?_, ?_, ?_, ?_⟩
    · intro upper_2 unit_3 x_4 t_34 h0 h1_0 h1_1 h1_2 h1_3 r H
      unfold solve_Trmv.j0 at H
      simp only [bodyOf, Try.f23, frs, sub, if_true, if_false, Nat.one_ne_zero]
      refine k_seq ?_
      rcases its H with ⟨c4, H⟩ | ⟨c4, H⟩
      · have c4b : t_34 = true := c4; try simp only [c4b, nrm]
        refine w_cond rfl (fun _ => ?_) (fun h => Bool.noConfusion h)
        refine w_seq ?_
        refine wR fun K hK => ?_
        refine g_as rfl rfl (gT ?_)
        refine g_as rfl rfl (gT ?_)
        refine g_nil (hK _ _ _ ?_)
        refine k_seq ?_
        refine w_less (.at 10 [] 2 1 rfl rfl) ?_; simp only [nrmx, nrm, List.set_cons_zero, List.set_cons_succ, Nat.reduceAdd]
        refine w_ret ?_
        refine fin_wp (τ := [0, 10]) rfl (by decide) ?_; rw [← Option.some.inj H]; simp only [Try.f23]; exact gF
      · have c4b : t_34 = false := Bool.eq_false_iff.mpr c4; try simp only [c4b, nrm]
        refine w_cond rfl (fun h => Bool.noConfusion h) (fun _ => ?_)
        refine w_skip ?_
        refine k_seq ?_
        refine w_seq ?_
        refine wR fun K hK => ?_
        refine g_as rfl rfl (gT ?_)
        refine g_nil (hK _ _ _ ?_)
        refine k_seq ?_
        refine w_seq ?_
        refine w_seq ?_
        refine wR fun K hK => ?_
        refine g_fd rfl rfl fa25_0 rfl (gT ?_)
        refine g_ldc rfl rfl ag3 sz3 rfl rfl rfl (gT ?_)
        refine g_mv rfl rfl (gT ?_)
        refine g_nil (hK _ _ _ ?_)
        refine k_seq ?_
        refine w_block ?_
        refine w_less (.at 12 [] 2 1 rfl rfl) ?_; simp only [nrmx, nrm, List.set_cons_zero, List.set_cons_succ, Nat.reduceAdd]
        refine w_wk (σ := [0, 1, 18]) [0, 1, 0, 0, 1, 5, 23, 0] rfl (by decide) ?_; refine gC ?_
        exact gI (ih1 upper_2 unit_3 x_4 ([] : List Int) h1_0 0 h0 h1_0 h1_1 h1_2 h1_3 r H)
    · intro upper_2 unit_3 x_4 h2 t_36 t_37 h0 h1_0 h1_1 h1_2 h1_3 r H
      unfold solve_Trmv.l0 at H
      simp only [bodyOf, Try.f23, frs, sub, if_true, if_false, Nat.one_ne_zero]
      refine w_loop ?_
      refine w_seq ?_
      refine wR fun K hK => ?_
      refine g_bin rfl rfl rfl rfl rfl (gT ?_)
      refine g_nil (hK _ _ _ ?_)
      refine k_seq ?_
      refine w_seq ?_
      rcases its H with ⟨c5, H⟩ | ⟨c5, H⟩
      · have c5b := decide_eq_true c5; try simp only [c5b, nrm]
        refine w_cond rfl (fun _ => ?_) (fun h => Bool.noConfusion h)
        refine w_skip ?_
        refine k_seq ?_
        refine w_seq ?_
        refine w_block ?_
        refine w_seq ?_
        refine wR fun K hK => ?_
        refine g_mv rfl rfl (gT ?_)
        refine g_as rfl rfl (gT ?_)
        refine g_nil (hK _ _ _ ?_)
        refine k_seq ?_
        refine w_seq ?_
        refine wR fun K hK => ?_
        refine g_mv rfl rfl (gT ?_)
        refine g_mv rfl rfl (gT ?_)
        obtain ⟨c6, H⟩ := it1 H
        obtain ⟨c7, H⟩ := it1 H
        refine g_ixr rfl rfl Try.underlying22 sz35 rfl rfl (by first | assumption | omega) (by first | assumption | omega | (simp only [List.length_set, List.length_replicate] at *; omega)) (gT ?_)
        refine g_ldq rfl rfl ag35 sz35 rfl (by first | assumption | omega) (gT ?_)
        refine g_as rfl rfl (gT ?_)
        refine g_nil (hK _ _ _ ?_)
        refine k_seq ?_
        refine w_seq ?_
        refine w_seq ?_
        refine wR fun K hK => ?_
        refine g_mv rfl rfl (gT ?_)
        refine g_un rfl rfl rfl rfl (gT ?_)
        refine g_nil (hK _ _ _ ?_)
        refine k_seq ?_
        rcases its H with ⟨c8, H⟩ | ⟨c8, H⟩
        · have c8b : unit_3 = true := c8; try simp only [c8b, nrm]
          refine w_cond rfl (fun h => Bool.noConfusion h) (fun _ => ?_)
          refine w_skip ?_
          refine k_wk (σ := [0, 1, 2]) [0, 1, 0, 0, 1, 5, 0, 0, 21, 0] rfl (by decide) rfl ?_; refine gC ?_
          exact gI (ih2 upper_2 true x_4 h2 t_37 (rd x_4 t_37) t_36 t_37 h0 h1_0 h1_1 h1_2 h1_3 r H)
        · have c8b : unit_3 = false := Bool.eq_false_iff.mpr c8; try simp only [c8b, nrm]
          refine w_cond rfl (fun _ => ?_) (fun h => Bool.noConfusion h)
          refine wD fun K hK => ?_
          refine g_mv rfl rfl (gT ?_)
          refine g_lda rfl rfl ag25 sz25 rfl rfl (Nat.le_of_ble_eq_true rfl) (gT ?_)
          refine g_mv rfl rfl (gT ?_)
          refine g_mv rfl rfl (gT ?_)
          obtain ⟨q9, hq9, H⟩ := bnd H
          refine g_cs [] rfl rfl (by rfl) Try.func11 rfl (by decide) (mat_Matrix_At.does hq9) ⟨Nat.le_of_ble_eq_true rfl, Nat.le_of_ble_eq_true rfl⟩ ?_; refine gC ?_
          refine g_mv rfl rfl (gT ?_)
          refine g_mv rfl rfl (gT ?_)
          refine g_ixr rfl rfl Try.underlying22 sz35 rfl rfl (by first | assumption | omega) (by first | assumption | omega | (simp only [List.length_set, List.length_replicate] at *; omega)) (gT ?_)
          refine g_ldq rfl rfl ag35 sz35 rfl (by first | assumption | omega) (gT ?_)
          obtain ⟨q10, hq10, H⟩ := bnd H
          refine g_cs [0] rfl rfl (by rfl) Try.func14 rfl (by decide) (soft_Calc_Mul.does hq10) ⟨Nat.le_of_ble_eq_true rfl, Nat.le_of_ble_eq_true rfl⟩ ?_; refine gC ?_
          refine g_as rfl rfl (gT ?_)
          refine g_nil (hK _ _ _ (by kernel_rfl) ?_)
          refine k_wk (σ := [0, 1, 2]) [0, 1, 0, 0, 1, 5, 0, 0, 21, 0] rfl (by decide) rfl ?_; refine gC ?_
          exact gI (ih2 upper_2 false x_4 h2 t_37 q10.1 t_36 t_37 q10.2 h1_0 h1_1 h1_2 h1_3 r H)
      · have c5b := decide_eq_false c5; try simp only [c5b, nrm]
        refine w_cond rfl (fun h => Bool.noConfusion h) (fun _ => ?_)
        refine w_exit rfl ?_
        refine k_seq ?_
        refine w_seq ?_
        refine wR fun K hK => ?_
        refine g_mv rfl rfl (gT ?_)
        refine g_as rfl rfl (gT ?_)
        refine g_as rfl rfl (gT ?_)
        refine g_nil (hK _ _ _ ?_)
        refine k_seq ?_
        refine w_ret ?_
        refine fin_wp (τ := [0, 2]) rfl (by decide) ?_; rw [← Option.some.inj H]; simp only [Try.f23]; exact gF
    · intro upper_2 unit_3 x_4 h2 i_13 sum_14 t_36 t_37 h0 h1_0 h1_1 h1_2 h1_3 r H
      unfold solve_Trmv.j2 at H
      simp only [bodyOf, Try.f23, frs, sub, if_true, if_false, Nat.one_ne_zero]
      refine k_seq ?_
      refine w_seq ?_
      refine wD fun K hK => ?_
      refine g_mv rfl rfl (gT ?_)
      rcases its H with ⟨c11, H⟩ | ⟨c11, H⟩
      · have c11b : upper_2 = true := c11; try simp only [c11b, nrm]
        obtain ⟨q12, hq12, H⟩ := bnd H
        refine g_cs [] rfl rfl (by rfl) Try.func28 rfl (by decide) (solve_of.does hq12) ⟨Nat.le_of_ble_eq_true rfl, Nat.le_of_ble_eq_true rfl⟩ ?_; refine gC ?_
        refine g_fx rfl rfl fx60_0 rfl (by rfl) (gT ?_)
        refine g_mv rfl rfl (gT ?_)
        refine g_fd rfl rfl fa25_1 rfl (gT ?_)
        refine g_ldc rfl rfl ag3 sz3 rfl rfl rfl (gT ?_)
        obtain ⟨q13, hq13, H⟩ := bnd H
        refine g_cs [] rfl rfl (by rfl) Try.func42 rfl (by decide) (solve_of_1.does hq13) ⟨Nat.le_of_ble_eq_true rfl, Nat.le_of_ble_eq_true rfl⟩ ?_; refine gC ?_
        refine g_mv rfl rfl (gT ?_)
        refine g_ext rfl rfl rfl (Nat.le_of_ble_eq_true rfl) (gT ?_)
        refine g_ext rfl rfl rfl (Nat.le_of_ble_eq_true rfl) (gT ?_)
        refine g_as rfl rfl (gT ?_)
        refine g_as rfl rfl (gT ?_)
        refine g_nil (hK _ _ _ (by kernel_rfl) ?_)
        refine k_seq ?_
        refine w_seq ?_
        refine w_seq ?_
        refine wR fun K hK => ?_
        refine g_mv rfl rfl (gT ?_)
        refine g_as rfl rfl (gT ?_)
        refine g_nil (hK _ _ _ ?_)
        refine k_seq ?_
        refine w_block ?_
        refine w_wk (σ := [0, 1, 2]) [0, 1, 0, 0, 1, 5, 0, 0, 1, 0, 18, 0] rfl (by decide) ?_; refine gC ?_
        exact gI (ih3 true unit_3 x_4 h2 i_13 sum_14 q13.2 q13.1 t_36 t_37 h0 h1_0 h1_1 h1_2 h1_3 r H)
      · have c11b : upper_2 = false := Bool.eq_false_iff.mpr c11; try simp only [c11b, nrm]
        obtain ⟨q14, hq14, H⟩ := bnd H
        refine g_cs [] rfl rfl (by rfl) Try.func28 rfl (by decide) (solve_of_v2.does hq14) ⟨Nat.le_of_ble_eq_true rfl, Nat.le_of_ble_eq_true rfl⟩ ?_; refine gC ?_
        refine g_fx rfl rfl fx60_0 rfl (by rfl) (gT ?_)
        refine g_mv rfl rfl (gT ?_)
        refine g_fd rfl rfl fa25_1 rfl (gT ?_)
        refine g_ldc rfl rfl ag3 sz3 rfl rfl rfl (gT ?_)
        obtain ⟨q15, hq15, H⟩ := bnd H
        refine g_cs [] rfl rfl (by rfl) Try.func43 rfl (by decide) (solve_of_2.does hq15) ⟨Nat.le_of_ble_eq_true rfl, Nat.le_of_ble_eq_true rfl⟩ ?_; refine gC ?_
        refine g_mv rfl rfl (gT ?_)
        refine g_ext rfl rfl rfl (Nat.le_of_ble_eq_true rfl) (gT ?_)
        refine g_ext rfl rfl rfl (Nat.le_of_ble_eq_true rfl) (gT ?_)
        refine g_as rfl rfl (gT ?_)
        refine g_as rfl rfl (gT ?_)
        refine g_nil (hK _ _ _ (by kernel_rfl) ?_)
        refine k_seq ?_
        refine w_seq ?_
        refine w_seq ?_
        refine wR fun K hK => ?_
        refine g_mv rfl rfl (gT ?_)
        refine g_as rfl rfl (gT ?_)
        refine g_nil (hK _ _ _ ?_)
        refine k_seq ?_
        refine w_block ?_
        refine w_wk (σ := [0, 1, 2]) [0, 1, 0, 0, 1, 5, 0, 0, 1, 0, 18, 0] rfl (by decide) ?_; refine gC ?_
        exact gI (ih3 false unit_3 x_4 h2 i_13 sum_14 q15.2 q15.1 t_36 t_37 h0 h1_0 h1_1 h1_2 h1_3 r H)
    · intro upper_2 unit_3 x_4 h2 i_13 sum_14 hi_16 k_17 t_36 t_37 h0 h1_0 h1_1 h1_2 h1_3 r H
      unfold solve_Trmv.l1 at H
      simp only [bodyOf, Try.f23, frs, sub, if_true, if_false, Nat.one_ne_zero]
      refine w_loop ?_
      refine w_seq ?_
      refine w_seq ?_
      refine wR fun K hK => ?_
      refine g_mv rfl rfl (gT ?_)
      refine g_mv rfl rfl (gT ?_)
      refine g_bin rfl rfl rfl rfl rfl (gT ?_)
      refine g_nil (hK _ _ _ ?_)
      refine k_seq ?_
      rcases its H with ⟨c16, H⟩ | ⟨c16, H⟩
      · have c16b := decide_eq_true c16; try simp only [c16b, nrm]
        refine w_cond rfl (fun _ => ?_) (fun h => Bool.noConfusion h)
        refine w_skip ?_
        refine k_seq ?_
        refine w_seq ?_
        refine w_block ?_
        refine wD fun K hK => ?_
        refine g_mv rfl rfl (gT ?_)
        refine g_mv rfl rfl (gT ?_)
        refine g_mv rfl rfl (gT ?_)
        refine g_lda rfl rfl ag25 sz25 rfl rfl (Nat.le_of_ble_eq_true rfl) (gT ?_)
        refine g_mv rfl rfl (gT ?_)
        refine g_mv rfl rfl (gT ?_)
        obtain ⟨q17, hq17, H⟩ := bnd H
        refine g_cs [] rfl rfl (by rfl) Try.func11 rfl (by decide) (mat_Matrix_At.does hq17) ⟨Nat.le_of_ble_eq_true rfl, Nat.le_of_ble_eq_true rfl⟩ ?_; refine gC ?_
        refine g_mv rfl rfl (gT ?_)
        refine g_mv rfl rfl (gT ?_)
        obtain ⟨c18, H⟩ := it1 H
        obtain ⟨c19, H⟩ := it1 H
        refine g_ixr rfl rfl Try.underlying22 sz35 rfl rfl (by first | assumption | omega) (by first | assumption | omega | (simp only [List.length_set, List.length_replicate] at *; omega)) (gT ?_)
        refine g_ldq rfl rfl ag35 sz35 rfl (by first | assumption | omega) (gT ?_)
        obtain ⟨q20, hq20, H⟩ := bnd H
        refine g_cs [0] rfl rfl (by rfl) Try.func14 rfl (by decide) (soft_Calc_Mul.does hq20) ⟨Nat.le_of_ble_eq_true rfl, Nat.le_of_ble_eq_true rfl⟩ ?_; refine gC ?_
        obtain ⟨q21, hq21, H⟩ := bnd H
        refine g_cs [0] rfl rfl (by rfl) Try.func24 rfl (by decide) (soft_Calc_Add.does hq21) ⟨Nat.le_of_ble_eq_true rfl, Nat.le_of_ble_eq_true rfl⟩ ?_; refine gC ?_
        refine g_as rfl rfl (gT ?_)
        refine g_nil (hK _ _ _ (by kernel_rfl) ?_)
        refine k_block ?_
        refine k_seq ?_
        refine wR fun K hK => ?_
        refine g_mv rfl rfl (gT ?_)
        refine g_bin rfl rfl rfl rfl rfl (gT ?_)
        refine g_as rfl rfl (gT ?_)
        refine g_nil (hK _ _ _ ?_)
        refine k_loop ?_
        refine w_wk (σ := [0, 1, 2]) [0, 1, 0, 0, 1, 5, 0, 0, 1, 0, 18, 0] rfl (by decide) ?_; refine gC ?_
        exact gI (ih3 upper_2 unit_3 x_4 h2 i_13 q21.1 hi_16 (wrap64 (k_17 + 1)) t_36 t_37 q21.2 h1_0 h1_1 h1_2 h1_3 r H)
      · have c16b := decide_eq_false c16; try simp only [c16b, nrm]
        refine w_cond rfl (fun h => Bool.noConfusion h) (fun _ => ?_)
        refine w_exit rfl ?_
        refine k_seq ?_
        refine wR fun K hK => ?_
        refine g_mv rfl rfl (gT ?_)
        refine g_mv rfl rfl (gT ?_)
        refine g_bsl (k := .u64) (xs := [sum_14]) rfl rfl Try.underlying22 sz35 zr35 (by decide) rfl rfl rfl (gU ?_)
        obtain ⟨c22, H⟩ := it1 H
        refine g_aps rfl rfl Try.underlying22 Try.underlying22 sz35 by35 zr35 rfl rfl rfl rfl rfl rfl (by unfold limit; omega) (by omega) ?_; refine gN ?_
        refine g_as rfl rfl (gT ?_)
        refine g_nil (hK _ _ _ ?_)
        refine k_block ?_
        refine k_seq ?_
        refine wR fun K hK => ?_
        refine g_bin rfl rfl rfl rfl rfl (gT ?_)
        refine g_mv rfl rfl (gT ?_)
        refine g_nil (hK _ _ _ ?_)
        refine k_loop ?_
        refine w_wk (σ := [0, 1, 27]) [0, 1, 0, 0, 1, 5, 23, 0] rfl (by decide) ?_; refine gC ?_
        exact gI (ih1 upper_2 unit_3 x_4 (h2 ++ ([sum_14] : List Int)) t_36 (wrap64 (t_37 + 1)) h0 h1_0 h1_1 h1_2 h1_3 r H)
set_option maxHeartbeats 8000000 in
set_option maxRecDepth 100000 in
theorem solve_Trmv.does {k : Nat} {s0_0 : Int} {a1_0 : Int} {a1_1 : Int} {a1_2 : Int} {l1_3 : List Int} {a2 : Bool} {a3 : Bool} {l4 : List Int} {r : (List Int) × Int × Int} (H : solve_Trmv.f k s0_0 a1_0 a1_1 a1_2 l1_3 a2 a3 l4 = some r) : Do E0 (.fn 23 [.p (some (0, 0)), .a [.i .i64 a1_0, .i .i64 a1_1, .i .i64 a1_2, .r (l1_3.map (V.i .u64)) l1_3.length true], .b a2, .b a3, .r (l4.map (V.i .u64)) l4.length true] [.row [.i .u8 s0_0] 0 0 true false none] (.t [.s (some (1, 0)) r.1.length, .i .i64 r.2.1]) [.row [.i .u8 r.2.2] 0 0 true false none, .row (r.1.map (V.i .u64)) 2 1 true true none]) := by
  obtain ⟨ih0, ih1, ih2, ih3⟩ := solve_Trmv.does_l (s0_0 := s0_0) (a1_0 := a1_0) (a1_1 := a1_1) (a1_2 := a1_2) (l1_3 := l1_3) (a2 := a2) (a3 := a3) (l4 := l4) k
  refine fn_wpl Try.func23 rfl (Q := (solve_Trmv.Q s0_0 a1_0 a1_1 a1_2 l1_3 a2 a3 l4 r)) (fun s h => h) ?_
  unfold solve_Trmv.f at H
  simp only [Try.ntmps23, List.length, List.replicate, Nat.reduceAdd, Nat.reduceSub, List.cons_append, List.nil_append]
  refine w_seq ?_
  refine wR fun K hK => ?_
  refine g_box rfl rfl rfl (by rfl) (gU ?_)
  refine g_as rfl rfl (gT ?_)
  refine g_as rfl rfl (gT ?_)
  refine g_nil (hK _ _ _ ?_)
  refine k_seq ?_
  refine w_seq ?_
  refine w_seq ?_
  refine wR fun K hK => ?_
  refine g_lda rfl rfl ag25 sz25 rfl rfl (Nat.le_of_ble_eq_true rfl) (gT ?_)
  obtain ⟨q1, hq1, H⟩ := bnd H
  refine g_cs [] rfl rfl (by rfl) Try.func26 rfl (by decide) (mat_Matrix_Check.does hq1) ⟨Nat.le_of_ble_eq_true rfl, Nat.le_of_ble_eq_true rfl⟩ ?_; refine gC ?_
  refine g_bin rfl rfl rfl rfl rfl (gT ?_)
  refine g_mv rfl rfl (gT ?_)
  rcases its H with ⟨c2, H⟩ | ⟨c2, H⟩
  · have c2b := beq_iff_eq.mpr c2; have c2n := bne_eq_false_iff_eq.mpr c2; try simp only [c2b, c2n, nrm]
    refine g_fd rfl rfl fa25_0 rfl (gT ?_)
    refine g_ldc rfl rfl ag3 sz3 rfl rfl rfl (gT ?_)
    refine g_fd rfl rfl fa25_1 rfl (gT ?_)
    refine g_ldc rfl rfl ag3 sz3 rfl rfl rfl (gT ?_)
    refine g_bin rfl rfl rfl rfl rfl (gT ?_)
    refine g_pick rfl rfl rfl (gT ?_)
    refine g_mv rfl rfl (gT ?_)
    rcases its H with ⟨c3, H⟩ | ⟨c3, H⟩
    · have c3b := beq_iff_eq.mpr c3; have c3n := bne_eq_false_iff_eq.mpr c3; try simp only [c3b, c3n, nrm]
      refine g_fd rfl rfl fa25_1 rfl (gT ?_)
      refine g_ldc rfl rfl ag3 sz3 rfl rfl rfl (gT ?_)
      refine g_mv rfl rfl (gT ?_)
      refine g_len_r rfl rfl Try.underlying22 rfl (gT ?_)
      refine g_bin rfl rfl rfl rfl rfl (gT ?_)
      refine g_pick rfl rfl rfl (gT ?_)
      refine g_nil (hK _ _ _ ?_)
      refine k_wk (σ := [0, 1]) [0, 1, 0, 0, 1, 27] rfl (by decide) rfl ?_; refine gC ?_
      exact gI (ih0 a2 a3 l4 (a1_1 != (l4.length : Int)) s0_0 a1_0 a1_1 a1_2 l1_3 r H)
    · have c3b := beq_eq_false_iff_ne.mpr c3; have c3n := bne_iff_ne.mpr c3; try simp only [c3b, c3n, nrm]
      refine g_sk rfl rfl (gT ?_)
      refine g_sk rfl rfl (gT ?_)
      refine g_sk rfl rfl (gT ?_)
      refine g_sk rfl rfl (gT ?_)
      refine g_sk rfl rfl (gT ?_)
      refine g_pick rfl rfl rfl (gT ?_)
      refine g_nil (hK _ _ _ ?_)
      refine k_wk (σ := [0, 1]) [0, 1, 0, 0, 1, 27] rfl (by decide) rfl ?_; refine gC ?_
      exact gI (ih0 a2 a3 l4 true s0_0 a1_0 a1_1 a1_2 l1_3 r H)
  · have c2b := beq_eq_false_iff_ne.mpr c2; have c2n := bne_iff_ne.mpr c2; try simp only [c2b, c2n, nrm]
    refine g_sk rfl rfl (gT ?_)
    refine g_sk rfl rfl (gT ?_)
    refine g_sk rfl rfl (gT ?_)
    refine g_sk rfl rfl (gT ?_)
    refine g_sk rfl rfl (gT ?_)
    refine g_pick rfl rfl rfl (gT ?_)
    refine g_mv rfl rfl (gT ?_)
    refine g_sk rfl rfl (gT ?_)
    refine g_sk rfl rfl (gT ?_)
    refine g_sk rfl rfl (gT ?_)
    refine g_sk rfl rfl (gT ?_)
    refine g_sk rfl rfl (gT ?_)
    refine g_pick rfl rfl rfl (gT ?_)
    refine g_nil (hK _ _ _ ?_)
    refine k_wk (σ := [0, 1]) [0, 1, 0, 0, 1, 27] rfl (by decide) rfl ?_; refine gC ?_
    exact gI (ih0 a2 a3 l4 true s0_0 a1_0 a1_1 a1_2 l1_3 r H)

set_option maxHeartbeats 8000000 in
set_option maxRecDepth 100000 in
theorem soft_Calc_Sub.does {k : Nat} {s0_0 : Int} {a1 : Int} {a2 : Int} {r : Int × Int} (H : soft_Calc_Sub.f k s0_0 a1 a2 = some r) : Do E0 (.fn 13 [.p (some (0, 0)), .i .u64 a1, .i .u64 a2] [.row [.i .u8 s0_0] 0 0 true false none] (.i .u64 r.1) [.row [.i .u8 r.2] 0 0 true false none]) := by
  refine fn_wpl Try.func13 rfl (Q := (soft_Calc_Sub.Q s0_0 a1 a2 r)) (fun s h => h) ?_
  unfold soft_Calc_Sub.f at H
  simp only [Try.ntmps13, List.length, List.replicate, Nat.reduceAdd, Nat.reduceSub, List.cons_append, List.nil_append]
  refine w_seq ?_
  refine wR fun K hK => ?_
  refine g_as rfl rfl (gT ?_)
  refine g_nil (hK _ _ _ ?_)
  refine k_seq ?_
  refine w_seq ?_
  refine wR fun K hK => ?_
  refine g_mv rfl rfl (gT ?_)
  refine g_mv rfl rfl (gT ?_)
  refine g_mv rfl rfl (gT ?_)
  obtain ⟨q1, hq1, H⟩ := bnd H
  refine g_cs [] rfl rfl (by rfl) Try.func31 rfl (by decide) (soft_Sub.does hq1) ⟨Nat.le_of_ble_eq_true rfl, Nat.le_of_ble_eq_true rfl⟩ ?_; refine gC ?_
  refine g_ext rfl rfl rfl (Nat.le_of_ble_eq_true rfl) (gT ?_)
  refine g_ext rfl rfl rfl (Nat.le_of_ble_eq_true rfl) (gT ?_)
  obtain ⟨q2, hq2, H⟩ := bnd H
  refine g_cs [0] rfl rfl (by rfl) Try.func30 rfl (by decide) (soft_Calc_note.does hq2) ⟨Nat.le_of_ble_eq_true rfl, Nat.le_of_ble_eq_true rfl⟩ ?_; refine gC ?_
  refine g_as rfl rfl (gT ?_)
  refine g_nil (hK _ _ _ ?_)
  refine k_seq ?_
  refine w_ret ?_
  refine fin_wp (τ := [0]) rfl (by decide) ?_; rw [← Option.some.inj H]; simp only [Try.f13]; exact gF

set_option maxHeartbeats 8000000 in
set_option maxRecDepth 100000 in
theorem soft_Calc_Div.does {k : Nat} {s0_0 : Int} {a1 : Int} {a2 : Int} {r : Int × Int} (H : soft_Calc_Div.f k s0_0 a1 a2 = some r) : Do E0 (.fn 15 [.p (some (0, 0)), .i .u64 a1, .i .u64 a2] [.row [.i .u8 s0_0] 0 0 true false none] (.i .u64 r.1) [.row [.i .u8 r.2] 0 0 true false none]) := by
  refine fn_wpl Try.func15 rfl (Q := (soft_Calc_Div.Q s0_0 a1 a2 r)) (fun s h => h) ?_
  unfold soft_Calc_Div.f at H
  simp only [Try.ntmps15, List.length, List.replicate, Nat.reduceAdd, Nat.reduceSub, List.cons_append, List.nil_append]
  refine w_seq ?_
  refine wR fun K hK => ?_
  refine g_as rfl rfl (gT ?_)
  refine g_nil (hK _ _ _ ?_)
  refine k_seq ?_
  refine w_seq ?_
  refine wR fun K hK => ?_
  refine g_mv rfl rfl (gT ?_)
  refine g_mv rfl rfl (gT ?_)
  refine g_mv rfl rfl (gT ?_)
  obtain ⟨q1, hq1, H⟩ := bnd H
  refine g_cs [] rfl rfl (by rfl) Try.func33 rfl (by decide) (soft_Div.does hq1) ⟨Nat.le_of_ble_eq_true rfl, Nat.le_of_ble_eq_true rfl⟩ ?_; refine gC ?_
  refine g_ext rfl rfl rfl (Nat.le_of_ble_eq_true rfl) (gT ?_)
  refine g_ext rfl rfl rfl (Nat.le_of_ble_eq_true rfl) (gT ?_)
  obtain ⟨q2, hq2, H⟩ := bnd H
  refine g_cs [0] rfl rfl (by rfl) Try.func30 rfl (by decide) (soft_Calc_note.does hq2) ⟨Nat.le_of_ble_eq_true rfl, Nat.le_of_ble_eq_true rfl⟩ ?_; refine gC ?_
  refine g_as rfl rfl (gT ?_)
  refine g_nil (hK _ _ _ ?_)
  refine k_seq ?_
  refine w_ret ?_
  refine fin_wp (τ := [0]) rfl (by decide) ?_; rw [← Option.some.inj H]; simp only [Try.f15]; exact gF

set_option maxHeartbeats 8000000 in
set_option maxRecDepth 100000 in
theorem solve_Trsv.does_l {s0_0 : Int} {a1_0 : Int} {a1_1 : Int} {a1_2 : Int} {l1_3 : List Int} {a2 : Bool} {a3 : Bool} {l4 : List Int} (k : Nat) : (∀ (upper_2 : Bool) (unit_3 : Bool) (b_4 : List Int) (t_36 : Bool) (h0 : Int) (h1_0 : Int) (h1_1 : Int) (h1_2 : Int) (h1_3 : List Int) (r : (List Int) × Int × Int), solve_Trsv.j0 k upper_2 unit_3 b_4 t_36 h0 h1_0 h1_1 h1_2 h1_3 = some r → kont E0 (solve_Trsv.Q s0_0 a1_0 a1_1 a1_2 l1_3 a2 a3 l4 r) (frs (bodyOf Try.f9) [1, 0, 0] []) .normal ⟨[.p (some (0, 0)), .u, .b upper_2, .b unit_3, .r (b_4.map (V.i .u64)) b_4.length true, .u, .p (some (1, 0)), .u, .u, .u, .u, .u, .u, .u, .u, .u, .u, .u, .u, .u, .u, .u, .u, .u, .u, .u, .u, .u, .u, .u, .u, .u, .u, .u, .u, .u, .b t_36, .u, .u, .u, .u, .u, .u, .u, .u, .u, .u, .u, .u, .u, .u, .u, .u, .u, .u, .u, .u, .u, .u, .u, .u, .u, .u, .u, .u, .u, .u, .u, .u, .u, .u, .u, .u, .u, .u, .u, .u, .u, .u, .u, .u, .u, .u, .u, .u, .u, .u, .u, .u, .u, .u, .u, .u, .u, .u, .u, .u, .u, .u, .u, .u, .u, .u, .u, .u, .u, .u, .u, .u, .u, .u, .u, .u, .u, .u, .u, .u], ofL [.row [.i .u8 h0] 0 0 true false none, .row [.i .i64 h1_0, .i .i64 h1_1, .i .i64 h1_2, .r (h1_3.map (V.i .u64)) h1_3.length true] 0 0 true true none], 2, 1⟩) ∧
    (∀ (upper_2 : Bool) (unit_3 : Bool) (b_4 : List Int) (n_12 : Int) (t_39 : Int) (t_40 : Int) (h0 : Int) (h1_0 : Int) (h1_1 : Int) (h1_2 : Int) (h1_3 : List Int) (r : (List Int) × Int × Int), solve_Trsv.l0 k upper_2 unit_3 b_4 n_12 t_39 t_40 h0 h1_0 h1_1 h1_2 h1_3 = some r → wk_ E0 (solve_Trsv.Q s0_0 a1_0 a1_1 a1_2 l1_3 a2 a3 l4 r) (frs (bodyOf Try.f9) [1, 1, 1, 0, 1, 0] []) (sub (bodyOf Try.f9) [1, 1, 1, 0, 1, 0]) ⟨[.p (some (0, 0)), .u, .b upper_2, .b unit_3, .r (b_4.map (V.i .u64)) b_4.length true, .u, .p (some (1, 0)), .u, .u, .u, .u, .u, .i .i64 n_12, .u, .u, .u, .u, .u, .u, .u, .u, .u, .u, .u, .u, .u, .u, .u, .u, .u, .u, .u, .u, .u, .u, .u, .u, .u, .u, .i .i64 t_39, .i .i64 t_40, .u, .u, .u, .u, .u, .u, .u, .u, .u, .u, .u, .u, .u, .u, .u, .u, .u, .u, .u, .u, .u, .u, .u, .u, .u, .u, .u, .u, .u, .u, .u, .u, .u, .u, .u, .u, .u, .u, .u, .u, .u, .u, .u, .u, .u, .u, .u, .u, .u, .u, .u, .u, .u, .u, .u, .u, .u, .u, .u, .u, .u, .u, .u, .u, .u, .u, .u, .u, .u, .u, .u, .u, .u, .u, .u, .u], ofL [.row [.i .u8 h0] 0 0 true false none, .row [.i .i64 h1_0, .i .i64 h1_1, .i .i64 h1_2, .r (h1_3.map (V.i .u64)) h1_3.length true] 0 0 true true none], 2, 1⟩) ∧
    (∀ (upper_2 : Bool) (unit_3 : Bool) (n_12 : Int) (h2 : List Int) (t_56 : Int) (t_57 : Int) (h0 : Int) (h1_0 : Int) (h1_1 : Int) (h1_2 : Int) (h1_3 : List Int) (r : (List Int) × Int × Int), solve_Trsv.l1 k upper_2 unit_3 n_12 h2 t_56 t_57 h0 h1_0 h1_1 h1_2 h1_3 = some r → wk_ E0 (solve_Trsv.Q s0_0 a1_0 a1_1 a1_2 l1_3 a2 a3 l4 r) (frs (bodyOf Try.f9) [1, 1, 1, 1, 1, 0, 1, 0] []) (sub (bodyOf Try.f9) [1, 1, 1, 1, 1, 0, 1, 0]) ⟨[.p (some (0, 0)), .u, .b upper_2, .b unit_3, .u, .u, .p (some (1, 0)), .u, .u, .u, .u, .u, .i .i64 n_12, .u, .s (some (2, 0)) h2.length, .u, .u, .u, .u, .u, .u, .u, .u, .u, .u, .u, .u, .u, .u, .u, .u, .u, .u, .u, .u, .u, .u, .u, .u, .u, .u, .u, .u, .u, .u, .u, .u, .u, .u, .u, .u, .u, .u, .u, .u, .u, .i .i64 t_56, .i .i64 t_57, .u, .u, .u, .u, .u, .u, .u, .u, .u, .u, .u, .u, .u, .u, .u, .u, .u, .u, .u, .u, .u, .u, .u, .u, .u, .u, .u, .u, .u, .u, .u, .u, .u, .u, .u, .u, .u, .u, .u, .u, .u, .u, .u, .u, .u, .u, .u, .u, .u, .u, .u, .u, .u, .u, .u, .u, .u, .u, .u], ofL [.row [.i .u8 h0] 0 0 true false none, .row [.i .i64 h1_0, .i .i64 h1_1, .i .i64 h1_2, .r (h1_3.map (V.i .u64)) h1_3.length true] 0 0 true true none, .row (h2.map (V.i .u64)) 2 1 true true none], 3, 1⟩) ∧
    (∀ (upper_2 : Bool) (unit_3 : Bool) (n_12 : Int) (h2 : List Int) (i_16 : Int) (t_56 : Int) (t_57 : Int) (h0 : Int) (h1_0 : Int) (h1_1 : Int) (h1_2 : Int) (h1_3 : List Int) (r : (List Int) × Int × Int), solve_Trsv.j3 k upper_2 unit_3 n_12 h2 i_16 t_56 t_57 h0 h1_0 h1_1 h1_2 h1_3 = some r → kont E0 (solve_Trsv.Q s0_0 a1_0 a1_1 a1_2 l1_3 a2 a3 l4 r) (frs (bodyOf Try.f9) [1, 1, 1, 1, 1, 0, 1, 0, 0, 1, 1, 0, 0, 1, 1, 0, 1] []) .normal ⟨[.p (some (0, 0)), .u, .b upper_2, .b unit_3, .u, .u, .p (some (1, 0)), .u, .u, .u, .u, .u, .i .i64 n_12, .u, .s (some (2, 0)) h2.length, .u, .i .i64 i_16, .u, .u, .u, .u, .u, .u, .u, .u, .u, .u, .u, .u, .u, .u, .u, .u, .u, .u, .u, .u, .u, .u, .u, .u, .u, .u, .u, .u, .u, .u, .u, .u, .u, .u, .u, .u, .u, .u, .u, .i .i64 t_56, .i .i64 t_57, .u, .u, .u, .u, .u, .u, .u, .u, .u, .u, .u, .u, .u, .u, .u, .u, .u, .u, .u, .u, .u, .u, .u, .u, .u, .u, .u, .u, .u, .u, .u, .u, .u, .u, .u, .u, .u, .u, .u, .u, .u, .u, .u, .u, .u, .u, .u, .u, .u, .u, .u, .u, .u, .u, .u, .u, .u, .u, .u], ofL [.row [.i .u8 h0] 0 0 true false none, .row [.i .i64 h1_0, .i .i64 h1_1, .i .i64 h1_2, .r (h1_3.map (V.i .u64)) h1_3.length true] 0 0 true true none, .row (h2.map (V.i .u64)) 2 1 true true none], 3, 1⟩) ∧
    (∀ (upper_2 : Bool) (unit_3 : Bool) (n_12 : Int) (h2 : List Int) (i_16 : Int) (hi_18 : Int) (k_19 : Int) (t_56 : Int) (t_57 : Int) (h0 : Int) (h1_0 : Int) (h1_1 : Int) (h1_2 : Int) (h1_3 : List Int) (r : (List Int) × Int × Int), solve_Trsv.l2 k upper_2 unit_3 n_12 h2 i_16 hi_18 k_19 t_56 t_57 h0 h1_0 h1_1 h1_2 h1_3 = some r → wk_ E0 (solve_Trsv.Q s0_0 a1_0 a1_1 a1_2 l1_3 a2 a3 l4 r) (frs (bodyOf Try.f9) [1, 1, 1, 1, 1, 0, 1, 0, 0, 1, 1, 0, 0, 1, 1, 1, 1, 0, 1, 0] []) (sub (bodyOf Try.f9) [1, 1, 1, 1, 1, 0, 1, 0, 0, 1, 1, 0, 0, 1, 1, 1, 1, 0, 1, 0]) ⟨[.p (some (0, 0)), .u, .b upper_2, .b unit_3, .u, .u, .p (some (1, 0)), .u, .u, .u, .u, .u, .i .i64 n_12, .u, .s (some (2, 0)) h2.length, .u, .i .i64 i_16, .u, .i .i64 hi_18, .i .i64 k_19, .u, .u, .u, .u, .u, .u, .u, .u, .u, .u, .u, .u, .u, .u, .u, .u, .u, .u, .u, .u, .u, .u, .u, .u, .u, .u, .u, .u, .u, .u, .u, .u, .u, .u, .u, .u, .i .i64 t_56, .i .i64 t_57, .u, .u, .u, .u, .u, .u, .u, .u, .u, .u, .u, .u, .u, .u, .u, .u, .u, .u, .u, .u, .u, .u, .u, .u, .u, .u, .u, .u, .u, .u, .u, .u, .u, .u, .u, .u, .u, .u, .u, .u, .u, .u, .u, .u, .u, .u, .u, .u, .u, .u, .u, .u, .u, .u, .u, .u, .u, .u, .u], ofL [.row [.i .u8 h0] 0 0 true false none, .row [.i .i64 h1_0, .i .i64 h1_1, .i .i64 h1_2, .r (h1_3.map (V.i .u64)) h1_3.length true] 0 0 true true none, .row (h2.map (V.i .u64)) 2 1 true true none], 3, 1⟩) := by
  induction k with
  | zero => exact ⟨fun _ _ _ _ _ _ _ _ _ r h => by simp [solve_Trsv.j0] at h, fun _ _ _ _ _ _ _ _ _ _ _ r h => by simp [solve_Trsv.l0] at h, fun _ _ _ _ _ _ _ _ _ _ _ r h => by simp [solve_Trsv.l1] at h, fun _ _ _ _ _ _ _ _ _ _ _ _ r h => by simp [solve_Trsv.j3] at h, fun _ _ _ _ _ _ _ _ _ _ _ _ _ _ r h => by simp [solve_Trsv.l2] at h⟩
  | succ k ih =>
    obtain ⟨ih0, ih1, ih2, ih3, ih4⟩ := ih
    refine ⟨?_, ?_, ?_, ?_, ?_⟩
    · intro upper_2 unit_3 b_4 t_36 h0 h1_0 h1_1 h1_2 h1_3 r H
      unfold solve_Trsv.j0 at H
      simp only [bodyOf, Try.f9, frs, sub, if_true, if_false, Nat.one_ne_zero]
      refine k_seq ?_
      rcases its H with ⟨c4, H⟩ | ⟨c4, H⟩
      · have c4b : t_36 = true := c4; try simp only [c4b, nrm]
        refine w_cond rfl (fun _ => ?_) (fun h => Bool.noConfusion h)
        refine w_seq ?_
        refine wR fun K hK => ?_
        refine g_as rfl rfl (gT ?_)
        refine g_as rfl rfl (gT ?_)
        refine g_nil (hK _ _ _ ?_)
        refine k_seq ?_
        refine w_less (.at 10 [] 2 1 rfl rfl) ?_; simp only [nrmx, nrm, List.set_cons_zero, List.set_cons_succ, Nat.reduceAdd]
        refine w_ret ?_
        refine fin_wp (τ := [0, 10]) rfl (by decide) ?_; rw [← Option.some.inj H]; simp only [Try.f9]; exact gF
      · have c4b : t_36 = false := Bool.eq_false_iff.mpr c4; try simp only [c4b, nrm]
        refine w_cond rfl (fun h => Bool.noConfusion h) (fun _ => ?_)
        refine w_skip ?_
        refine k_seq ?_
        refine w_seq ?_
        refine wR fun K hK => ?_
        refine g_mv rfl rfl (gT ?_)
        refine g_len_r rfl rfl Try.underlying22 rfl (gT ?_)
        refine g_as rfl rfl (gT ?_)
        refine g_nil (hK _ _ _ ?_)
        refine k_seq ?_
        refine w_seq ?_
        refine w_seq ?_
        refine wR fun K hK => ?_
        refine g_mv rfl rfl (gT ?_)
        refine g_mv rfl rfl (gT ?_)
        refine g_nil (hK _ _ _ ?_)
        refine k_seq ?_
        refine w_block ?_
        refine w_wk (σ := [0, 1]) [0, 1, 0, 0, 1, 5, 26, 0] rfl (by decide) ?_; refine gC ?_
        exact gI (ih1 upper_2 unit_3 b_4 (b_4.length : Int) (b_4.length : Int) 0 h0 h1_0 h1_1 h1_2 h1_3 r H)
    · intro upper_2 unit_3 b_4 n_12 t_39 t_40 h0 h1_0 h1_1 h1_2 h1_3 r H
      unfold solve_Trsv.l0 at H
      simp only [bodyOf, Try.f9, frs, sub, if_true, if_false, Nat.one_ne_zero]
      refine w_loop ?_
      refine w_seq ?_
      refine wR fun K hK => ?_
      refine g_bin rfl rfl rfl rfl rfl (gT ?_)
      refine g_nil (hK _ _ _ ?_)
      refine k_seq ?_
      refine w_seq ?_
      rcases its H with ⟨c5, H⟩ | ⟨c5, H⟩
      · have c5b := decide_eq_true c5; try simp only [c5b, nrm]
        refine w_cond rfl (fun _ => ?_) (fun h => Bool.noConfusion h)
        refine w_skip ?_
        refine k_seq ?_
        refine w_seq ?_
        refine w_block ?_
        refine w_seq ?_
        refine wR fun K hK => ?_
        refine g_mv rfl rfl (gT ?_)
        refine g_as rfl rfl (gT ?_)
        refine g_nil (hK _ _ _ ?_)
        refine k_seq ?_
        refine w_seq ?_
        refine wR fun K hK => ?_
        refine g_mv rfl rfl (gT ?_)
        refine g_un rfl rfl rfl rfl (gT ?_)
        refine g_mv rfl rfl (gT ?_)
        rcases its H with ⟨c6, H⟩ | ⟨c6, H⟩
        · have c6b : unit_3 = true := c6; try simp only [c6b, nrm]
          refine g_sk rfl rfl (gT ?_)
          refine g_sk rfl rfl (gT ?_)
          refine g_sk rfl rfl (gT ?_)
          refine g_sk rfl rfl (gT ?_)
          refine g_sk rfl rfl (gT ?_)
          refine g_sk rfl rfl (gT ?_)
          refine g_pick rfl rfl rfl (gT ?_)
          refine g_nil (hK _ _ _ ?_)
          refine k_seq ?_
          refine w_cond rfl (fun h => Bool.noConfusion h) (fun _ => ?_)
          refine w_skip ?_
          refine k_block ?_
          refine k_seq ?_
          refine wR fun K hK => ?_
          refine g_bin rfl rfl rfl rfl rfl (gT ?_)
          refine g_mv rfl rfl (gT ?_)
          refine g_nil (hK _ _ _ ?_)
          refine k_loop ?_
          refine w_wk (σ := [0, 1]) [0, 1, 0, 0, 1, 5, 26, 0] rfl (by decide) ?_; refine gC ?_
          exact gI (ih1 upper_2 true b_4 n_12 t_39 (wrap64 (t_40 + 1)) h0 h1_0 h1_1 h1_2 h1_3 r H)
        · have c6b : unit_3 = false := Bool.eq_false_iff.mpr c6; try simp only [c6b, nrm]
          refine g_lda rfl rfl ag25 sz25 rfl rfl (Nat.le_of_ble_eq_true rfl) (gT ?_)
          refine g_mv rfl rfl (gT ?_)
          refine g_mv rfl rfl (gT ?_)
          obtain ⟨q7, hq7, H⟩ := bnd H
          refine g_cs [] rfl rfl (by rfl) Try.func11 rfl (by decide) (mat_Matrix_At.does hq7) ⟨Nat.le_of_ble_eq_true rfl, Nat.le_of_ble_eq_true rfl⟩ ?_; refine gC ?_
          obtain ⟨q8, hq8, H⟩ := bnd H
          refine g_cs [] rfl rfl (by rfl) Try.func27 rfl (by decide) (word_Kind.does hq8) ⟨Nat.le_of_ble_eq_true rfl, Nat.le_of_ble_eq_true rfl⟩ ?_; refine gC ?_
          refine g_bin rfl rfl rfl rfl rfl (gT ?_)
          refine g_pick rfl rfl rfl (gT ?_)
          refine g_nil (hK _ _ _ ?_)
          refine k_seq ?_
          rcases its H with ⟨c9, H⟩ | ⟨c9, H⟩
          · have c9b := beq_iff_eq.mpr c9; have c9n := bne_eq_false_iff_eq.mpr c9; try simp only [c9b, c9n, nrm]
            refine w_cond rfl (fun _ => ?_) (fun h => Bool.noConfusion h)
            refine w_seq ?_
            refine wR fun K hK => ?_
            refine g_as rfl rfl (gT ?_)
            refine g_as rfl rfl (gT ?_)
            refine g_nil (hK _ _ _ ?_)
            refine k_seq ?_
            refine w_less (.at 10 [] 2 1 rfl rfl) ?_; simp only [nrmx, nrm, List.set_cons_zero, List.set_cons_succ, Nat.reduceAdd]
            refine w_ret ?_
            refine fin_wp (τ := [0, 62]) rfl (by decide) ?_; rw [← Option.some.inj H]; simp only [Try.f9]; exact gF
          · have c9b := beq_eq_false_iff_ne.mpr c9; have c9n := bne_iff_ne.mpr c9; try simp only [c9b, c9n, nrm]
            refine w_cond rfl (fun h => Bool.noConfusion h) (fun _ => ?_)
            refine w_skip ?_
            refine k_block ?_
            refine k_seq ?_
            refine wR fun K hK => ?_
            refine g_bin rfl rfl rfl rfl rfl (gT ?_)
            refine g_mv rfl rfl (gT ?_)
            refine g_nil (hK _ _ _ ?_)
            refine k_loop ?_
            refine w_wk (σ := [0, 1]) [0, 1, 0, 0, 1, 5, 26, 0] rfl (by decide) ?_; refine gC ?_
            exact gI (ih1 upper_2 false b_4 n_12 t_39 (wrap64 (t_40 + 1)) h0 h1_0 h1_1 h1_2 h1_3 r H)
      · have c5b := decide_eq_false c5; try simp only [c5b, nrm]
        refine w_cond rfl (fun h => Bool.noConfusion h) (fun _ => ?_)
        refine w_exit rfl ?_
        refine k_seq ?_
        refine w_seq ?_
        refine wR fun K hK => ?_
        refine g_mv rfl rfl (gT ?_)
        obtain ⟨c10, H⟩ := it1 H
        refine g_apnr rfl rfl Try.underlying22 Try.underlying22 sz35 by35 zr35 rfl rfl rfl (by unfold limit; omega) (by omega) (gU ?_)
        refine g_as rfl rfl (gT ?_)
        refine g_nil (hK _ _ _ ?_)
        refine k_seq ?_
        refine w_seq ?_
        refine w_seq ?_
        refine wR fun K hK => ?_
        refine g_mv rfl rfl (gT ?_)
        refine g_mv rfl rfl (gT ?_)
        refine g_nil (hK _ _ _ ?_)
        refine k_seq ?_
        refine w_block ?_
        refine w_wk (σ := [0, 1, 10]) [0, 1, 0, 2, 5, 1, 41, 0] rfl (by decide) ?_; refine gC ?_
        exact gI (ih2 upper_2 unit_3 n_12 b_4 n_12 0 h0 h1_0 h1_1 h1_2 h1_3 r H)
    · intro upper_2 unit_3 n_12 h2 t_56 t_57 h0 h1_0 h1_1 h1_2 h1_3 r H
      unfold solve_Trsv.l1 at H
      simp only [bodyOf, Try.f9, frs, sub, if_true, if_false, Nat.one_ne_zero]
      refine w_loop ?_
      refine w_seq ?_
      refine wR fun K hK => ?_
      refine g_bin rfl rfl rfl rfl rfl (gT ?_)
      refine g_nil (hK _ _ _ ?_)
      refine k_seq ?_
      refine w_seq ?_
      rcases its H with ⟨c11, H⟩ | ⟨c11, H⟩
      · have c11b := decide_eq_true c11; try simp only [c11b, nrm]
        refine w_cond rfl (fun _ => ?_) (fun h => Bool.noConfusion h)
        refine w_skip ?_
        refine k_seq ?_
        refine w_seq ?_
        refine w_block ?_
        refine w_seq ?_
        refine wR fun K hK => ?_
        refine g_mv rfl rfl (gT ?_)
        refine g_as rfl rfl (gT ?_)
        refine g_nil (hK _ _ _ ?_)
        refine k_seq ?_
        refine w_seq ?_
        refine wR fun K hK => ?_
        refine g_mv rfl rfl (gT ?_)
        refine g_as rfl rfl (gT ?_)
        refine g_nil (hK _ _ _ ?_)
        refine k_seq ?_
        refine w_seq ?_
        refine w_seq ?_
        refine wR fun K hK => ?_
        refine g_mv rfl rfl (gT ?_)
        refine g_nil (hK _ _ _ ?_)
        refine k_seq ?_
        rcases its H with ⟨c12, H⟩ | ⟨c12, H⟩
        · have c12b : upper_2 = true := c12; try simp only [c12b, nrm]
          refine w_cond rfl (fun _ => ?_) (fun h => Bool.noConfusion h)
          refine wR fun K hK => ?_
          refine g_mv rfl rfl (gT ?_)
          refine g_bin rfl rfl rfl rfl rfl (gT ?_)
          refine g_mv rfl rfl (gT ?_)
          refine g_bin rfl rfl rfl rfl rfl (gT ?_)
          refine g_as rfl rfl (gT ?_)
          refine g_nil (hK _ _ _ ?_)
          refine k_wk (σ := [0, 1, 2]) [0, 1, 0, 2, 5, 1, 1, 39, 0] rfl (by decide) rfl ?_; refine gC ?_
          exact gI (ih3 true unit_3 n_12 h2 (wrap64 ((wrap64 (n_12 - 1)) - t_57)) t_56 t_57 h0 h1_0 h1_1 h1_2 h1_3 r H)
        · have c12b : upper_2 = false := Bool.eq_false_iff.mpr c12; try simp only [c12b, nrm]
          refine w_cond rfl (fun h => Bool.noConfusion h) (fun _ => ?_)
          refine w_skip ?_
          refine k_wk (σ := [0, 1, 2]) [0, 1, 0, 2, 5, 1, 1, 39, 0] rfl (by decide) rfl ?_; refine gC ?_
          exact gI (ih3 false unit_3 n_12 h2 t_57 t_56 t_57 h0 h1_0 h1_1 h1_2 h1_3 r H)
      · have c11b := decide_eq_false c11; try simp only [c11b, nrm]
        refine w_cond rfl (fun h => Bool.noConfusion h) (fun _ => ?_)
        refine w_exit rfl ?_
        refine k_seq ?_
        refine w_seq ?_
        refine wR fun K hK => ?_
        refine g_mv rfl rfl (gT ?_)
        refine g_as rfl rfl (gT ?_)
        refine g_as rfl rfl (gT ?_)
        refine g_nil (hK _ _ _ ?_)
        refine k_seq ?_
        refine w_ret ?_
        refine fin_wp (τ := [0, 2]) rfl (by decide) ?_; rw [← Option.some.inj H]; simp only [Try.f9]; exact gF
    · intro upper_2 unit_3 n_12 h2 i_16 t_56 t_57 h0 h1_0 h1_1 h1_2 h1_3 r H
      unfold solve_Trsv.j3 at H
      simp only [bodyOf, Try.f9, frs, sub, if_true, if_false, Nat.one_ne_zero]
      refine k_seq ?_
      refine w_seq ?_
      refine wR fun K hK => ?_
      refine g_mv rfl rfl (gT ?_)
      rcases its H with ⟨c13, H⟩ | ⟨c13, H⟩
      · have c13b : upper_2 = true := c13; try simp only [c13b, nrm]
        obtain ⟨q14, hq14, H⟩ := bnd H
        refine g_cs [] rfl rfl (by rfl) Try.func28 rfl (by decide) (solve_of.does hq14) ⟨Nat.le_of_ble_eq_true rfl, Nat.le_of_ble_eq_true rfl⟩ ?_; refine gC ?_
        refine g_fx rfl rfl fx60_0 rfl (by rfl) (gT ?_)
        refine g_mv rfl rfl (gT ?_)
        refine g_mv rfl rfl (gT ?_)
        obtain ⟨q15, hq15, H⟩ := bnd H
        refine g_cs [] rfl rfl (by rfl) Try.func42 rfl (by decide) (solve_of_1.does hq15) ⟨Nat.le_of_ble_eq_true rfl, Nat.le_of_ble_eq_true rfl⟩ ?_; refine gC ?_
        refine g_mv rfl rfl (gT ?_)
        refine g_ext rfl rfl rfl (Nat.le_of_ble_eq_true rfl) (gT ?_)
        refine g_ext rfl rfl rfl (Nat.le_of_ble_eq_true rfl) (gT ?_)
        refine g_as rfl rfl (gT ?_)
        refine g_as rfl rfl (gT ?_)
        refine g_nil (hK _ _ _ ?_)
        refine k_seq ?_
        refine w_seq ?_
        refine w_seq ?_
        refine wR fun K hK => ?_
        refine g_mv rfl rfl (gT ?_)
        refine g_as rfl rfl (gT ?_)
        refine g_nil (hK _ _ _ ?_)
        refine k_seq ?_
        refine w_block ?_
        refine w_wk (σ := [0, 1, 2]) [0, 1, 0, 2, 5, 1, 1, 1, 0, 36, 0] rfl (by decide) ?_; refine gC ?_
        exact gI (ih4 true unit_3 n_12 h2 i_16 q15.2 q15.1 t_56 t_57 h0 h1_0 h1_1 h1_2 h1_3 r H)
      · have c13b : upper_2 = false := Bool.eq_false_iff.mpr c13; try simp only [c13b, nrm]
        obtain ⟨q16, hq16, H⟩ := bnd H
        refine g_cs [] rfl rfl (by rfl) Try.func28 rfl (by decide) (solve_of_v2.does hq16) ⟨Nat.le_of_ble_eq_true rfl, Nat.le_of_ble_eq_true rfl⟩ ?_; refine gC ?_
        refine g_fx rfl rfl fx60_0 rfl (by rfl) (gT ?_)
        refine g_mv rfl rfl (gT ?_)
        refine g_mv rfl rfl (gT ?_)
        obtain ⟨q17, hq17, H⟩ := bnd H
        refine g_cs [] rfl rfl (by rfl) Try.func43 rfl (by decide) (solve_of_2.does hq17) ⟨Nat.le_of_ble_eq_true rfl, Nat.le_of_ble_eq_true rfl⟩ ?_; refine gC ?_
        refine g_mv rfl rfl (gT ?_)
        refine g_ext rfl rfl rfl (Nat.le_of_ble_eq_true rfl) (gT ?_)
        refine g_ext rfl rfl rfl (Nat.le_of_ble_eq_true rfl) (gT ?_)
        refine g_as rfl rfl (gT ?_)
        refine g_as rfl rfl (gT ?_)
        refine g_nil (hK _ _ _ ?_)
        refine k_seq ?_
        refine w_seq ?_
        refine w_seq ?_
        refine wR fun K hK => ?_
        refine g_mv rfl rfl (gT ?_)
        refine g_as rfl rfl (gT ?_)
        refine g_nil (hK _ _ _ ?_)
        refine k_seq ?_
        refine w_block ?_
        refine w_wk (σ := [0, 1, 2]) [0, 1, 0, 2, 5, 1, 1, 1, 0, 36, 0] rfl (by decide) ?_; refine gC ?_
        exact gI (ih4 false unit_3 n_12 h2 i_16 q17.2 q17.1 t_56 t_57 h0 h1_0 h1_1 h1_2 h1_3 r H)
    · intro upper_2 unit_3 n_12 h2 i_16 hi_18 k_19 t_56 t_57 h0 h1_0 h1_1 h1_2 h1_3 r H
      unfold solve_Trsv.l2 at H
      simp only [bodyOf, Try.f9, frs, sub, if_true, if_false, Nat.one_ne_zero]
      refine w_loop ?_
      refine w_seq ?_
      refine w_seq ?_
      refine wR fun K hK => ?_
      refine g_mv rfl rfl (gT ?_)
      refine g_mv rfl rfl (gT ?_)
      refine g_bin rfl rfl rfl rfl rfl (gT ?_)
      refine g_nil (hK _ _ _ ?_)
      refine k_seq ?_
      rcases its H with ⟨c18, H⟩ | ⟨c18, H⟩
      · have c18b := decide_eq_true c18; try simp only [c18b, nrm]
        refine w_cond rfl (fun _ => ?_) (fun h => Bool.noConfusion h)
        refine w_skip ?_
        refine k_seq ?_
        refine w_seq ?_
        refine w_block ?_
        refine wD fun K hK => ?_
        refine g_mv rfl rfl (gT ?_)
        refine g_mv rfl rfl (gT ?_)
        refine g_mv rfl rfl (gT ?_)
        refine g_mv rfl rfl (gT ?_)
        refine g_mv rfl rfl (gT ?_)
        obtain ⟨c19, H⟩ := it1 H
        obtain ⟨c20, H⟩ := it1 H
        refine g_ixo rfl rfl Try.underlying22 sz35 rfl rfl (by first | assumption | omega) (by first | assumption | omega | (simp only [List.length_set, List.length_replicate] at *; omega)) (gT ?_)
        refine g_ldo rfl rfl ag35 sz35 rfl rfl (by first | assumption | omega | (simp only [List.length_set, List.length_replicate] at *; omega)) (gT ?_)
        refine g_mv rfl rfl (gT ?_)
        refine g_lda rfl rfl ag25 sz25 rfl rfl (Nat.le_of_ble_eq_true rfl) (gT ?_)
        refine g_mv rfl rfl (gT ?_)
        refine g_mv rfl rfl (gT ?_)
        obtain ⟨q21, hq21, H⟩ := bnd H
        refine g_cs [] rfl rfl (by rfl) Try.func11 rfl (by decide) (mat_Matrix_At.does hq21) ⟨Nat.le_of_ble_eq_true rfl, Nat.le_of_ble_eq_true rfl⟩ ?_; refine gC ?_
        refine g_mv rfl rfl (gT ?_)
        refine g_mv rfl rfl (gT ?_)
        obtain ⟨c22, H⟩ := it1 H
        obtain ⟨c23, H⟩ := it1 H
        refine g_ixo rfl rfl Try.underlying22 sz35 rfl rfl (by first | assumption | omega) (by first | assumption | omega | (simp only [List.length_set, List.length_replicate] at *; omega)) (gT ?_)
        refine g_ldo rfl rfl ag35 sz35 rfl rfl (by first | assumption | omega | (simp only [List.length_set, List.length_replicate] at *; omega)) (gT ?_)
        obtain ⟨q24, hq24, H⟩ := bnd H
        refine g_cs [0] rfl rfl (by rfl) Try.func14 rfl (by decide) (soft_Calc_Mul.does hq24) ⟨Nat.le_of_ble_eq_true rfl, Nat.le_of_ble_eq_true rfl⟩ ?_; refine gC ?_
        obtain ⟨q25, hq25, H⟩ := bnd H
        refine g_cs [0] rfl rfl (by rfl) Try.func13 rfl (by decide) (soft_Calc_Sub.does hq25) ⟨Nat.le_of_ble_eq_true rfl, Nat.le_of_ble_eq_true rfl⟩ ?_; refine gC ?_
        refine g_ixo rfl rfl Try.underlying22 sz35 rfl rfl (by first | assumption | omega) (by first | assumption | omega | (simp only [List.length_set, List.length_replicate] at *; omega)) (gT ?_)
        refine g_st rfl rfl sz35 rfl rfl rfl (by rfl) (by simp only [List.length_map, List.length_set, List.length_replicate]; first | assumption | omega) (gU ?_)
        refine g_nil (hK _ _ _ (by kernel_rfl) ?_)
        refine k_block ?_
        refine k_seq ?_
        refine wR fun K hK => ?_
        refine g_mv rfl rfl (gT ?_)
        refine g_bin rfl rfl rfl rfl rfl (gT ?_)
        refine g_as rfl rfl (gT ?_)
        refine g_nil (hK _ _ _ ?_)
        refine k_loop ?_
        refine w_wk (σ := [0, 1, 2]) [0, 1, 0, 2, 5, 1, 1, 1, 0, 36, 0] rfl (by decide) ?_; refine gC ?_
        exact gI (ih4 upper_2 unit_3 n_12 (h2.set i_16.toNat q25.1) i_16 hi_18 (wrap64 (k_19 + 1)) t_56 t_57 q25.2 h1_0 h1_1 h1_2 h1_3 r H)
      · have c18b := decide_eq_false c18; try simp only [c18b, nrm]
        refine w_cond rfl (fun h => Bool.noConfusion h) (fun _ => ?_)
        refine w_exit rfl ?_
        refine k_seq ?_
        refine w_seq ?_
        refine wR fun K hK => ?_
        refine g_mv rfl rfl (gT ?_)
        refine g_un rfl rfl rfl rfl (gT ?_)
        refine g_nil (hK _ _ _ ?_)
        refine k_seq ?_
        rcases its H with ⟨c26, H⟩ | ⟨c26, H⟩
        · have c26b : unit_3 = true := c26; try simp only [c26b, nrm]
          refine w_cond rfl (fun h => Bool.noConfusion h) (fun _ => ?_)
          refine w_skip ?_
          refine k_block ?_
          refine k_seq ?_
          refine wR fun K hK => ?_
          refine g_bin rfl rfl rfl rfl rfl (gT ?_)
          refine g_mv rfl rfl (gT ?_)
          refine g_nil (hK _ _ _ ?_)
          refine k_loop ?_
          refine w_wk (σ := [0, 1, 2]) [0, 1, 0, 2, 5, 1, 41, 0] rfl (by decide) ?_; refine gC ?_
          exact gI (ih2 upper_2 true n_12 h2 t_56 (wrap64 (t_57 + 1)) h0 h1_0 h1_1 h1_2 h1_3 r H)
        · have c26b : unit_3 = false := Bool.eq_false_iff.mpr c26; try simp only [c26b, nrm]
          refine w_cond rfl (fun _ => ?_) (fun h => Bool.noConfusion h)
          refine wD fun K hK => ?_
          refine g_mv rfl rfl (gT ?_)
          refine g_mv rfl rfl (gT ?_)
          refine g_mv rfl rfl (gT ?_)
          refine g_mv rfl rfl (gT ?_)
          refine g_mv rfl rfl (gT ?_)
          obtain ⟨c27, H⟩ := it1 H
          obtain ⟨c28, H⟩ := it1 H
          refine g_ixo rfl rfl Try.underlying22 sz35 rfl rfl (by first | assumption | omega) (by first | assumption | omega | (simp only [List.length_set, List.length_replicate] at *; omega)) (gT ?_)
          refine g_ldo rfl rfl ag35 sz35 rfl rfl (by first | assumption | omega | (simp only [List.length_set, List.length_replicate] at *; omega)) (gT ?_)
          refine g_lda rfl rfl ag25 sz25 rfl rfl (Nat.le_of_ble_eq_true rfl) (gT ?_)
          refine g_mv rfl rfl (gT ?_)
          refine g_mv rfl rfl (gT ?_)
          obtain ⟨q29, hq29, H⟩ := bnd H
          refine g_cs [] rfl rfl (by rfl) Try.func11 rfl (by decide) (mat_Matrix_At.does hq29) ⟨Nat.le_of_ble_eq_true rfl, Nat.le_of_ble_eq_true rfl⟩ ?_; refine gC ?_
          obtain ⟨q30, hq30, H⟩ := bnd H
          refine g_cs [0] rfl rfl (by rfl) Try.func15 rfl (by decide) (soft_Calc_Div.does hq30) ⟨Nat.le_of_ble_eq_true rfl, Nat.le_of_ble_eq_true rfl⟩ ?_; refine gC ?_
          refine g_ixo rfl rfl Try.underlying22 sz35 rfl rfl (by first | assumption | omega) (by first | assumption | omega | (simp only [List.length_set, List.length_replicate] at *; omega)) (gT ?_)
          refine g_st rfl rfl sz35 rfl rfl rfl (by rfl) (by simp only [List.length_map, List.length_set, List.length_replicate]; first | assumption | omega) (gU ?_)
          refine g_nil (hK _ _ _ (by kernel_rfl) ?_)
          refine k_block ?_
          refine k_seq ?_
          refine wR fun K hK => ?_
          refine g_bin rfl rfl rfl rfl rfl (gT ?_)
          refine g_mv rfl rfl (gT ?_)
          refine g_nil (hK _ _ _ ?_)
          refine k_loop ?_
          refine w_wk (σ := [0, 1, 2]) [0, 1, 0, 2, 5, 1, 41, 0] rfl (by decide) ?_; refine gC ?_
          exact gI (ih2 upper_2 false n_12 (h2.set i_16.toNat q30.1) t_56 (wrap64 (t_57 + 1)) q30.2 h1_0 h1_1 h1_2 h1_3 r H)
set_option maxHeartbeats 8000000 in
set_option maxRecDepth 100000 in
theorem solve_Trsv.does {k : Nat} {s0_0 : Int} {a1_0 : Int} {a1_1 : Int} {a1_2 : Int} {l1_3 : List Int} {a2 : Bool} {a3 : Bool} {l4 : List Int} {r : (List Int) × Int × Int} (H : solve_Trsv.f k s0_0 a1_0 a1_1 a1_2 l1_3 a2 a3 l4 = some r) : Do E0 (.fn 9 [.p (some (0, 0)), .a [.i .i64 a1_0, .i .i64 a1_1, .i .i64 a1_2, .r (l1_3.map (V.i .u64)) l1_3.length true], .b a2, .b a3, .r (l4.map (V.i .u64)) l4.length true] [.row [.i .u8 s0_0] 0 0 true false none] (.t [.s (some (1, 0)) r.1.length, .i .i64 r.2.1]) [.row [.i .u8 r.2.2] 0 0 true false none, .row (r.1.map (V.i .u64)) 2 1 true true none]) := by
  obtain ⟨ih0, ih1, ih2, ih3, ih4⟩ := solve_Trsv.does_l (s0_0 := s0_0) (a1_0 := a1_0) (a1_1 := a1_1) (a1_2 := a1_2) (l1_3 := l1_3) (a2 := a2) (a3 := a3) (l4 := l4) k
  refine fn_wpl Try.func9 rfl (Q := (solve_Trsv.Q s0_0 a1_0 a1_1 a1_2 l1_3 a2 a3 l4 r)) (fun s h => h) ?_
  unfold solve_Trsv.f at H
  simp only [Try.ntmps9, List.length, List.replicate, Nat.reduceAdd, Nat.reduceSub, List.cons_append, List.nil_append]
  refine w_seq ?_
  refine wR fun K hK => ?_
  refine g_box rfl rfl rfl (by rfl) (gU ?_)
  refine g_as rfl rfl (gT ?_)
  refine g_as rfl rfl (gT ?_)
  refine g_nil (hK _ _ _ ?_)
  refine k_seq ?_
  refine w_seq ?_
  refine w_seq ?_
  refine wR fun K hK => ?_
  refine g_lda rfl rfl ag25 sz25 rfl rfl (Nat.le_of_ble_eq_true rfl) (gT ?_)
  obtain ⟨q1, hq1, H⟩ := bnd H
  refine g_cs [] rfl rfl (by rfl) Try.func26 rfl (by decide) (mat_Matrix_Check.does hq1) ⟨Nat.le_of_ble_eq_true rfl, Nat.le_of_ble_eq_true rfl⟩ ?_; refine gC ?_
  refine g_bin rfl rfl rfl rfl rfl (gT ?_)
  refine g_mv rfl rfl (gT ?_)
  rcases its H with ⟨c2, H⟩ | ⟨c2, H⟩
  · have c2b := beq_iff_eq.mpr c2; have c2n := bne_eq_false_iff_eq.mpr c2; try simp only [c2b, c2n, nrm]
    refine g_fd rfl rfl fa25_0 rfl (gT ?_)
    refine g_ldc rfl rfl ag3 sz3 rfl rfl rfl (gT ?_)
    refine g_fd rfl rfl fa25_1 rfl (gT ?_)
    refine g_ldc rfl rfl ag3 sz3 rfl rfl rfl (gT ?_)
    refine g_bin rfl rfl rfl rfl rfl (gT ?_)
    refine g_pick rfl rfl rfl (gT ?_)
    refine g_mv rfl rfl (gT ?_)
    rcases its H with ⟨c3, H⟩ | ⟨c3, H⟩
    · have c3b := beq_iff_eq.mpr c3; have c3n := bne_eq_false_iff_eq.mpr c3; try simp only [c3b, c3n, nrm]
      refine g_fd rfl rfl fa25_1 rfl (gT ?_)
      refine g_ldc rfl rfl ag3 sz3 rfl rfl rfl (gT ?_)
      refine g_mv rfl rfl (gT ?_)
      refine g_len_r rfl rfl Try.underlying22 rfl (gT ?_)
      refine g_bin rfl rfl rfl rfl rfl (gT ?_)
      refine g_pick rfl rfl rfl (gT ?_)
      refine g_nil (hK _ _ _ ?_)
      refine k_wk (σ := [0, 1]) [0, 1, 0, 0, 1, 29] rfl (by decide) rfl ?_; refine gC ?_
      exact gI (ih0 a2 a3 l4 (a1_1 != (l4.length : Int)) s0_0 a1_0 a1_1 a1_2 l1_3 r H)
    · have c3b := beq_eq_false_iff_ne.mpr c3; have c3n := bne_iff_ne.mpr c3; try simp only [c3b, c3n, nrm]
      refine g_sk rfl rfl (gT ?_)
      refine g_sk rfl rfl (gT ?_)
      refine g_sk rfl rfl (gT ?_)
      refine g_sk rfl rfl (gT ?_)
      refine g_sk rfl rfl (gT ?_)
      refine g_pick rfl rfl rfl (gT ?_)
      refine g_nil (hK _ _ _ ?_)
      refine k_wk (σ := [0, 1]) [0, 1, 0, 0, 1, 29] rfl (by decide) rfl ?_; refine gC ?_
      exact gI (ih0 a2 a3 l4 true s0_0 a1_0 a1_1 a1_2 l1_3 r H)
  · have c2b := beq_eq_false_iff_ne.mpr c2; have c2n := bne_iff_ne.mpr c2; try simp only [c2b, c2n, nrm]
    refine g_sk rfl rfl (gT ?_)
    refine g_sk rfl rfl (gT ?_)
    refine g_sk rfl rfl (gT ?_)
    refine g_sk rfl rfl (gT ?_)
    refine g_sk rfl rfl (gT ?_)
    refine g_pick rfl rfl rfl (gT ?_)
    refine g_mv rfl rfl (gT ?_)
    refine g_sk rfl rfl (gT ?_)
    refine g_sk rfl rfl (gT ?_)
    refine g_sk rfl rfl (gT ?_)
    refine g_sk rfl rfl (gT ?_)
    refine g_sk rfl rfl (gT ?_)
    refine g_pick rfl rfl rfl (gT ?_)
    refine g_nil (hK _ _ _ ?_)
    refine k_wk (σ := [0, 1]) [0, 1, 0, 0, 1, 29] rfl (by decide) rfl ?_; refine gC ?_
    exact gI (ih0 a2 a3 l4 true s0_0 a1_0 a1_1 a1_2 l1_3 r H)

set_option maxHeartbeats 8000000 in
set_option maxRecDepth 100000 in
theorem word_Finite.does {a0 : Int} {r : Bool} (H : word_Finite.f a0 = some r) : Do E0 (.fn 21 [.i .u64 a0] [] (.b r) []) := by
  refine fn_wpl Try.func21 rfl (Q := (word_Finite.Q a0 r)) (fun s h => h) ?_
  unfold word_Finite.f at H
  simp only [Try.ntmps21, List.length, List.replicate, Nat.reduceAdd, Nat.reduceSub, List.cons_append, List.nil_append]
  refine w_seq ?_
  refine wR fun K hK => ?_
  refine g_as rfl rfl (gT ?_)
  refine g_nil (hK _ _ _ ?_)
  refine k_seq ?_
  refine w_seq ?_
  refine wR fun K hK => ?_
  refine g_mv rfl rfl (gT ?_)
  obtain ⟨q1, hq1, H⟩ := bnd H
  refine g_cs [] rfl rfl (by rfl) Try.func22 rfl (by decide) (word_Exp.does hq1) ⟨Nat.le_of_ble_eq_true rfl, Nat.le_of_ble_eq_true rfl⟩ ?_; refine gC ?_
  refine g_bin rfl rfl rfl rfl rfl (gT ?_)
  refine g_as rfl rfl (gT ?_)
  refine g_nil (hK _ _ _ ?_)
  refine k_seq ?_
  refine w_ret ?_
  refine fin_wp (τ := []) rfl (by decide) ?_; rw [← Option.some.inj H]; simp only [Try.f21]; exact gF

set_option maxHeartbeats 8000000 in
set_option maxRecDepth 100000 in
theorem mat_Matrix_Finite.does_l {a0_0 : Int} {a0_1 : Int} {a0_2 : Int} {l0_3 : List Int} (k : Nat) : (∀ (t_6 : Int) (t_7 : Int) (h0_0 : Int) (h0_1 : Int) (h0_2 : Int) (h0_3 : List Int) (r : Bool), mat_Matrix_Finite.l0 k t_6 t_7 h0_0 h0_1 h0_2 h0_3 = some r → wk_ E0 (mat_Matrix_Finite.Q a0_0 a0_1 a0_2 l0_3 r) (frs (bodyOf Try.f38) [1, 0, 1, 0] []) (sub (bodyOf Try.f38) [1, 0, 1, 0]) ⟨[.u, .p (some (0, 0)), .u, .u, .u, .u, .i .i64 t_6, .i .i64 t_7, .u, .u, .u, .u, .u, .u, .u, .u, .u, .u, .u, .u, .u, .u, .u], ofL [.row [.i .i64 h0_0, .i .i64 h0_1, .i .i64 h0_2, .r (h0_3.map (V.i .u64)) h0_3.length true] 0 0 true true none], 1, 0⟩) ∧
    (∀ (i_3 : Int) (t_6 : Int) (t_7 : Int) (t_11 : Int) (t_12 : Int) (h0_0 : Int) (h0_1 : Int) (h0_2 : Int) (h0_3 : List Int) (r : Bool), mat_Matrix_Finite.l1 k i_3 t_6 t_7 t_11 t_12 h0_0 h0_1 h0_2 h0_3 = some r → wk_ E0 (mat_Matrix_Finite.Q a0_0 a0_1 a0_2 l0_3 r) (frs (bodyOf Try.f38) [1, 0, 1, 0, 0, 1, 1, 0, 0, 1, 1, 0] []) (sub (bodyOf Try.f38) [1, 0, 1, 0, 0, 1, 1, 0, 0, 1, 1, 0]) ⟨[.u, .p (some (0, 0)), .u, .i .i64 i_3, .u, .u, .i .i64 t_6, .i .i64 t_7, .u, .u, .u, .i .i64 t_11, .i .i64 t_12, .u, .u, .u, .u, .u, .u, .u, .u, .u, .u], ofL [.row [.i .i64 h0_0, .i .i64 h0_1, .i .i64 h0_2, .r (h0_3.map (V.i .u64)) h0_3.length true] 0 0 true true none], 1, 0⟩) := by
  induction k with
  | zero => exact ⟨fun _ _ _ _ _ _ r h => by simp [mat_Matrix_Finite.l0] at h, fun _ _ _ _ _ _ _ _ _ r h => by simp [mat_Matrix_Finite.l1] at h⟩
  | succ k ih =>
    obtain ⟨ih0, ih1⟩ := ih
    refine ⟨?_, ?_⟩
    · intro t_6 t_7 h0_0 h0_1 h0_2 h0_3 r H
      unfold mat_Matrix_Finite.l0 at H
      simp only [bodyOf, Try.f38, frs, sub, if_true, if_false, Nat.one_ne_zero]
      refine w_loop ?_
      refine w_seq ?_
      refine wR fun K hK => ?_
      refine g_bin rfl rfl rfl rfl rfl (gT ?_)
      refine g_nil (hK _ _ _ ?_)
      refine k_seq ?_
      refine w_seq ?_
      rcases its H with ⟨c1, H⟩ | ⟨c1, H⟩
      · have c1b := decide_eq_true c1; try simp only [c1b, nrm]
        refine w_cond rfl (fun _ => ?_) (fun h => Bool.noConfusion h)
        refine w_skip ?_
        refine k_seq ?_
        refine w_seq ?_
        refine w_block ?_
        refine w_seq ?_
        refine wR fun K hK => ?_
        refine g_mv rfl rfl (gT ?_)
        refine g_as rfl rfl (gT ?_)
        refine g_nil (hK _ _ _ ?_)
        refine k_seq ?_
        refine w_seq ?_
        refine wR fun K hK => ?_
        refine g_fd rfl rfl fa25_1 rfl (gT ?_)
        refine g_ldc rfl rfl ag3 sz3 rfl rfl rfl (gT ?_)
        refine g_mv rfl rfl (gT ?_)
        refine g_nil (hK _ _ _ ?_)
        refine k_seq ?_
        refine w_block ?_
        refine w_wk (σ := [0]) [1, 1, 2, 0, 3, 0] rfl (by decide) ?_; refine gC ?_
        exact gI (ih1 t_7 t_6 t_7 h0_1 0 h0_0 h0_1 h0_2 h0_3 r H)
      · have c1b := decide_eq_false c1; try simp only [c1b, nrm]
        refine w_cond rfl (fun h => Bool.noConfusion h) (fun _ => ?_)
        refine w_exit rfl ?_
        refine k_seq ?_
        refine w_seq ?_
        refine wR fun K hK => ?_
        refine g_as rfl rfl (gT ?_)
        refine g_nil (hK _ _ _ ?_)
        refine k_seq ?_
        refine w_ret ?_
        refine fin_wp (τ := []) rfl (by decide) ?_; rw [← Option.some.inj H]; simp only [Try.f38]; exact gF
    · intro i_3 t_6 t_7 t_11 t_12 h0_0 h0_1 h0_2 h0_3 r H
      unfold mat_Matrix_Finite.l1 at H
      simp only [bodyOf, Try.f38, frs, sub, if_true, if_false, Nat.one_ne_zero]
      refine w_loop ?_
      refine w_seq ?_
      refine wR fun K hK => ?_
      refine g_bin rfl rfl rfl rfl rfl (gT ?_)
      refine g_nil (hK _ _ _ ?_)
      refine k_seq ?_
      refine w_seq ?_
      rcases its H with ⟨c2, H⟩ | ⟨c2, H⟩
      · have c2b := decide_eq_true c2; try simp only [c2b, nrm]
        refine w_cond rfl (fun _ => ?_) (fun h => Bool.noConfusion h)
        refine w_skip ?_
        refine k_seq ?_
        refine w_seq ?_
        refine w_block ?_
        refine w_seq ?_
        refine wR fun K hK => ?_
        refine g_mv rfl rfl (gT ?_)
        refine g_as rfl rfl (gT ?_)
        refine g_nil (hK _ _ _ ?_)
        refine k_seq ?_
        refine w_seq ?_
        refine wR fun K hK => ?_
        refine g_lda rfl rfl ag25 sz25 rfl rfl (Nat.le_of_ble_eq_true rfl) (gT ?_)
        refine g_mv rfl rfl (gT ?_)
        refine g_mv rfl rfl (gT ?_)
        obtain ⟨q3, hq3, H⟩ := bnd H
        refine g_cs [] rfl rfl (by rfl) Try.func11 rfl (by decide) (mat_Matrix_At.does hq3) ⟨Nat.le_of_ble_eq_true rfl, Nat.le_of_ble_eq_true rfl⟩ ?_; refine gC ?_
        obtain ⟨q4, hq4, H⟩ := bnd H
        refine g_cs [] rfl rfl (by rfl) Try.func21 rfl (by decide) (word_Finite.does hq4) ⟨Nat.le_of_ble_eq_true rfl, Nat.le_of_ble_eq_true rfl⟩ ?_; refine gC ?_
        refine g_un rfl rfl rfl rfl (gT ?_)
        refine g_nil (hK _ _ _ ?_)
        refine k_seq ?_
        rcases its H with ⟨c5, H⟩ | ⟨c5, H⟩
        · have c5b : q4 = true := c5; try simp only [c5b, nrm]
          refine w_cond rfl (fun h => Bool.noConfusion h) (fun _ => ?_)
          refine w_skip ?_
          refine k_block ?_
          refine k_seq ?_
          refine wR fun K hK => ?_
          refine g_bin rfl rfl rfl rfl rfl (gT ?_)
          refine g_mv rfl rfl (gT ?_)
          refine g_nil (hK _ _ _ ?_)
          refine k_loop ?_
          refine w_wk (σ := [0]) [1, 1, 2, 0, 3, 0] rfl (by decide) ?_; refine gC ?_
          exact gI (ih1 i_3 t_6 t_7 t_11 (wrap64 (t_12 + 1)) h0_0 h0_1 h0_2 h0_3 r H)
        · have c5b : q4 = false := Bool.eq_false_iff.mpr c5; try simp only [c5b, nrm]
          refine w_cond rfl (fun _ => ?_) (fun h => Bool.noConfusion h)
          refine w_seq ?_
          refine wR fun K hK => ?_
          refine g_as rfl rfl (gT ?_)
          refine g_nil (hK _ _ _ ?_)
          refine k_seq ?_
          refine w_ret ?_
          refine fin_wp (τ := []) rfl (by decide) ?_; rw [← Option.some.inj H]; simp only [Try.f38]; exact gF
      · have c2b := decide_eq_false c2; try simp only [c2b, nrm]
        refine w_cond rfl (fun h => Bool.noConfusion h) (fun _ => ?_)
        refine w_exit rfl ?_
        refine k_block ?_
        refine k_seq ?_
        refine wR fun K hK => ?_
        refine g_bin rfl rfl rfl rfl rfl (gT ?_)
        refine g_mv rfl rfl (gT ?_)
        refine g_nil (hK _ _ _ ?_)
        refine k_loop ?_
        refine w_wk (σ := [0]) [1, 4, 0] rfl (by decide) ?_; refine gC ?_
        exact gI (ih0 t_6 (wrap64 (t_7 + 1)) h0_0 h0_1 h0_2 h0_3 r H)
set_option maxHeartbeats 8000000 in
set_option maxRecDepth 100000 in
theorem mat_Matrix_Finite.does {k : Nat} {a0_0 : Int} {a0_1 : Int} {a0_2 : Int} {l0_3 : List Int} {r : Bool} (H : mat_Matrix_Finite.f k a0_0 a0_1 a0_2 l0_3 = some r) : Do E0 (.fn 38 [.a [.i .i64 a0_0, .i .i64 a0_1, .i .i64 a0_2, .r (l0_3.map (V.i .u64)) l0_3.length true]] [] (.b r) []) := by
  obtain ⟨ih0, ih1⟩ := mat_Matrix_Finite.does_l (a0_0 := a0_0) (a0_1 := a0_1) (a0_2 := a0_2) (l0_3 := l0_3) k
  refine fn_wpl Try.func38 rfl (Q := (mat_Matrix_Finite.Q a0_0 a0_1 a0_2 l0_3 r)) (fun s h => h) ?_
  unfold mat_Matrix_Finite.f at H
  simp only [Try.ntmps38, List.length, List.replicate, Nat.reduceAdd, Nat.reduceSub, List.cons_append, List.nil_append]
  refine w_seq ?_
  refine wR fun K hK => ?_
  refine g_box rfl rfl rfl (by rfl) (gU ?_)
  refine g_as rfl rfl (gT ?_)
  refine g_nil (hK _ _ _ ?_)
  refine k_seq ?_
  refine w_seq ?_
  refine w_seq ?_
  refine wR fun K hK => ?_
  refine g_fd rfl rfl fa25_0 rfl (gT ?_)
  refine g_ldc rfl rfl ag3 sz3 rfl rfl rfl (gT ?_)
  refine g_mv rfl rfl (gT ?_)
  refine g_nil (hK _ _ _ ?_)
  refine k_seq ?_
  refine w_block ?_
  refine w_wk (σ := [0]) [1, 4, 0] rfl (by decide) ?_; refine gC ?_
  exact gI (ih0 a0_0 0 a0_0 a0_1 a0_2 l0_3 r H)

set_option maxHeartbeats 8000000 in
set_option maxRecDepth 100000 in
theorem mat_Matrix_Clone.does_l {a0_0 : Int} {a0_1 : Int} {a0_2 : Int} {l0_3 : List Int} (k : Nat) : (∀ (t_12 : Int) (t_13 : Int) (h0_0 : Int) (h0_1 : Int) (h0_2 : Int) (h0_3 : List Int) (h1_0 : Int) (h1_1 : Int) (h1_2 : Int) (h2_0 : Int) (h2_1 : Int) (h2_2 : Int) (h3 : List Int) (r : Int × Int × Int × (List Int)), mat_Matrix_Clone.l0 k t_12 t_13 h0_0 h0_1 h0_2 h0_3 h2_0 h2_1 h2_2 h3 = some r → wk_ E0 (mat_Matrix_Clone.Q a0_0 a0_1 a0_2 l0_3 r) (frs (bodyOf Try.f40) [1, 1, 0, 1, 0] []) (sub (bodyOf Try.f40) [1, 1, 0, 1, 0]) ⟨[.u, .p (some (0, 0)), .p (some (1, 0)), .p (some (2, 0)), .u, .u, .u, .u, .u, .u, .u, .u, .i .i64 t_12, .i .i64 t_13, .u, .u, .u, .u, .u, .u, .u, .u, .u, .u, .u, .u, .u, .u, .u, .u, .u, .u], ofL [.row [.i .i64 h0_0, .i .i64 h0_1, .i .i64 h0_2, .r (h0_3.map (V.i .u64)) h0_3.length true] 0 0 true true none, .row [.i .i64 h1_0, .i .i64 h1_1, .i .i64 h1_2, .s none 0] 0 0 true true none, .row [.i .i64 h2_0, .i .i64 h2_1, .i .i64 h2_2, .s (some (3, 0)) h3.length] 0 0 true true none, .row (h3.map (V.i .u64)) 2 1 true true none], 4, 0⟩) ∧
    (∀ (i_4 : Int) (t_12 : Int) (t_13 : Int) (t_17 : Int) (t_18 : Int) (h0_0 : Int) (h0_1 : Int) (h0_2 : Int) (h0_3 : List Int) (h1_0 : Int) (h1_1 : Int) (h1_2 : Int) (h2_0 : Int) (h2_1 : Int) (h2_2 : Int) (h3 : List Int) (r : Int × Int × Int × (List Int)), mat_Matrix_Clone.l1 k i_4 t_12 t_13 t_17 t_18 h0_0 h0_1 h0_2 h0_3 h2_0 h2_1 h2_2 h3 = some r → wk_ E0 (mat_Matrix_Clone.Q a0_0 a0_1 a0_2 l0_3 r) (frs (bodyOf Try.f40) [1, 1, 0, 1, 0, 0, 1, 1, 0, 0, 1, 1, 0] []) (sub (bodyOf Try.f40) [1, 1, 0, 1, 0, 0, 1, 1, 0, 0, 1, 1, 0]) ⟨[.u, .p (some (0, 0)), .p (some (1, 0)), .p (some (2, 0)), .i .i64 i_4, .u, .u, .u, .u, .u, .u, .u, .i .i64 t_12, .i .i64 t_13, .u, .u, .u, .i .i64 t_17, .i .i64 t_18, .u, .u, .u, .u, .u, .u, .u, .u, .u, .u, .u, .u, .u], ofL [.row [.i .i64 h0_0, .i .i64 h0_1, .i .i64 h0_2, .r (h0_3.map (V.i .u64)) h0_3.length true] 0 0 true true none, .row [.i .i64 h1_0, .i .i64 h1_1, .i .i64 h1_2, .s none 0] 0 0 true true none, .row [.i .i64 h2_0, .i .i64 h2_1, .i .i64 h2_2, .s (some (3, 0)) h3.length] 0 0 true true none, .row (h3.map (V.i .u64)) 2 1 true true none], 4, 0⟩) := by
  induction k with
  | zero => exact ⟨fun _ _ _ _ _ _ _ _ _ _ _ _ _ r h => by simp [mat_Matrix_Clone.l0] at h, fun _ _ _ _ _ _ _ _ _ _ _ _ _ _ _ _ r h => by simp [mat_Matrix_Clone.l1] at h⟩
  | succ k ih =>
    obtain ⟨ih0, ih1⟩ := ih
    refine ⟨?_, ?_⟩
    · intro t_12 t_13 h0_0 h0_1 h0_2 h0_3 h1_0 h1_1 h1_2 h2_0 h2_1 h2_2 h3 r H
      unfold mat_Matrix_Clone.l0 at H
      simp only [bodyOf, Try.f40, frs, sub, if_true, if_false, Nat.one_ne_zero]
      refine w_loop ?_
      refine w_seq ?_
      refine wR fun K hK => ?_
      refine g_bin rfl rfl rfl rfl rfl (gT ?_)
      refine g_nil (hK _ _ _ ?_)
      refine k_seq ?_
      refine w_seq ?_
      rcases its H with ⟨c2, H⟩ | ⟨c2, H⟩
      · have c2b := decide_eq_true c2; try simp only [c2b, nrm]
        refine w_cond rfl (fun _ => ?_) (fun h => Bool.noConfusion h)
        refine w_skip ?_
        refine k_seq ?_
        refine w_seq ?_
        refine w_block ?_
        refine w_seq ?_
        refine wR fun K hK => ?_
        refine g_mv rfl rfl (gT ?_)
        refine g_as rfl rfl (gT ?_)
        refine g_nil (hK _ _ _ ?_)
        refine k_seq ?_
        refine w_seq ?_
        refine wR fun K hK => ?_
        refine g_fd rfl rfl fa25_1 rfl (gT ?_)
        refine g_ldc rfl rfl ag3 sz3 rfl rfl rfl (gT ?_)
        refine g_mv rfl rfl (gT ?_)
        refine g_nil (hK _ _ _ ?_)
        refine k_seq ?_
        refine w_block ?_
        refine w_wk (σ := [0, 1, 2, 3]) [1, 0, 0, 0, 7, 0, 3, 0] rfl (by decide) ?_; refine gC ?_
        exact gI (ih1 t_13 t_12 t_13 h2_1 0 h0_0 h0_1 h0_2 h0_3 h1_0 h1_1 h1_2 h2_0 h2_1 h2_2 h3 r H)
      · have c2b := decide_eq_false c2; try simp only [c2b, nrm]
        refine w_cond rfl (fun h => Bool.noConfusion h) (fun _ => ?_)
        refine w_exit rfl ?_
        refine k_seq ?_
        refine w_seq ?_
        refine wR fun K hK => ?_
        refine g_lda rfl rfl ag25 sz25 rfl rfl (Nat.le_of_ble_eq_true rfl) (gT ?_)
        refine g_st rfl rfl sz25 rfl rfl rfl (by rfl) (Nat.le_of_ble_eq_true rfl) (gU ?_)
        refine g_nil (hK _ _ _ ?_)
        refine k_seq ?_
        refine w_ret ?_
        refine fin_wp (τ := [3]) rfl (by decide) ?_; rw [← Option.some.inj H]; simp only [Try.f40, ag25, sz25, nrm, nrmw, nrmc, nrme, nrmo, nrml, nrmb, nrmx, Nat.reduceEqDiff, Nat.reduceBEq, Nat.zero_add, Nat.add_zero, Nat.mul_one, List.length_cons, List.length_nil, List.length_map, List.length_set, List.length_replicate, List.drop_zero, List.drop_succ_cons, List.drop_nil, List.take_zero, List.take_succ_cons, List.take_nil, Nat.le_refl, if_true, if_false, Option.any_none, Option.any_some, List.contains_nil, Bool.not_false, Bool.or_true, Bool.true_or, Bool.or_false, Bool.false_or, Bool.and_true, Bool.true_and, Bool.and_self, reduceCtorEq, beq_self_eq_true, List.map_cons, List.map_nil, List.append_nil, List.nil_append, List.filter_cons, List.filter_nil, List.cons_append, Bool.false_eq_true, true_and, and_true, List.getElem_toArray, List.getElem_cons_zero, List.getElem_cons_succ, Nat.reduceAdd, Nat.reduceMul, Nat.reduceLT, Nat.reduceSub, Nat.reduceLeDiff]; try (first | rfl | exact ⟨rfl, trivial⟩ | exact ⟨rfl, rfl⟩)
    · intro i_4 t_12 t_13 t_17 t_18 h0_0 h0_1 h0_2 h0_3 h1_0 h1_1 h1_2 h2_0 h2_1 h2_2 h3 r H
      unfold mat_Matrix_Clone.l1 at H
      simp only [bodyOf, Try.f40, frs, sub, if_true, if_false, Nat.one_ne_zero]
      refine w_loop ?_
      refine w_seq ?_
      refine wR fun K hK => ?_
      refine g_bin rfl rfl rfl rfl rfl (gT ?_)
      refine g_nil (hK _ _ _ ?_)
      refine k_seq ?_
      refine w_seq ?_
      rcases its H with ⟨c3, H⟩ | ⟨c3, H⟩
      · have c3b := decide_eq_true c3; try simp only [c3b, nrm]
        refine w_cond rfl (fun _ => ?_) (fun h => Bool.noConfusion h)
        refine w_skip ?_
        refine k_seq ?_
        refine w_seq ?_
        refine w_block ?_
        refine w_seq ?_
        refine wR fun K hK => ?_
        refine g_mv rfl rfl (gT ?_)
        refine g_as rfl rfl (gT ?_)
        refine g_nil (hK _ _ _ ?_)
        refine k_seq ?_
        refine wD fun K hK => ?_
        refine g_lda rfl rfl ag25 sz25 rfl rfl (Nat.le_of_ble_eq_true rfl) (gT ?_)
        refine g_mv rfl rfl (gT ?_)
        refine g_mv rfl rfl (gT ?_)
        refine g_lda rfl rfl ag25 sz25 rfl rfl (Nat.le_of_ble_eq_true rfl) (gT ?_)
        refine g_mv rfl rfl (gT ?_)
        refine g_mv rfl rfl (gT ?_)
        obtain ⟨q4, hq4, H⟩ := bnd H
        refine g_cs [] rfl rfl (by rfl) Try.func11 rfl (by decide) (mat_Matrix_At.does hq4) ⟨Nat.le_of_ble_eq_true rfl, Nat.le_of_ble_eq_true rfl⟩ ?_; refine gC ?_
        obtain ⟨q5, hq5, H⟩ := bnd H
        have zq5_0 := mat_Matrix_Set.len hq5
        (try simp only [List.length_set, List.length_replicate, List.length_append, List.length_cons, List.length_nil, Nat.zero_add] at zq5_0)
        refine g_cs [3] rfl rfl (by rfl) Try.func20 rfl (by decide) (mat_Matrix_Set.does hq5) ⟨Nat.le_of_ble_eq_true rfl, Nat.le_of_ble_eq_true rfl⟩ ?_; simp only [nrm, nrmw, nrmc, nrme, nrmo, nrml, nrmb, nrmx, Nat.reduceEqDiff, Nat.reduceBEq, Nat.zero_add, Nat.add_zero, Nat.mul_one, List.length_cons, List.length_nil, List.length_map, List.length_set, List.length_replicate, List.drop_zero, List.drop_succ_cons, List.drop_nil, List.take_zero, List.take_succ_cons, List.take_nil, Nat.le_refl, if_true, if_false, Option.any_none, Option.any_some, List.contains_nil, Bool.not_false, Bool.or_true, Bool.true_or, Bool.or_false, Bool.false_or, Bool.and_true, Bool.true_and, Bool.and_self, reduceCtorEq, beq_self_eq_true, List.map_cons, List.map_nil, List.append_nil, List.nil_append, List.filter_cons, List.filter_nil, List.cons_append, Bool.false_eq_true, true_and, and_true, List.getElem_toArray, List.getElem_cons_zero, List.getElem_cons_succ, Nat.reduceAdd, Nat.reduceMul, Nat.reduceLT, Nat.reduceSub, Nat.reduceLeDiff, ← zq5_0]
        refine g_nil (hK _ _ _ (by kernel_rfl) ?_)
        refine k_block ?_
        refine k_seq ?_
        refine wR fun K hK => ?_
        refine g_bin rfl rfl rfl rfl rfl (gT ?_)
        refine g_mv rfl rfl (gT ?_)
        refine g_nil (hK _ _ _ ?_)
        refine k_loop ?_
        refine w_wk (σ := [0, 1, 2, 3]) [1, 0, 0, 0, 7, 0, 3, 0] rfl (by decide) ?_; refine gC ?_
        exact gI (ih1 i_4 t_12 t_13 t_17 (wrap64 (t_18 + 1)) h0_0 h0_1 h0_2 h0_3 h1_0 h1_1 h1_2 h2_0 h2_1 h2_2 q5 r H)
      · have c3b := decide_eq_false c3; try simp only [c3b, nrm]
        refine w_cond rfl (fun h => Bool.noConfusion h) (fun _ => ?_)
        refine w_exit rfl ?_
        refine k_block ?_
        refine k_seq ?_
        refine wR fun K hK => ?_
        refine g_bin rfl rfl rfl rfl rfl (gT ?_)
        refine g_mv rfl rfl (gT ?_)
        refine g_nil (hK _ _ _ ?_)
        refine k_loop ?_
        refine w_wk (σ := [0, 1, 2, 3]) [1, 0, 0, 8, 0] rfl (by decide) ?_; refine gC ?_
        exact gI (ih0 t_12 (wrap64 (t_13 + 1)) h0_0 h0_1 h0_2 h0_3 h1_0 h1_1 h1_2 h2_0 h2_1 h2_2 h3 r H)
set_option maxHeartbeats 8000000 in
set_option maxRecDepth 100000 in
theorem mat_Matrix_Clone.does {k : Nat} {a0_0 : Int} {a0_1 : Int} {a0_2 : Int} {l0_3 : List Int} {r : Int × Int × Int × (List Int)} (H : mat_Matrix_Clone.f k a0_0 a0_1 a0_2 l0_3 = some r) : Do E0 (.fn 40 [.a [.i .i64 a0_0, .i .i64 a0_1, .i .i64 a0_2, .r (l0_3.map (V.i .u64)) l0_3.length true]] [] (.a [.i .i64 r.1, .i .i64 r.2.1, .i .i64 r.2.2.1, .s (some (0, 0)) r.2.2.2.length]) [.row (r.2.2.2.map (V.i .u64)) 2 1 true true none]) := by
  obtain ⟨ih0, ih1⟩ := mat_Matrix_Clone.does_l (a0_0 := a0_0) (a0_1 := a0_1) (a0_2 := a0_2) (l0_3 := l0_3) k
  refine fn_wpl Try.func40 rfl (Q := (mat_Matrix_Clone.Q a0_0 a0_1 a0_2 l0_3 r)) (fun s h => h) ?_
  unfold mat_Matrix_Clone.f at H
  simp only [Try.ntmps40, List.length, List.replicate, Nat.reduceAdd, Nat.reduceSub, List.cons_append, List.nil_append]
  refine w_seq ?_
  refine wR fun K hK => ?_
  refine g_box rfl rfl rfl (by rfl) (gU ?_)
  refine g_alloc rfl rfl zr25 (gU ?_)
  refine g_nil (hK _ _ _ ?_)
  refine k_seq ?_
  refine w_seq ?_
  refine wR fun K hK => ?_
  refine g_fd rfl rfl fa25_0 rfl (gT ?_)
  refine g_ldc rfl rfl ag3 sz3 rfl rfl rfl (gT ?_)
  refine g_fd rfl rfl fa25_1 rfl (gT ?_)
  refine g_ldc rfl rfl ag3 sz3 rfl rfl rfl (gT ?_)
  obtain ⟨q1, hq1, H⟩ := bnd H
  refine g_cs [] rfl rfl (by rfl) Try.func17 rfl (by decide) (mat_New.does hq1) ⟨Nat.le_of_ble_eq_true rfl, Nat.le_of_ble_eq_true rfl⟩ ?_; refine gC ?_
  refine g_alloc rfl rfl zr25 (gU ?_)
  refine g_st rfl rfl sz25 rfl rfl rfl (by rfl) (Nat.le_of_ble_eq_true rfl) (gU ?_)
  refine g_nil (hK _ _ _ ?_)
  refine k_seq ?_
  refine w_seq ?_
  refine w_seq ?_
  refine wR fun K hK => ?_
  refine g_fd rfl rfl fa25_0 rfl (gT ?_)
  refine g_ldc rfl rfl ag3 sz3 rfl rfl rfl (gT ?_)
  refine g_mv rfl rfl (gT ?_)
  refine g_nil (hK _ _ _ ?_)
  refine k_seq ?_
  refine w_block ?_
  refine w_wk (σ := [0, 4, 28, 24]) [1, 0, 0, 8, 0] rfl (by decide) ?_; refine gC ?_
  exact gI (ih0 q1.1 0 a0_0 a0_1 a0_2 l0_3 0 0 0 q1.1 q1.2.1 q1.2.2.1 q1.2.2.2 r H)

end Go.Proofs.Ytnjobojkoaknpaa.F
