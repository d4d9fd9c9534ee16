/- Texts of this claim, one behind the other: the functions, and that the machine does what they say. -/
import Derived.Test.YtlhpejbmjbcmaaaDoorRx0
import Derived.Test.YtlhpejbmjbcmaaaDoorRx1
import Derived.Test.YtlhpejbmjbcmaaaDoorRun1
import Derived.Laws.BitsLemmas
import Derived.ArgAppend
import Derived.Lib.AppendStr
set_option linter.constructorNameAsVariable false
set_option linter.unusedSimpArgs false
set_option linter.unusedVariables false
set_option linter.unusedSectionVars false
namespace Go.Proofs.YtlhpejbmjbcmaaaDoor.F
open Go Go.RowKit Go.Proofs.YtlhpejbmjbcmaaaDoorW.PrintWords
open Go.Rk hiding Rd
set_option linter.unusedVariables false
set_option linter.unusedSimpArgs false
set_option maxRecDepth 100000
set_option maxHeartbeats 8000000 in
set_option maxRecDepth 100000 in
theorem bal_Balance_Back.does_l {l0_0 : List Int} {l0_1 : List Int} {a0_2 : Int} {a0_3 : Int} {l1 : List Int} {a2 : Bool} (k : Nat) : (∀ (x_1 : List Int) (left_2 : Bool) (t_29 : Bool) (h0_0 : List Int) (h0_1 : List Int) (h0_2 : Int) (h0_3 : Int) (r : (List Int) × Int × Int), bal_Balance_Back.j0 k x_1 left_2 t_29 h0_0 h0_1 h0_2 h0_3 = some r → kont E0 (bal_Balance_Back.Q l0_0 l0_1 a0_2 a0_3 l1 a2 r) (frs (bodyOf Tryd.f19) [1, 0, 0] []) .normal ⟨[.u, .r (x_1.map (V.i .u64)) x_1.length true, .b left_2, .p (some (0, 0)), .u, .u, .u, .u, .u, .u, .u, .u, .u, .u, .u, .u, .u, .u, .u, .u, .u, .u, .u, .u, .u, .u, .u, .u, .u, .b t_29, .u, .u, .u, .u, .u, .u, .u, .u, .u, .u, .u, .u, .u, .u, .u, .u, .u, .u, .u, .u, .u, .u, .u, .u, .u, .u, .u, .u, .u, .u, .u, .u, .u, .u, .u, .u, .u, .u, .u, .u, .u, .u, .u, .u, .u, .u, .u, .u, .u, .u, .u, .u, .u, .u, .u, .u], ofL [.row [.r (h0_0.map (V.i .i64)) h0_0.length true, .r (h0_1.map (V.i .i64)) h0_1.length true, .i .i64 h0_2, .i .i64 h0_3] 0 0 true true none], 1, 0⟩) ∧
    (∀ (x_1 : List Int) (left_2 : Bool) (h1 : List Int) (all_10 : Int) (t_34 : Int) (t_35 : Int) (h0_0 : List Int) (h0_1 : List Int) (h0_2 : Int) (h0_3 : Int) (r : (List Int) × Int × Int), bal_Balance_Back.l0 k x_1 left_2 h1 all_10 t_34 t_35 h0_0 h0_1 h0_2 h0_3 = some r → wk_ E0 (bal_Balance_Back.Q l0_0 l0_1 a0_2 a0_3 l1 a2 r) (frs (bodyOf Tryd.f19) [1, 1, 1, 1, 0, 1, 0] []) (sub (bodyOf Tryd.f19) [1, 1, 1, 1, 0, 1, 0]) ⟨[.u, .r (x_1.map (V.i .u64)) x_1.length true, .b left_2, .p (some (0, 0)), .u, .u, .u, .u, .u, .s (some (1, 0)) h1.length, .i .u8 all_10, .u, .u, .u, .u, .u, .u, .u, .u, .u, .u, .u, .u, .u, .u, .u, .u, .u, .u, .u, .u, .u, .u, .r (x_1.map (V.i .u64)) x_1.length true, .i .i64 t_34, .i .i64 t_35, .u, .u, .u, .u, .u, .u, .u, .u, .u, .u, .u, .u, .u, .u, .u, .u, .u, .u, .u, .u, .u, .u, .u, .u, .u, .u, .u, .u, .u, .u, .u, .u, .u, .u, .u, .u, .u, .u, .u, .u, .u, .u, .u, .u, .u, .u, .u, .u, .u, .u], ofL [.row [.r (h0_0.map (V.i .i64)) h0_0.length true, .r (h0_1.map (V.i .i64)) h0_1.length true, .i .i64 h0_2, .i .i64 h0_3] 0 0 true true none, .row (h1.map (V.i .u64)) 2 1 true true none], 2, 0⟩) := by
  induction k with
  | zero => exact ⟨fun _ _ _ _ _ _ _ r h => by simp [bal_Balance_Back.j0] at h, fun _ _ _ _ _ _ _ _ _ _ r h => by simp [bal_Balance_Back.l0] at h⟩
  | succ k ih =>
    obtain ⟨ih0, ih1⟩ := ih
    refine ⟨?_, ?_⟩
    · intro x_1 left_2 t_29 h0_0 h0_1 h0_2 h0_3 r H
      unfold bal_Balance_Back.j0 at H
      simp only [bodyOf, Tryd.f19, frs, sub, if_true, if_false, Nat.one_ne_zero]
      refine k_seq ?_
      rcases its H with ⟨c2, H⟩ | ⟨c2, H⟩
      · have c2b : t_29 = true := c2; try simp only [c2b, nrm]
        refine w_cond rfl (fun _ => ?_) (fun h => Bool.noConfusion h)
        refine w_seq ?_
        refine wR fun K hK => ?_
        refine g_as rfl rfl (gT ?_)
        refine g_as rfl rfl (gT ?_)
        refine g_as rfl rfl (gT ?_)
        refine g_nil (hK _ _ _ ?_)
        refine k_seq ?_
        refine w_less (.at 6 [] 2 1 rfl rfl) ?_; simp only [nrmx, nrm, List.set_cons_zero, List.set_cons_succ, Nat.reduceAdd]
        refine w_ret ?_
        refine fin_wp (τ := [13]) rfl (by decide) ?_; rw [← Option.some.inj H]; simp only [Tryd.f19]; exact gF
      · have c2b : t_29 = false := Bool.eq_false_iff.mpr c2; try simp only [c2b, nrm]
        refine w_cond rfl (fun h => Bool.noConfusion h) (fun _ => ?_)
        refine w_skip ?_
        refine k_seq ?_
        refine w_seq ?_
        refine wR fun K hK => ?_
        refine g_mv rfl rfl (gT ?_)
        refine g_len_r rfl rfl Tryd.underlying22 rfl (gT ?_)
        obtain ⟨c3, H⟩ := it1 H
        obtain ⟨c4, H⟩ := it1 H
        refine g_mk rfl rfl Tryd.underlying22 sz23 by23 zr23 rfl rfl rfl (by first | assumption | omega) (by omega) (by unfold limit; omega) (by omega) (gU ?_)
        refine g_as rfl rfl (gT ?_)
        refine g_nil (hK _ _ _ ?_)
        refine k_seq ?_
        refine w_seq ?_
        refine wR fun K hK => ?_
        refine g_as rfl rfl (gT ?_)
        refine g_nil (hK _ _ _ ?_)
        refine k_seq ?_
        refine w_seq ?_
        refine w_seq ?_
        refine wR fun K hK => ?_
        refine g_mv rfl rfl (gT ?_)
        refine g_len_r rfl rfl Tryd.underlying22 rfl (gT ?_)
        refine g_mv rfl rfl (gT ?_)
        refine g_nil (hK _ _ _ ?_)
        refine k_seq ?_
        refine w_block ?_
        refine w_wk (σ := [0, 9]) [1, 0, 0, 5, 0, 22, 0, 0] rfl (by decide) ?_; refine gC ?_
        exact gI (ih1 x_1 left_2 (List.replicate (x_1.length : Int).toNat 0) 0 (x_1.length : Int) 0 h0_0 h0_1 h0_2 h0_3 r H)
    · intro x_1 left_2 h1 all_10 t_34 t_35 h0_0 h0_1 h0_2 h0_3 r H
      unfold bal_Balance_Back.l0 at H
      simp only [bodyOf, Tryd.f19, frs, sub, if_true, if_false, Nat.one_ne_zero]
      refine w_loop ?_
      refine w_seq ?_
      refine wR fun K hK => ?_
      refine g_bin rfl rfl rfl rfl rfl (gT ?_)
      refine g_nil (hK _ _ _ ?_)
      refine k_seq ?_
      refine w_seq ?_
      rcases its H with ⟨c5, H⟩ | ⟨c5, H⟩
      · have c5b := decide_eq_true c5; try simp only [c5b, nrm]
        refine w_cond rfl (fun _ => ?_) (fun h => Bool.noConfusion h)
        refine w_skip ?_
        refine k_seq ?_
        refine w_seq ?_
        refine w_block ?_
        refine w_seq ?_
        refine wR fun K hK => ?_
        refine g_mv rfl rfl (gT ?_)
        obtain ⟨c6, H⟩ := it1 H
        obtain ⟨c7, H⟩ := it1 H
        refine g_ixr rfl rfl Tryd.underlying22 sz23 rfl rfl (by first | assumption | omega) (by first | assumption | omega | (simp only [List.length_set, List.length_replicate] at *; omega)) (gT ?_)
        refine g_ldq rfl rfl ag23 sz23 rfl (by first | assumption | omega) (gT ?_)
        refine g_as rfl rfl (gT ?_)
        refine g_as rfl rfl (gT ?_)
        refine g_nil (hK _ _ _ ?_)
        refine k_seq ?_
        refine w_seq ?_
        refine wR fun K hK => ?_
        refine g_fd rfl rfl fa31_1 rfl (gT ?_)
        refine g_ldc rfl rfl ag29 sz29 rfl rfl rfl (gT ?_)
        refine g_mv rfl rfl (gT ?_)
        obtain ⟨c8, H⟩ := it1 H
        refine g_ixr rfl rfl Tryd.underlying29 sz3 rfl rfl (by first | assumption | omega) (by first | assumption | omega | (simp only [List.length_set, List.length_replicate] at *; omega)) (gT ?_)
        refine g_ldq rfl rfl ag3 sz3 rfl (by first | assumption | omega) (gT ?_)
        refine g_min rfl rfl rfl rfl (m := mn _ _) rfl (gT ?_)
        refine g_max rfl rfl rfl rfl (m := mx _ _) rfl (gT ?_)
        refine g_as rfl rfl (gT ?_)
        refine g_nil (hK _ _ _ ?_)
        refine k_seq ?_
        refine w_seq ?_
        refine w_seq ?_
        refine wR fun K hK => ?_
        refine g_mv rfl rfl (gT ?_)
        refine g_nil (hK _ _ _ ?_)
        refine k_seq ?_
        rcases its H with ⟨c9, H⟩ | ⟨c9, H⟩
        · have c9b : left_2 = true := c9; try simp only [c9b, nrm]
          refine w_cond rfl (fun _ => ?_) (fun h => Bool.noConfusion h)
          refine wR fun K hK => ?_
          refine g_mv rfl rfl (gT ?_)
          refine g_un rfl rfl rfl rfl (gT ?_)
          refine g_as rfl rfl (gT ?_)
          refine g_nil (hK _ _ _ ?_)
          refine k_seq ?_
          refine w_seq ?_
          refine wR fun K hK => ?_
          refine g_mv rfl rfl (gT ?_)
          refine g_mv rfl rfl (gT ?_)
          obtain ⟨q10, hq10, H⟩ := bnd H
          refine g_cs [] rfl rfl (by rfl) Tryd.func33 rfl (by decide) (more_Scale.does hq10) ⟨Nat.le_of_ble_eq_true rfl, Nat.le_of_ble_eq_true rfl⟩ ?_; refine gC ?_
          refine g_mv rfl rfl (gT ?_)
          refine g_ext rfl rfl rfl (Nat.le_of_ble_eq_true rfl) (gT ?_)
          refine g_ext rfl rfl rfl (Nat.le_of_ble_eq_true rfl) (gT ?_)
          refine g_as rfl rfl (gT ?_)
          refine g_as rfl rfl (gT ?_)
          refine g_nil (hK _ _ _ ?_)
          refine k_seq ?_
          refine w_seq ?_
          refine w_seq ?_
          refine wR fun K hK => ?_
          refine g_fd rfl rfl fa31_0 rfl (gT ?_)
          refine g_ldc rfl rfl ag29 sz29 rfl rfl rfl (gT ?_)
          refine g_mv rfl rfl (gT ?_)
          obtain ⟨c11, H⟩ := it1 H
          refine g_ixr rfl rfl Tryd.underlying29 sz3 rfl rfl (by first | assumption | omega) (by first | assumption | omega | (simp only [List.length_set, List.length_replicate] at *; omega)) (gT ?_)
          refine g_ldq rfl rfl ag3 sz3 rfl (by first | assumption | omega) (gT ?_)
          refine g_bin rfl rfl rfl rfl rfl (gT ?_)
          refine g_mv rfl rfl (gT ?_)
          rcases its H with ⟨c12, H⟩ | ⟨c12, H⟩
          · have c12b := decide_eq_true c12; try simp only [c12b, nrm]
            refine g_sk rfl rfl (gT ?_)
            refine g_sk rfl rfl (gT ?_)
            refine g_sk rfl rfl (gT ?_)
            refine g_sk rfl rfl (gT ?_)
            refine g_sk rfl rfl (gT ?_)
            refine g_sk rfl rfl (gT ?_)
            refine g_sk rfl rfl (gT ?_)
            refine g_sk rfl rfl (gT ?_)
            refine g_pick rfl rfl rfl (gT ?_)
            refine g_nil (hK _ _ _ ?_)
            refine k_seq ?_
            refine w_cond rfl (fun _ => ?_) (fun h => Bool.noConfusion h)
            refine w_seq ?_
            refine wR fun K hK => ?_
            refine g_as rfl rfl (gT ?_)
            refine g_as rfl rfl (gT ?_)
            refine g_as rfl rfl (gT ?_)
            refine g_nil (hK _ _ _ ?_)
            refine k_seq ?_
            refine w_less (.at 6 [] 2 1 rfl rfl) ?_; simp only [nrmx, nrm, List.set_cons_zero, List.set_cons_succ, Nat.reduceAdd]
            refine w_ret ?_
            refine fin_wp (τ := [182]) rfl (by decide) ?_; rw [← Option.some.inj H]; simp only [Tryd.f19]; exact gF
          · have c12b := decide_eq_false c12; try simp only [c12b, nrm]
            refine g_fd rfl rfl fa31_0 rfl (gT ?_)
            refine g_ldc rfl rfl ag29 sz29 rfl rfl rfl (gT ?_)
            refine g_mv rfl rfl (gT ?_)
            refine g_ixr rfl rfl Tryd.underlying29 sz3 rfl rfl (by first | assumption | omega) (by first | assumption | omega | (simp only [List.length_set, List.length_replicate] at *; omega)) (gT ?_)
            refine g_ldq rfl rfl ag3 sz3 rfl (by first | assumption | omega) (gT ?_)
            refine g_mv rfl rfl (gT ?_)
            refine g_len_r rfl rfl Tryd.underlying22 rfl (gT ?_)
            refine g_bin rfl rfl rfl rfl rfl (gT ?_)
            refine g_pick rfl rfl rfl (gT ?_)
            refine g_nil (hK _ _ _ ?_)
            refine k_seq ?_
            rcases its H with ⟨c13, H⟩ | ⟨c13, H⟩
            · have c13b := decide_eq_true c13; try simp only [c13b, nrm]
              refine w_cond rfl (fun _ => ?_) (fun h => Bool.noConfusion h)
              refine w_seq ?_
              refine wR fun K hK => ?_
              refine g_as rfl rfl (gT ?_)
              refine g_as rfl rfl (gT ?_)
              refine g_as rfl rfl (gT ?_)
              refine g_nil (hK _ _ _ ?_)
              refine k_seq ?_
              refine w_less (.at 6 [] 2 1 rfl rfl) ?_; simp only [nrmx, nrm, List.set_cons_zero, List.set_cons_succ, Nat.reduceAdd]
              refine w_ret ?_
              refine fin_wp (τ := [182]) rfl (by decide) ?_; rw [← Option.some.inj H]; simp only [Tryd.f19]; exact gF
            · have c13b := decide_eq_false c13; try simp only [c13b, nrm]
              refine w_cond rfl (fun h => Bool.noConfusion h) (fun _ => ?_)
              refine w_skip ?_
              refine k_seq ?_
              refine wR fun K hK => ?_
              refine g_mv rfl rfl (gT ?_)
              refine g_fd rfl rfl fa31_0 rfl (gT ?_)
              refine g_ldc rfl rfl ag29 sz29 rfl rfl rfl (gT ?_)
              refine g_mv rfl rfl (gT ?_)
              refine g_ixr rfl rfl Tryd.underlying29 sz3 rfl rfl (by first | assumption | omega) (by first | assumption | omega | (simp only [List.length_set, List.length_replicate] at *; omega)) (gT ?_)
              refine g_ldq rfl rfl ag3 sz3 rfl (by first | assumption | omega) (gT ?_)
              refine g_mv rfl rfl (gT ?_)
              refine g_mv rfl rfl (gT ?_)
              refine g_mv rfl rfl (gT ?_)
              refine g_bin rfl rfl rfl rfl rfl (gT ?_)
              obtain ⟨c14, H⟩ := it1 H
              obtain ⟨c15, H⟩ := it1 H
              refine g_ixo rfl rfl Tryd.underlying22 sz23 rfl rfl (by first | assumption | omega) (by first | assumption | omega | (simp only [List.length_set, List.length_replicate] at *; omega)) (gT ?_)
              refine g_st rfl rfl sz23 rfl rfl rfl (by rfl) (by simp only [List.length_map, List.length_set, List.length_replicate]; first | assumption | omega) (gU ?_)
              refine g_as rfl rfl (gT ?_)
              refine g_nil (hK _ _ _ ?_)
              refine k_block ?_
              refine k_seq ?_
              refine wR fun K hK => ?_
              refine g_bin rfl rfl rfl rfl rfl (gT ?_)
              refine g_mv rfl rfl (gT ?_)
              refine g_nil (hK _ _ _ ?_)
              refine k_loop ?_
              refine w_wk (σ := [0, 1]) [1, 0, 0, 5, 0, 22, 0, 0] rfl (by decide) ?_; refine gC ?_
              exact gI (ih1 x_1 true (h1.set (rd h0_0 t_35).toNat q10.1) (Go.bits .or .u8 all_10 q10.2) t_34 (wrap64 (t_35 + 1)) h0_0 h0_1 h0_2 h0_3 r H)
        · have c9b : left_2 = false := Bool.eq_false_iff.mpr c9; try simp only [c9b, nrm]
          refine w_cond rfl (fun h => Bool.noConfusion h) (fun _ => ?_)
          refine w_skip ?_
          refine k_seq ?_
          refine w_seq ?_
          refine wR fun K hK => ?_
          refine g_mv rfl rfl (gT ?_)
          refine g_mv rfl rfl (gT ?_)
          obtain ⟨q16, hq16, H⟩ := bnd H
          refine g_cs [] rfl rfl (by rfl) Tryd.func33 rfl (by decide) (more_Scale.does hq16) ⟨Nat.le_of_ble_eq_true rfl, Nat.le_of_ble_eq_true rfl⟩ ?_; refine gC ?_
          refine g_mv rfl rfl (gT ?_)
          refine g_ext rfl rfl rfl (Nat.le_of_ble_eq_true rfl) (gT ?_)
          refine g_ext rfl rfl rfl (Nat.le_of_ble_eq_true rfl) (gT ?_)
          refine g_as rfl rfl (gT ?_)
          refine g_as rfl rfl (gT ?_)
          refine g_nil (hK _ _ _ ?_)
          refine k_seq ?_
          refine w_seq ?_
          refine w_seq ?_
          refine wR fun K hK => ?_
          refine g_fd rfl rfl fa31_0 rfl (gT ?_)
          refine g_ldc rfl rfl ag29 sz29 rfl rfl rfl (gT ?_)
          refine g_mv rfl rfl (gT ?_)
          obtain ⟨c17, H⟩ := it1 H
          refine g_ixr rfl rfl Tryd.underlying29 sz3 rfl rfl (by first | assumption | omega) (by first | assumption | omega | (simp only [List.length_set, List.length_replicate] at *; omega)) (gT ?_)
          refine g_ldq rfl rfl ag3 sz3 rfl (by first | assumption | omega) (gT ?_)
          refine g_bin rfl rfl rfl rfl rfl (gT ?_)
          refine g_mv rfl rfl (gT ?_)
          rcases its H with ⟨c18, H⟩ | ⟨c18, H⟩
          · have c18b := decide_eq_true c18; try simp only [c18b, nrm]
            refine g_sk rfl rfl (gT ?_)
            refine g_sk rfl rfl (gT ?_)
            refine g_sk rfl rfl (gT ?_)
            refine g_sk rfl rfl (gT ?_)
            refine g_sk rfl rfl (gT ?_)
            refine g_sk rfl rfl (gT ?_)
            refine g_sk rfl rfl (gT ?_)
            refine g_sk rfl rfl (gT ?_)
            refine g_pick rfl rfl rfl (gT ?_)
            refine g_nil (hK _ _ _ ?_)
            refine k_seq ?_
            refine w_cond rfl (fun _ => ?_) (fun h => Bool.noConfusion h)
            refine w_seq ?_
            refine wR fun K hK => ?_
            refine g_as rfl rfl (gT ?_)
            refine g_as rfl rfl (gT ?_)
            refine g_as rfl rfl (gT ?_)
            refine g_nil (hK _ _ _ ?_)
            refine k_seq ?_
            refine w_less (.at 6 [] 2 1 rfl rfl) ?_; simp only [nrmx, nrm, List.set_cons_zero, List.set_cons_succ, Nat.reduceAdd]
            refine w_ret ?_
            refine fin_wp (τ := [170]) rfl (by decide) ?_; rw [← Option.some.inj H]; simp only [Tryd.f19]; exact gF
          · have c18b := decide_eq_false c18; try simp only [c18b, nrm]
            refine g_fd rfl rfl fa31_0 rfl (gT ?_)
            refine g_ldc rfl rfl ag29 sz29 rfl rfl rfl (gT ?_)
            refine g_mv rfl rfl (gT ?_)
            refine g_ixr rfl rfl Tryd.underlying29 sz3 rfl rfl (by first | assumption | omega) (by first | assumption | omega | (simp only [List.length_set, List.length_replicate] at *; omega)) (gT ?_)
            refine g_ldq rfl rfl ag3 sz3 rfl (by first | assumption | omega) (gT ?_)
            refine g_mv rfl rfl (gT ?_)
            refine g_len_r rfl rfl Tryd.underlying22 rfl (gT ?_)
            refine g_bin rfl rfl rfl rfl rfl (gT ?_)
            refine g_pick rfl rfl rfl (gT ?_)
            refine g_nil (hK _ _ _ ?_)
            refine k_seq ?_
            rcases its H with ⟨c19, H⟩ | ⟨c19, H⟩
            · have c19b := decide_eq_true c19; try simp only [c19b, nrm]
              refine w_cond rfl (fun _ => ?_) (fun h => Bool.noConfusion h)
              refine w_seq ?_
              refine wR fun K hK => ?_
              refine g_as rfl rfl (gT ?_)
              refine g_as rfl rfl (gT ?_)
              refine g_as rfl rfl (gT ?_)
              refine g_nil (hK _ _ _ ?_)
              refine k_seq ?_
              refine w_less (.at 6 [] 2 1 rfl rfl) ?_; simp only [nrmx, nrm, List.set_cons_zero, List.set_cons_succ, Nat.reduceAdd]
              refine w_ret ?_
              refine fin_wp (τ := [170]) rfl (by decide) ?_; rw [← Option.some.inj H]; simp only [Tryd.f19]; exact gF
            · have c19b := decide_eq_false c19; try simp only [c19b, nrm]
              refine w_cond rfl (fun h => Bool.noConfusion h) (fun _ => ?_)
              refine w_skip ?_
              refine k_seq ?_
              refine wR fun K hK => ?_
              refine g_mv rfl rfl (gT ?_)
              refine g_fd rfl rfl fa31_0 rfl (gT ?_)
              refine g_ldc rfl rfl ag29 sz29 rfl rfl rfl (gT ?_)
              refine g_mv rfl rfl (gT ?_)
              refine g_ixr rfl rfl Tryd.underlying29 sz3 rfl rfl (by first | assumption | omega) (by first | assumption | omega | (simp only [List.length_set, List.length_replicate] at *; omega)) (gT ?_)
              refine g_ldq rfl rfl ag3 sz3 rfl (by first | assumption | omega) (gT ?_)
              refine g_mv rfl rfl (gT ?_)
              refine g_mv rfl rfl (gT ?_)
              refine g_mv rfl rfl (gT ?_)
              refine g_bin rfl rfl rfl rfl rfl (gT ?_)
              obtain ⟨c20, H⟩ := it1 H
              obtain ⟨c21, H⟩ := it1 H
              refine g_ixo rfl rfl Tryd.underlying22 sz23 rfl rfl (by first | assumption | omega) (by first | assumption | omega | (simp only [List.length_set, List.length_replicate] at *; omega)) (gT ?_)
              refine g_st rfl rfl sz23 rfl rfl rfl (by rfl) (by simp only [List.length_map, List.length_set, List.length_replicate]; first | assumption | omega) (gU ?_)
              refine g_as rfl rfl (gT ?_)
              refine g_nil (hK _ _ _ ?_)
              refine k_block ?_
              refine k_seq ?_
              refine wR fun K hK => ?_
              refine g_bin rfl rfl rfl rfl rfl (gT ?_)
              refine g_mv rfl rfl (gT ?_)
              refine g_nil (hK _ _ _ ?_)
              refine k_loop ?_
              refine w_wk (σ := [0, 1]) [1, 0, 0, 5, 0, 22, 0, 0] rfl (by decide) ?_; refine gC ?_
              exact gI (ih1 x_1 false (h1.set (rd h0_0 t_35).toNat q16.1) (Go.bits .or .u8 all_10 q16.2) t_34 (wrap64 (t_35 + 1)) h0_0 h0_1 h0_2 h0_3 r H)
      · have c5b := decide_eq_false c5; try simp only [c5b, nrm]
        refine w_cond rfl (fun h => Bool.noConfusion h) (fun _ => ?_)
        refine w_exit rfl ?_
        refine k_seq ?_
        refine w_seq ?_
        refine wR fun K hK => ?_
        refine g_mv rfl rfl (gT ?_)
        refine g_mv rfl rfl (gT ?_)
        refine g_as rfl rfl (gT ?_)
        refine g_as rfl rfl (gT ?_)
        refine g_as rfl rfl (gT ?_)
        refine g_nil (hK _ _ _ ?_)
        refine k_seq ?_
        refine w_ret ?_
        refine fin_wp (τ := [1]) rfl (by decide) ?_; rw [← Option.some.inj H]; simp only [Tryd.f19]; exact gF
set_option maxHeartbeats 8000000 in
set_option maxRecDepth 100000 in
theorem bal_Balance_Back.does {k : Nat} {l0_0 : List Int} {l0_1 : List Int} {a0_2 : Int} {a0_3 : Int} {l1 : List Int} {a2 : Bool} {r : (List Int) × Int × Int} (H : bal_Balance_Back.f k l0_0 l0_1 a0_2 a0_3 l1 a2 = some r) : Do E0 (.fn 19 [.a [.r (l0_0.map (V.i .i64)) l0_0.length true, .r (l0_1.map (V.i .i64)) l0_1.length true, .i .i64 a0_2, .i .i64 a0_3], .r (l1.map (V.i .u64)) l1.length true, .b a2] [] (.t [.s (some (0, 0)) r.1.length, .i .u8 r.2.1, .i .i64 r.2.2]) [.row (r.1.map (V.i .u64)) 2 1 true true none]) := by
  obtain ⟨ih0, ih1⟩ := bal_Balance_Back.does_l (l0_0 := l0_0) (l0_1 := l0_1) (a0_2 := a0_2) (a0_3 := a0_3) (l1 := l1) (a2 := a2) k
  refine fn_wpl Tryd.func19 rfl (Q := (bal_Balance_Back.Q l0_0 l0_1 a0_2 a0_3 l1 a2 r)) (fun s h => h) ?_
  unfold bal_Balance_Back.f at H
  simp only [Tryd.ntmps19, List.length, List.replicate, Nat.reduceAdd, Nat.reduceSub, List.cons_append, List.nil_append]
  refine w_seq ?_
  refine wR fun K hK => ?_
  refine g_box rfl rfl rfl (by rfl) (gU ?_)
  refine g_as rfl rfl (gT ?_)
  refine g_as rfl rfl (gT ?_)
  refine g_as rfl rfl (gT ?_)
  refine g_nil (hK _ _ _ ?_)
  refine k_seq ?_
  refine w_seq ?_
  refine w_seq ?_
  refine wR fun K hK => ?_
  refine g_mv rfl rfl (gT ?_)
  refine g_len_r rfl rfl Tryd.underlying22 rfl (gT ?_)
  refine g_fd rfl rfl fa31_0 rfl (gT ?_)
  refine g_ldc rfl rfl ag29 sz29 rfl rfl rfl (gT ?_)
  refine g_len_r rfl rfl Tryd.underlying29 rfl (gT ?_)
  refine g_bin rfl rfl rfl rfl rfl (gT ?_)
  refine g_mv rfl rfl (gT ?_)
  rcases its H with ⟨c1, H⟩ | ⟨c1, H⟩
  · have c1b := beq_iff_eq.mpr c1; have c1n := bne_eq_false_iff_eq.mpr c1; try simp only [c1b, c1n, nrm]
    refine g_mv rfl rfl (gT ?_)
    refine g_len_r rfl rfl Tryd.underlying22 rfl (gT ?_)
    refine g_fd rfl rfl fa31_1 rfl (gT ?_)
    refine g_ldc rfl rfl ag29 sz29 rfl rfl rfl (gT ?_)
    refine g_len_r rfl rfl Tryd.underlying29 rfl (gT ?_)
    refine g_bin rfl rfl rfl rfl rfl (gT ?_)
    refine g_pick rfl rfl rfl (gT ?_)
    refine g_nil (hK _ _ _ ?_)
    refine k_wk (σ := [0]) [1, 0, 0, 25] rfl (by decide) rfl ?_; refine gC ?_
    exact gI (ih0 l1 a2 ((l1.length : Int) != (l0_1.length : Int)) l0_0 l0_1 a0_2 a0_3 r H)
  · have c1b := beq_eq_false_iff_ne.mpr c1; have c1n := bne_iff_ne.mpr c1; try simp only [c1b, c1n, nrm]
    refine g_sk rfl rfl (gT ?_)
    refine g_sk rfl rfl (gT ?_)
    refine g_sk rfl rfl (gT ?_)
    refine g_sk rfl rfl (gT ?_)
    refine g_sk rfl rfl (gT ?_)
    refine g_sk rfl rfl (gT ?_)
    refine g_pick rfl rfl rfl (gT ?_)
    refine g_nil (hK _ _ _ ?_)
    refine k_wk (σ := [0]) [1, 0, 0, 25] rfl (by decide) rfl ?_; refine gC ?_
    exact gI (ih0 l1 a2 true l0_0 l0_1 a0_2 a0_3 r H)

set_option maxHeartbeats 8000000 in
set_option maxRecDepth 100000 in
theorem dyad_cmp.does_l {l0 : List Int} {l1 : List Int} (k : Nat) : (∀ (a_0 : List Int) (b_1 : List Int) (i_5 : Int) (r : Int), dyad_cmp.l0 k a_0 b_1 i_5 = some r → wk_ E0 (dyad_cmp.Q l0 l1 r) (frs (bodyOf Tryd.f35) [1, 1, 0, 1, 0] []) (sub (bodyOf Tryd.f35) [1, 1, 0, 1, 0]) ⟨[.r (a_0.map (V.i .u32)) a_0.length true, .r (b_1.map (V.i .u32)) b_1.length true, .u, .u, .u, .i .i64 i_5, .u, .u, .u, .u, .u, .u, .u, .u, .u, .u, .u, .u, .u, .u, .u, .u, .u, .u, .u, .u, .u, .u, .u, .u, .u, .u, .u, .u, .u, .u, .u, .u, .u, .u, .u], ofL [], 0, 0⟩) := by
  induction k with
  | zero => exact fun _ _ _ r h => by simp [dyad_cmp.l0] at h
  | succ k ih =>
    have ih0 := ih
    refine ?_
    · intro a_0 b_1 i_5 r H
      unfold dyad_cmp.l0 at H
      simp only [bodyOf, Tryd.f35, frs, sub, if_true, if_false, Nat.one_ne_zero]
      refine w_loop ?_
      refine w_seq ?_
      refine w_seq ?_
      refine wR fun K hK => ?_
      refine g_mv rfl rfl (gT ?_)
      refine g_bin rfl rfl rfl rfl rfl (gT ?_)
      refine g_nil (hK _ _ _ ?_)
      refine k_seq ?_
      rcases its H with ⟨c3, H⟩ | ⟨c3, H⟩
      · have c3b := decide_eq_true c3; try simp only [c3b, nrm]
        refine w_cond rfl (fun _ => ?_) (fun h => Bool.noConfusion h)
        refine w_skip ?_
        refine k_seq ?_
        refine w_seq ?_
        refine w_block ?_
        refine w_seq ?_
        refine wD fun K hK => ?_
        refine g_mv rfl rfl (gT ?_)
        refine g_mv rfl rfl (gT ?_)
        obtain ⟨c4, H⟩ := it1 H
        obtain ⟨c5, H⟩ := it1 H
        refine g_ixr rfl rfl Tryd.underlying37 sz67 rfl rfl (by first | assumption | omega) (by first | assumption | omega | (simp only [List.length_set, List.length_replicate] at *; omega)) (gT ?_)
        refine g_ldq rfl rfl ag67 sz67 rfl (by first | assumption | omega) (gT ?_)
        refine g_mv rfl rfl (gT ?_)
        refine g_mv rfl rfl (gT ?_)
        obtain ⟨c6, H⟩ := it1 H
        refine g_ixr rfl rfl Tryd.underlying37 sz67 rfl rfl (by first | assumption | omega) (by first | assumption | omega | (simp only [List.length_set, List.length_replicate] at *; omega)) (gT ?_)
        refine g_ldq rfl rfl ag67 sz67 rfl (by first | assumption | omega) (gT ?_)
        refine g_bin rfl rfl rfl rfl rfl (gT ?_)
        refine g_nil (hK _ _ _ (by kernel_rfl) ?_)
        refine k_seq ?_
        rcases its H with ⟨c7, H⟩ | ⟨c7, H⟩
        · have c7b := beq_iff_eq.mpr c7; have c7n := bne_eq_false_iff_eq.mpr c7; try simp only [c7b, c7n, nrm]
          refine w_cond rfl (fun h => Bool.noConfusion h) (fun _ => ?_)
          refine w_skip ?_
          refine k_block ?_
          refine k_seq ?_
          refine wR fun K hK => ?_
          refine g_mv rfl rfl (gT ?_)
          refine g_bin rfl rfl rfl rfl rfl (gT ?_)
          refine g_as rfl rfl (gT ?_)
          refine g_nil (hK _ _ _ ?_)
          refine k_loop ?_
          refine w_wk (σ := []) [0, 0, 3] rfl (by decide) ?_; refine gC ?_
          exact gI (ih0 a_0 b_1 (wrap64 (i_5 - 1)) r H)
        · have c7b := beq_eq_false_iff_ne.mpr c7; have c7n := bne_iff_ne.mpr c7; try simp only [c7b, c7n, nrm]
          refine w_cond rfl (fun _ => ?_) (fun h => Bool.noConfusion h)
          refine w_seq ?_
          refine w_seq ?_
          refine wD fun K hK => ?_
          refine g_mv rfl rfl (gT ?_)
          refine g_mv rfl rfl (gT ?_)
          refine g_ixr rfl rfl Tryd.underlying37 sz67 rfl rfl (by first | assumption | omega) (by first | assumption | omega | (simp only [List.length_set, List.length_replicate] at *; omega)) (gT ?_)
          refine g_ldq rfl rfl ag67 sz67 rfl (by first | assumption | omega) (gT ?_)
          refine g_mv rfl rfl (gT ?_)
          refine g_mv rfl rfl (gT ?_)
          refine g_ixr rfl rfl Tryd.underlying37 sz67 rfl rfl (by first | assumption | omega) (by first | assumption | omega | (simp only [List.length_set, List.length_replicate] at *; omega)) (gT ?_)
          refine g_ldq rfl rfl ag67 sz67 rfl (by first | assumption | omega) (gT ?_)
          refine g_bin rfl rfl rfl rfl rfl (gT ?_)
          refine g_nil (hK _ _ _ (by kernel_rfl) ?_)
          refine k_seq ?_
          rcases its H with ⟨c8, H⟩ | ⟨c8, H⟩
          · have c8b := decide_eq_true c8; try simp only [c8b, nrm]
            refine w_cond rfl (fun _ => ?_) (fun h => Bool.noConfusion h)
            refine w_seq ?_
            refine wR fun K hK => ?_
            refine g_as rfl rfl (gT ?_)
            refine g_nil (hK _ _ _ ?_)
            refine k_seq ?_
            refine w_ret ?_
            refine fin_wp (τ := []) rfl (by decide) ?_; rw [← Option.some.inj H]; simp only [Tryd.f35]; exact gF
          · have c8b := decide_eq_false c8; try simp only [c8b, nrm]
            refine w_cond rfl (fun h => Bool.noConfusion h) (fun _ => ?_)
            refine w_skip ?_
            refine k_seq ?_
            refine w_seq ?_
            refine wR fun K hK => ?_
            refine g_as rfl rfl (gT ?_)
            refine g_nil (hK _ _ _ ?_)
            refine k_seq ?_
            refine w_ret ?_
            refine fin_wp (τ := []) rfl (by decide) ?_; rw [← Option.some.inj H]; simp only [Tryd.f35]; exact gF
      · have c3b := decide_eq_false c3; try simp only [c3b, nrm]
        refine w_cond rfl (fun h => Bool.noConfusion h) (fun _ => ?_)
        refine w_exit rfl ?_
        refine k_seq ?_
        refine w_seq ?_
        refine wR fun K hK => ?_
        refine g_as rfl rfl (gT ?_)
        refine g_nil (hK _ _ _ ?_)
        refine k_seq ?_
        refine w_ret ?_
        refine fin_wp (τ := []) rfl (by decide) ?_; rw [← Option.some.inj H]; simp only [Tryd.f35]; exact gF
set_option maxHeartbeats 8000000 in
set_option maxRecDepth 100000 in
theorem dyad_cmp.does {k : Nat} {l0 : List Int} {l1 : List Int} {r : Int} (H : dyad_cmp.f k l0 l1 = some r) : Do E0 (.fn 35 [.r (l0.map (V.i .u32)) l0.length true, .r (l1.map (V.i .u32)) l1.length true] [] (.i .i64 r) []) := by
  obtain ih0 := dyad_cmp.does_l (l0 := l0) (l1 := l1) k
  refine fn_wpl Tryd.func35 rfl (Q := (dyad_cmp.Q l0 l1 r)) (fun s h => h) ?_
  unfold dyad_cmp.f at H
  simp only [Tryd.ntmps35, List.length, List.replicate, Nat.reduceAdd, Nat.reduceSub, List.cons_append, List.nil_append]
  refine w_seq ?_
  refine wR fun K hK => ?_
  refine g_as rfl rfl (gT ?_)
  refine g_nil (hK _ _ _ ?_)
  refine k_seq ?_
  refine w_seq ?_
  refine w_seq ?_
  refine wR fun K hK => ?_
  refine g_mv rfl rfl (gT ?_)
  refine g_len_r rfl rfl Tryd.underlying37 rfl (gT ?_)
  refine g_mv rfl rfl (gT ?_)
  refine g_len_r rfl rfl Tryd.underlying37 rfl (gT ?_)
  refine g_bin rfl rfl rfl rfl rfl (gT ?_)
  refine g_nil (hK _ _ _ ?_)
  refine k_seq ?_
  rcases its H with ⟨c1, H⟩ | ⟨c1, H⟩
  · have c1b := beq_iff_eq.mpr c1; have c1n := bne_eq_false_iff_eq.mpr c1; try simp only [c1b, c1n, nrm]
    refine w_cond rfl (fun h => Bool.noConfusion h) (fun _ => ?_)
    refine w_skip ?_
    refine k_seq ?_
    refine w_seq ?_
    refine w_seq ?_
    refine wR fun K hK => ?_
    refine g_mv rfl rfl (gT ?_)
    refine g_len_r rfl rfl Tryd.underlying37 rfl (gT ?_)
    refine g_bin rfl rfl rfl rfl rfl (gT ?_)
    refine g_as rfl rfl (gT ?_)
    refine g_nil (hK _ _ _ ?_)
    refine k_seq ?_
    refine w_block ?_
    refine w_wk (σ := []) [0, 0, 3] rfl (by decide) ?_; refine gC ?_
    exact gI (ih0 l0 l1 (wrap64 ((l0.length : Int) - 1)) r H)
  · have c1b := beq_eq_false_iff_ne.mpr c1; have c1n := bne_iff_ne.mpr c1; try simp only [c1b, c1n, nrm]
    refine w_cond rfl (fun _ => ?_) (fun h => Bool.noConfusion h)
    refine w_seq ?_
    refine w_seq ?_
    refine wR fun K hK => ?_
    refine g_mv rfl rfl (gT ?_)
    refine g_len_r rfl rfl Tryd.underlying37 rfl (gT ?_)
    refine g_mv rfl rfl (gT ?_)
    refine g_len_r rfl rfl Tryd.underlying37 rfl (gT ?_)
    refine g_bin rfl rfl rfl rfl rfl (gT ?_)
    refine g_nil (hK _ _ _ ?_)
    refine k_seq ?_
    rcases its H with ⟨c2, H⟩ | ⟨c2, H⟩
    · have c2b := decide_eq_true c2; try simp only [c2b, nrm]
      refine w_cond rfl (fun _ => ?_) (fun h => Bool.noConfusion h)
      refine w_seq ?_
      refine wR fun K hK => ?_
      refine g_as rfl rfl (gT ?_)
      refine g_nil (hK _ _ _ ?_)
      refine k_seq ?_
      refine w_ret ?_
      refine fin_wp (τ := []) rfl (by decide) ?_; rw [← Option.some.inj H]; simp only [Tryd.f35]; exact gF
    · have c2b := decide_eq_false c2; try simp only [c2b, nrm]
      refine w_cond rfl (fun h => Bool.noConfusion h) (fun _ => ?_)
      refine w_skip ?_
      refine k_seq ?_
      refine w_seq ?_
      refine wR fun K hK => ?_
      refine g_as rfl rfl (gT ?_)
      refine g_nil (hK _ _ _ ?_)
      refine k_seq ?_
      refine w_ret ?_
      refine fin_wp (τ := []) rfl (by decide) ?_; rw [← Option.some.inj H]; simp only [Tryd.f35]; exact gF

set_option maxHeartbeats 8000000 in
set_option maxRecDepth 100000 in
theorem dyad_line_1.does_l {l0 : List Int} (k : Nat) : (∀ (m_0 : List Int) (n_3 : Int) (r : (List Int)), dyad_line_1.l0 k m_0 n_3 = some r → wk_ E0 (dyad_line_1.Q l0 r) (frs (bodyOf Tryd.f44) [1, 1, 0, 0] []) (sub (bodyOf Tryd.f44) [1, 1, 0, 0]) ⟨[.r (m_0.map (V.i .u32)) m_0.length true, .u, .u, .i .i64 n_3, .u, .u, .u, .u, .u, .u, .u, .u, .u, .u, .u, .u, .u, .u, .u, .u, .u], ofL [], 0, 0⟩) := by
  induction k with
  | zero => exact fun _ _ r h => by simp [dyad_line_1.l0] at h
  | succ k ih =>
    have ih0 := ih
    refine ?_
    · intro m_0 n_3 r H
      unfold dyad_line_1.l0 at H
      simp only [bodyOf, Tryd.f44, frs, sub, if_true, if_false, Nat.one_ne_zero]
      refine w_loop ?_
      refine w_seq ?_
      refine w_seq ?_
      refine wR fun K hK => ?_
      refine g_mv rfl rfl (gT ?_)
      refine g_bin rfl rfl rfl rfl rfl (gT ?_)
      refine g_mv rfl rfl (gT ?_)
      rcases its H with ⟨c1, H⟩ | ⟨c1, H⟩
      · have c1b := decide_eq_true c1; try simp only [c1b, nrm]
        refine g_mv rfl rfl (gT ?_)
        refine g_mv rfl rfl (gT ?_)
        refine g_bin rfl rfl rfl rfl rfl (gT ?_)
        obtain ⟨c2, H⟩ := it1 H
        obtain ⟨c3, H⟩ := it1 H
        refine g_ixr rfl rfl Tryd.underlying37 sz67 rfl rfl (by first | assumption | omega) (by first | assumption | omega | (simp only [List.length_set, List.length_replicate] at *; omega)) (gT ?_)
        refine g_ldq rfl rfl ag67 sz67 rfl (by first | assumption | omega) (gT ?_)
        refine g_bin rfl rfl rfl rfl rfl (gT ?_)
        refine g_pick rfl rfl rfl (gT ?_)
        refine g_nil (hK _ _ _ ?_)
        refine k_seq ?_
        rcases its H with ⟨c4, H⟩ | ⟨c4, H⟩
        · have c4b := beq_iff_eq.mpr c4; have c4n := bne_eq_false_iff_eq.mpr c4; try simp only [c4b, c4n, nrm]
          refine w_cond rfl (fun _ => ?_) (fun h => Bool.noConfusion h)
          refine w_skip ?_
          refine k_seq ?_
          refine w_block ?_
          refine wR fun K hK => ?_
          refine g_mv rfl rfl (gT ?_)
          refine g_bin rfl rfl rfl rfl rfl (gT ?_)
          refine g_as rfl rfl (gT ?_)
          refine g_nil (hK _ _ _ ?_)
          refine k_block ?_
          refine k_loop ?_
          refine w_wk (σ := []) [0, 2] rfl (by decide) ?_; refine gC ?_
          exact gI (ih0 m_0 (wrap64 (n_3 - 1)) r H)
        · have c4b := beq_eq_false_iff_ne.mpr c4; have c4n := bne_iff_ne.mpr c4; try simp only [c4b, c4n, nrm]
          refine w_cond rfl (fun h => Bool.noConfusion h) (fun _ => ?_)
          refine w_exit rfl ?_
          refine k_seq ?_
          refine w_seq ?_
          refine wR fun K hK => ?_
          refine g_mv rfl rfl (gT ?_)
          refine g_mv rfl rfl (gT ?_)
          obtain ⟨c5, H⟩ := it1 H
          obtain ⟨c6, H⟩ := it1 H
          refine g_cth rfl rfl Tryd.underlying37 sz67 rfl rfl rfl (by first | assumption | omega) (by first | assumption | omega) (gT ?_)
          refine g_as rfl rfl (gT ?_)
          refine g_nil (hK _ _ _ ?_)
          refine k_seq ?_
          have tk0_ : (List.take n_3.toNat m_0).length = n_3.toNat := by simp only [List.length_take, List.length_set, List.length_replicate, List.length_append]; omega
          refine w_ret ?_
          refine fin_wp (τ := []) rfl (by decide) ?_; rw [← Option.some.inj H]; simp only [Tryd.f44, tk0_]; exact gF
      · have c1b := decide_eq_false c1; try simp only [c1b, nrm]
        refine g_sk rfl rfl (gT ?_)
        refine g_sk rfl rfl (gT ?_)
        refine g_sk rfl rfl (gT ?_)
        refine g_sk rfl rfl (gT ?_)
        refine g_sk rfl rfl (gT ?_)
        refine g_sk rfl rfl (gT ?_)
        refine g_pick rfl rfl rfl (gT ?_)
        refine g_nil (hK _ _ _ ?_)
        refine k_seq ?_
        refine w_cond rfl (fun h => Bool.noConfusion h) (fun _ => ?_)
        refine w_exit rfl ?_
        refine k_seq ?_
        refine w_seq ?_
        refine wR fun K hK => ?_
        refine g_mv rfl rfl (gT ?_)
        refine g_mv rfl rfl (gT ?_)
        obtain ⟨c7, H⟩ := it1 H
        obtain ⟨c8, H⟩ := it1 H
        refine g_cth rfl rfl Tryd.underlying37 sz67 rfl rfl rfl (by first | assumption | omega) (by first | assumption | omega) (gT ?_)
        refine g_as rfl rfl (gT ?_)
        refine g_nil (hK _ _ _ ?_)
        refine k_seq ?_
        have tk0_ : (List.take n_3.toNat m_0).length = n_3.toNat := by simp only [List.length_take, List.length_set, List.length_replicate, List.length_append]; omega
        refine w_ret ?_
        refine fin_wp (τ := []) rfl (by decide) ?_; rw [← Option.some.inj H]; simp only [Tryd.f44, tk0_]; exact gF
set_option maxHeartbeats 8000000 in
set_option maxRecDepth 100000 in
theorem dyad_line_1.does {k : Nat} {l0 : List Int} {r : (List Int)} (H : dyad_line_1.f k l0 = some r) : Do E0 (.fn 44 [.r (l0.map (V.i .u32)) l0.length true] [] (.r (r.map (V.i .u32)) r.length true) []) := by
  obtain ih0 := dyad_line_1.does_l (l0 := l0) k
  refine fn_wpl Tryd.func44 rfl (Q := (dyad_line_1.Q l0 r)) (fun s h => h) ?_
  unfold dyad_line_1.f at H
  simp only [Tryd.ntmps44, List.length, List.replicate, Nat.reduceAdd, Nat.reduceSub, List.cons_append, List.nil_append]
  refine w_seq ?_
  refine wR fun K hK => ?_
  refine g_as rfl rfl (gT ?_)
  refine g_nil (hK _ _ _ ?_)
  refine k_seq ?_
  refine w_seq ?_
  refine wR fun K hK => ?_
  refine g_mv rfl rfl (gT ?_)
  refine g_len_r rfl rfl Tryd.underlying37 rfl (gT ?_)
  refine g_as rfl rfl (gT ?_)
  refine g_nil (hK _ _ _ ?_)
  refine k_seq ?_
  refine w_seq ?_
  refine w_block ?_
  refine w_wk (σ := []) [0, 2] rfl (by decide) ?_; refine gC ?_
  exact gI (ih0 l0 (l0.length : Int) r H)

set_option maxHeartbeats 8000000 in
set_option maxRecDepth 100000 in
theorem dyad_up.does_l {l0 : List Int} {a1 : Int} (k : Nat) : (∀ (h0 : List Int) (s_6 : Int) (c_7 : Int) (t_21 : List Int) (t_22 : Int) (t_23 : Int) (r : (List Int)), dyad_up.l0 k h0 s_6 c_7 t_21 t_22 t_23 = some r → wk_ E0 (dyad_up.Q l0 a1 r) (frs (bodyOf Tryd.f45) [1, 1, 1, 1, 0, 1, 0] []) (sub (bodyOf Tryd.f45) [1, 1, 1, 1, 0, 1, 0]) ⟨[.u, .u, .u, .u, .u, .s (some (0, 0)) h0.length, .i .i64 s_6, .i .u32 c_7, .u, .u, .u, .u, .u, .u, .u, .u, .u, .u, .u, .u, .u, .r (t_21.map (V.i .u32)) t_21.length true, .i .i64 t_22, .i .i64 t_23, .u, .u, .u, .u, .u, .u, .u, .u, .u, .u, .u, .u, .u, .u, .u, .u, .u, .u, .u, .u, .u, .u], ofL [.row (h0.map (V.i .u32)) 2 1 true true none], 1, 0⟩) := by
  induction k with
  | zero => exact fun _ _ _ _ _ _ r h => by simp [dyad_up.l0] at h
  | succ k ih =>
    have ih0 := ih
    refine ?_
    · intro h0 s_6 c_7 t_21 t_22 t_23 r H
      unfold dyad_up.l0 at H
      simp only [bodyOf, Tryd.f45, frs, sub, if_true, if_false, Nat.one_ne_zero]
      refine w_loop ?_
      refine w_seq ?_
      refine wR fun K hK => ?_
      refine g_bin rfl rfl rfl rfl rfl (gT ?_)
      refine g_nil (hK _ _ _ ?_)
      refine k_seq ?_
      refine w_seq ?_
      rcases its H with ⟨c4, H⟩ | ⟨c4, H⟩
      · have c4b := decide_eq_true c4; try simp only [c4b, nrm]
        refine w_cond rfl (fun _ => ?_) (fun h => Bool.noConfusion h)
        refine w_skip ?_
        refine k_seq ?_
        refine w_seq ?_
        refine w_block ?_
        refine w_seq ?_
        refine wR fun K hK => ?_
        obtain ⟨c5, H⟩ := it1 H
        obtain ⟨c6, H⟩ := it1 H
        refine g_ixr rfl rfl Tryd.underlying37 sz67 rfl rfl (by first | assumption | omega) (by first | assumption | omega | (simp only [List.length_set, List.length_replicate] at *; omega)) (gT ?_)
        refine g_ldq rfl rfl ag67 sz67 rfl (by first | assumption | omega) (gT ?_)
        refine g_as rfl rfl (gT ?_)
        refine g_nil (hK _ _ _ ?_)
        refine k_seq ?_
        refine w_seq ?_
        refine wR fun K hK => ?_
        refine g_mv rfl rfl (gT ?_)
        refine g_mv rfl rfl (gT ?_)
        refine g_mv rfl rfl (gT ?_)
        obtain ⟨c7, H⟩ := it1 H
        refine g_shl rfl rfl rfl rfl (by omega) (gT ?_)
        refine g_mv rfl rfl (gT ?_)
        refine g_bin rfl rfl rfl rfl rfl (gT ?_)
        refine g_bsl (k := .u32) (xs := [(Go.bits .or .u32 (shl .u32 (rd t_21 t_23) s_6) c_7)]) rfl rfl Tryd.underlying37 sz67 zr67 (by decide) rfl rfl rfl (gU ?_)
        obtain ⟨c8, H⟩ := it1 H
        refine g_aps rfl rfl Tryd.underlying37 Tryd.underlying37 sz67 by67 zr67 rfl rfl rfl rfl rfl rfl (by unfold limit; omega) (by omega) ?_; refine gN ?_
        refine g_as rfl rfl (gT ?_)
        refine g_nil (hK _ _ _ ?_)
        refine k_seq ?_
        refine wR fun K hK => ?_
        refine g_mv rfl rfl (gT ?_)
        refine g_conv rfl rfl Tryd.underlying67 Tryd.underlying23 rfl (gT ?_)
        refine g_mv rfl rfl (gT ?_)
        refine g_bin rfl rfl rfl rfl rfl (gT ?_)
        obtain ⟨c9, H⟩ := it1 H
        refine g_shr rfl rfl rfl rfl (by omega) (gT ?_)
        refine g_conv rfl rfl Tryd.underlying23 Tryd.underlying67 rfl (gT ?_)
        refine g_as rfl rfl (gT ?_)
        refine g_nil (hK _ _ _ ?_)
        refine k_block ?_
        refine k_seq ?_
        refine wR fun K hK => ?_
        refine g_bin rfl rfl rfl rfl rfl (gT ?_)
        refine g_mv rfl rfl (gT ?_)
        refine g_nil (hK _ _ _ ?_)
        refine k_loop ?_
        refine w_wk (σ := [45]) [5, 0, 0, 13, 0, 0] rfl (by decide) ?_; refine gC ?_
        exact gI (ih0 (h0 ++ ([(Go.bits .or .u32 (shl .u32 (rd t_21 t_23) s_6) c_7)] : List Int)) s_6 ((shr .u64 (IntKind.u64.wrap ((rd t_21 t_23))) (wrap64 (32 - s_6))) % 4294967296) t_21 t_22 (wrap64 (t_23 + 1)) r H)
      · have c4b := decide_eq_false c4; try simp only [c4b, nrm]
        refine w_cond rfl (fun h => Bool.noConfusion h) (fun _ => ?_)
        refine w_exit rfl ?_
        refine k_seq ?_
        refine w_seq ?_
        refine wR fun K hK => ?_
        refine g_mv rfl rfl (gT ?_)
        refine g_mv rfl rfl (gT ?_)
        refine g_bsl (k := .u32) (xs := [c_7]) rfl rfl Tryd.underlying37 sz67 zr67 (by decide) rfl rfl rfl (gU ?_)
        obtain ⟨c10, H⟩ := it1 H
        refine g_aps rfl rfl Tryd.underlying37 Tryd.underlying37 sz67 by67 zr67 rfl rfl rfl rfl rfl rfl (by unfold limit; omega) (by omega) ?_; refine gN ?_
        refine g_as rfl rfl (gT ?_)
        refine g_nil (hK _ _ _ ?_)
        refine k_seq ?_
        refine w_ret ?_
        refine fin_wp (τ := [17]) rfl (by decide) ?_; rw [← Option.some.inj H]; simp only [Tryd.f45]; exact gF
set_option maxHeartbeats 8000000 in
set_option maxRecDepth 100000 in
theorem dyad_up.does {k : Nat} {l0 : List Int} {a1 : Int} {r : (List Int)} (H : dyad_up.f k l0 a1 = some r) : Do E0 (.fn 45 [.r (l0.map (V.i .u32)) l0.length true, .i .i64 a1] [] (.s (some (0, 0)) r.length) [.row (r.map (V.i .u32)) 2 1 true true none]) := by
  obtain ih0 := dyad_up.does_l (l0 := l0) (a1 := a1) k
  refine fn_wpl Tryd.func45 rfl (Q := (dyad_up.Q l0 a1 r)) (fun s h => h) ?_
  unfold dyad_up.f at H
  simp only [Tryd.ntmps45, List.length, List.replicate, Nat.reduceAdd, Nat.reduceSub, List.cons_append, List.nil_append]
  refine w_seq ?_
  refine wR fun K hK => ?_
  refine g_as rfl rfl (gT ?_)
  refine g_nil (hK _ _ _ ?_)
  refine k_seq ?_
  refine w_seq ?_
  refine wR fun K hK => ?_
  refine g_mv rfl rfl (gT ?_)
  refine g_quo rfl rfl rfl rfl (by first | assumption | omega) (gT ?_)
  refine g_mv rfl rfl (gT ?_)
  refine g_quo rfl rfl rfl rfl (by first | assumption | omega) (gT ?_)
  refine g_mv rfl rfl (gT ?_)
  refine g_len_r rfl rfl Tryd.underlying37 rfl (gT ?_)
  refine g_bin rfl rfl rfl rfl rfl (gT ?_)
  refine g_bin rfl rfl rfl rfl rfl (gT ?_)
  obtain ⟨c1, H⟩ := it1 H
  obtain ⟨c2, H⟩ := it1 H
  obtain ⟨c3, H⟩ := it1 H
  refine g_mk rfl rfl Tryd.underlying37 sz67 by67 zr67 rfl rfl rfl (by first | assumption | omega) (by omega) (by unfold limit; omega) (by omega) (gU ?_)
  refine g_as rfl rfl (gT ?_)
  refine g_nil (hK _ _ _ ?_)
  refine k_seq ?_
  refine w_seq ?_
  refine wR fun K hK => ?_
  refine g_mv rfl rfl (gT ?_)
  refine g_rem rfl rfl rfl rfl (by first | assumption | omega) (gT ?_)
  refine g_as rfl rfl (gT ?_)
  refine g_nil (hK _ _ _ ?_)
  refine k_seq ?_
  refine w_seq ?_
  refine wR fun K hK => ?_
  refine g_as rfl rfl (gT ?_)
  refine g_nil (hK _ _ _ ?_)
  refine k_seq ?_
  refine w_seq ?_
  refine w_seq ?_
  refine wR fun K hK => ?_
  refine g_mv rfl rfl (gT ?_)
  refine g_len_r rfl rfl Tryd.underlying37 rfl (gT ?_)
  refine g_mv rfl rfl (gT ?_)
  refine g_nil (hK _ _ _ ?_)
  refine k_seq ?_
  refine w_block ?_
  refine w_wk (σ := [36]) [5, 0, 0, 13, 0, 0] rfl (by decide) ?_; refine gC ?_
  exact gI (ih0 (List.replicate (wrap64 (Int.tdiv a1 32)).toNat 0) (Int.tmod a1 32) 0 l0 (l0.length : Int) 0 r H)

set_option maxHeartbeats 8000000 in
set_option maxRecDepth 100000 in
theorem dyad_line.does {k : Nat} {a0_0 : Bool} {l0_1 : List Int} {a0_2 : Int} {a1_0 : Bool} {l1_1 : List Int} {a1_2 : Int} {r : (List Int) × (List Int) × Int} (H : dyad_line.f k a0_0 l0_1 a0_2 a1_0 l1_1 a1_2 = some r) : Do E0 (.fn 34 [.a [.b a0_0, .r (l0_1.map (V.i .u32)) l0_1.length true, .i .i64 a0_2], .a [.b a1_0, .r (l1_1.map (V.i .u32)) l1_1.length true, .i .i64 a1_2]] [] (.t [.r (r.1.map (V.i .u32)) r.1.length true, .r (r.2.1.map (V.i .u32)) r.2.1.length true, .i .i64 r.2.2]) []) := by
  refine fn_wpl Tryd.func34 rfl (Q := (dyad_line.Q a0_0 l0_1 a0_2 a1_0 l1_1 a1_2 r)) (fun s h => h) ?_
  unfold dyad_line.f at H
  simp only [Tryd.ntmps34, List.length, List.replicate, Nat.reduceAdd, Nat.reduceSub, List.cons_append, List.nil_append]
  refine w_seq ?_
  refine wR fun K hK => ?_
  refine g_box rfl rfl rfl (by rfl) (gU ?_)
  refine g_box rfl rfl rfl (by rfl) (gU ?_)
  refine g_as rfl rfl (gT ?_)
  refine g_as rfl rfl (gT ?_)
  refine g_as rfl rfl (gT ?_)
  refine g_nil (hK _ _ _ ?_)
  refine k_seq ?_
  refine w_seq ?_
  refine wR fun K hK => ?_
  refine g_fd rfl rfl fa39_2 rfl (gT ?_)
  refine g_ldc rfl rfl ag3 sz3 rfl rfl rfl (gT ?_)
  refine g_fd rfl rfl fa39_2 rfl (gT ?_)
  refine g_ldc rfl rfl ag3 sz3 rfl rfl rfl (gT ?_)
  refine g_min rfl rfl rfl rfl (m := mn _ _) rfl (gT ?_)
  refine g_as rfl rfl (gT ?_)
  refine g_nil (hK _ _ _ ?_)
  refine k_seq ?_
  refine w_seq ?_
  refine wR fun K hK => ?_
  refine g_as rfl rfl (gT ?_)
  refine g_nil (hK _ _ _ ?_)
  refine k_seq ?_
  refine w_seq ?_
  refine wD fun K hK => ?_
  refine g_mv rfl rfl (gT ?_)
  refine g_fd rfl rfl fa39_1 rfl (gT ?_)
  refine g_ldc rfl rfl ag37 sz37 rfl rfl rfl (gT ?_)
  refine g_fd rfl rfl fa39_2 rfl (gT ?_)
  refine g_ldc rfl rfl ag3 sz3 rfl rfl rfl (gT ?_)
  refine g_mv rfl rfl (gT ?_)
  refine g_bin rfl rfl rfl rfl rfl (gT ?_)
  obtain ⟨q1, hq1, H⟩ := bnd H
  refine g_cs [] rfl rfl (by rfl) Tryd.func45 rfl (by decide) (dyad_up.does hq1) ⟨Nat.le_of_ble_eq_true rfl, Nat.le_of_ble_eq_true rfl⟩ ?_; refine gC ?_
  obtain ⟨q2, hq2, H⟩ := bnd H
  refine g_cs [] rfl rfl (by rfl) Tryd.func44 rfl (by decide) (dyad_line_1.does hq2) ⟨Nat.le_of_ble_eq_true rfl, Nat.le_of_ble_eq_true rfl⟩ ?_; refine gC ?_
  refine g_mv rfl rfl (gT ?_)
  refine g_fd rfl rfl fa39_1 rfl (gT ?_)
  refine g_ldc rfl rfl ag37 sz37 rfl rfl rfl (gT ?_)
  refine g_fd rfl rfl fa39_2 rfl (gT ?_)
  refine g_ldc rfl rfl ag3 sz3 rfl rfl rfl (gT ?_)
  refine g_mv rfl rfl (gT ?_)
  refine g_bin rfl rfl rfl rfl rfl (gT ?_)
  obtain ⟨q3, hq3, H⟩ := bnd H
  refine g_cs [] rfl rfl (by rfl) Tryd.func45 rfl (by decide) (dyad_up.does hq3) ⟨Nat.le_of_ble_eq_true rfl, Nat.le_of_ble_eq_true rfl⟩ ?_; refine gC ?_
  obtain ⟨q4, hq4, H⟩ := bnd H
  refine g_cs [] rfl rfl (by rfl) Tryd.func44 rfl (by decide) (dyad_line_1.does hq4) ⟨Nat.le_of_ble_eq_true rfl, Nat.le_of_ble_eq_true rfl⟩ ?_; refine gC ?_
  refine g_mv rfl rfl (gT ?_)
  refine g_as rfl rfl (gT ?_)
  refine g_as rfl rfl (gT ?_)
  refine g_as rfl rfl (gT ?_)
  refine g_nil (hK _ _ _ (by kernel_rfl) ?_)
  refine k_seq ?_
  refine w_ret ?_
  refine fin_wp (τ := []) rfl (by decide) ?_; rw [← Option.some.inj H]; simp only [Tryd.f34]; exact gF

set_option maxHeartbeats 8000000 in
set_option maxRecDepth 100000 in
theorem dyad_Num_Add.does_l {a0_0 : Bool} {l0_1 : List Int} {a0_2 : Int} {a1_0 : Bool} {l1_1 : List Int} {a1_2 : Int} (k : Nat) : (∀ (x_5 : List Int) (y_6 : List Int) (e_7 : Int) (h0_0 : Bool) (h0_1 : List Int) (h0_2 : Int) (h1_1 : Int) (r : Bool × (List Int) × Int), dyad_Num_Add.j0 k x_5 y_6 e_7 h0_0 h0_1 h0_2 = some r → kont E0 (dyad_Num_Add.Q a0_0 l0_1 a0_2 a1_0 l1_1 a1_2 r) (frs (bodyOf Tryd.f20) [1, 1, 1, 1, 0, 1, 0, 0, 1] []) .normal ⟨[.u, .u, .p (some (0, 0)), .u, .p (some (1, 0)), .r (x_5.map (V.i .u32)) x_5.length true, .r (y_6.map (V.i .u32)) y_6.length true, .i .i64 e_7, .u, .u, .u, .u, .u, .u, .u, .u, .u, .u, .u, .u, .u, .u, .u, .u, .u, .u, .u, .u, .u, .u, .u, .u, .u, .u, .u, .u, .u, .u, .u, .u, .u, .u, .u, .u, .u, .u, .u, .u, .u, .u, .u, .u, .u, .u, .u, .u, .u, .u, .u, .u, .u, .u, .u, .u, .u, .u, .u, .u, .u, .u, .u, .u, .u, .u, .u, .u, .u, .u, .u, .u, .u, .u, .u, .u, .u, .u, .u, .u, .u, .u, .u, .u, .u, .u, .u, .u, .u, .u, .u, .u, .u, .u, .u, .u, .u, .u, .u, .u, .u, .u, .u, .u, .u, .u, .u, .u, .u, .u, .u, .u, .u, .u, .u, .u, .u, .u, .u, .u, .u, .u, .u, .u, .u, .u, .u, .u, .u, .u, .u, .u], ofL [.row [.b h0_0, .r (h0_1.map (V.i .u32)) h0_1.length true, .i .i64 h0_2] 0 0 true true none, .row [.b false, .s none 0, .i .i64 h1_1] 0 0 true true none], 2, 0⟩) ∧
    (∀ (x_5 : List Int) (y_6 : List Int) (e_7 : Int) (h2 : List Int) (c_9 : Int) (t_49 : Int) (t_50 : Int) (h0_0 : Bool) (h0_1 : List Int) (h0_2 : Int) (h1_1 : Int) (r : Bool × (List Int) × Int), dyad_Num_Add.l0 k x_5 y_6 e_7 h2 c_9 t_49 t_50 h0_0 h0_1 h0_2 = some r → wk_ E0 (dyad_Num_Add.Q a0_0 l0_1 a0_2 a1_0 l1_1 a1_2 r) (frs (bodyOf Tryd.f20) [1, 1, 1, 1, 0, 1, 0, 1, 1, 1, 0, 1, 0] []) (sub (bodyOf Tryd.f20) [1, 1, 1, 1, 0, 1, 0, 1, 1, 1, 0, 1, 0]) ⟨[.u, .u, .p (some (0, 0)), .u, .p (some (1, 0)), .r (x_5.map (V.i .u32)) x_5.length true, .r (y_6.map (V.i .u32)) y_6.length true, .i .i64 e_7, .s (some (2, 0)) h2.length, .i .u64 c_9, .u, .u, .u, .u, .u, .u, .u, .u, .u, .u, .u, .u, .u, .u, .u, .u, .u, .u, .u, .u, .u, .u, .u, .u, .u, .u, .u, .u, .u, .u, .u, .u, .u, .u, .u, .u, .u, .u, .u, .i .i64 t_49, .i .i64 t_50, .u, .u, .u, .u, .u, .u, .u, .u, .u, .u, .u, .u, .u, .u, .u, .u, .u, .u, .u, .u, .u, .u, .u, .u, .u, .u, .u, .u, .u, .u, .u, .u, .u, .u, .u, .u, .u, .u, .u, .u, .u, .u, .u, .u, .u, .u, .u, .u, .u, .u, .u, .u, .u, .u, .u, .u, .u, .u, .u, .u, .u, .u, .u, .u, .u, .u, .u, .u, .u, .u, .u, .u, .u, .u, .u, .u, .u, .u, .u, .u, .u, .u, .u, .u, .u, .u, .u, .u, .u], ofL [.row [.b h0_0, .r (h0_1.map (V.i .u32)) h0_1.length true, .i .i64 h0_2] 0 0 true true none, .row [.b false, .s none 0, .i .i64 h1_1] 0 0 true true none, .row (h2.map (V.i .u32)) 2 1 true true none], 3, 0⟩) ∧
    (∀ (x_5 : List Int) (y_6 : List Int) (e_7 : Int) (neg_11 : Bool) (h0_1 : Int) (r : Bool × (List Int) × Int), dyad_Num_Add.j2 k x_5 y_6 e_7 neg_11 = some r → kont E0 (dyad_Num_Add.Q a0_0 l0_1 a0_2 a1_0 l1_1 a1_2 r) (frs (bodyOf Tryd.f20) [1, 1, 1, 1, 1, 1, 0, 1] []) .normal ⟨[.u, .u, .u, .u, .p (some (0, 0)), .r (x_5.map (V.i .u32)) x_5.length true, .r (y_6.map (V.i .u32)) y_6.length true, .i .i64 e_7, .u, .u, .u, .b neg_11, .u, .u, .u, .u, .u, .u, .u, .u, .u, .u, .u, .u, .u, .u, .u, .u, .u, .u, .u, .u, .u, .u, .u, .u, .u, .u, .u, .u, .u, .u, .u, .u, .u, .u, .u, .u, .u, .u, .u, .u, .u, .u, .u, .u, .u, .u, .u, .u, .u, .u, .u, .u, .u, .u, .u, .u, .u, .u, .u, .u, .u, .u, .u, .u, .u, .u, .u, .u, .u, .u, .u, .u, .u, .u, .u, .u, .u, .u, .u, .u, .u, .u, .u, .u, .u, .u, .u, .u, .u, .u, .u, .u, .u, .u, .u, .u, .u, .u, .u, .u, .u, .u, .u, .u, .u, .u, .u, .u, .u, .u, .u, .u, .u, .u, .u, .u, .u, .u, .u, .u, .u, .u, .u, .u, .u, .u, .u, .u], ofL [.row [.b false, .s none 0, .i .i64 h0_1] 0 0 true true none], 1, 0⟩) ∧
    (∀ (x_5 : List Int) (y_6 : List Int) (e_7 : Int) (neg_11 : Bool) (h1 : List Int) (c_13 : Int) (t_106 : Int) (t_107 : Int) (h0_1 : Int) (r : Bool × (List Int) × Int), dyad_Num_Add.l1 k x_5 y_6 e_7 neg_11 h1 c_13 t_106 t_107 = some r → wk_ E0 (dyad_Num_Add.Q a0_0 l0_1 a0_2 a1_0 l1_1 a1_2 r) (frs (bodyOf Tryd.f20) [1, 1, 1, 1, 1, 1, 1, 1, 1, 0, 1, 0] []) (sub (bodyOf Tryd.f20) [1, 1, 1, 1, 1, 1, 1, 1, 1, 0, 1, 0]) ⟨[.u, .u, .u, .u, .p (some (0, 0)), .r (x_5.map (V.i .u32)) x_5.length true, .r (y_6.map (V.i .u32)) y_6.length true, .i .i64 e_7, .u, .u, .u, .b neg_11, .s (some (1, 0)) h1.length, .i .i64 c_13, .u, .u, .u, .u, .u, .u, .u, .u, .u, .u, .u, .u, .u, .u, .u, .u, .u, .u, .u, .u, .u, .u, .u, .u, .u, .u, .u, .u, .u, .u, .u, .u, .u, .u, .u, .u, .u, .u, .u, .u, .u, .u, .u, .u, .u, .u, .u, .u, .u, .u, .u, .u, .u, .u, .u, .u, .u, .u, .u, .u, .u, .u, .u, .u, .u, .u, .u, .u, .u, .u, .u, .u, .u, .u, .u, .u, .u, .u, .u, .u, .u, .u, .u, .u, .u, .u, .u, .u, .u, .u, .u, .u, .i .i64 t_106, .i .i64 t_107, .u, .u, .u, .u, .u, .u, .u, .u, .u, .u, .u, .u, .u, .u, .u, .u, .u, .u, .u, .u, .u, .u, .u, .u, .u, .u, .u, .u, .u, .u, .u, .u], ofL [.row [.b false, .s none 0, .i .i64 h0_1] 0 0 true true none, .row (h1.map (V.i .u32)) 2 1 true true none], 2, 0⟩) := by
  induction k with
  | zero => exact ⟨fun _ _ _ _ _ _ _ r h => by simp [dyad_Num_Add.j0] at h, fun _ _ _ _ _ _ _ _ _ _ _ r h => by simp [dyad_Num_Add.l0] at h, fun _ _ _ _ _ r h => by simp [dyad_Num_Add.j2] at h, fun _ _ _ _ _ _ _ _ _ r h => by simp [dyad_Num_Add.l1] at h⟩
  | succ k ih =>
    obtain ⟨ih0, ih1, ih2, ih3⟩ := ih
    refine ⟨?_, ?_, ?_, ?_⟩
    · intro x_5 y_6 e_7 h0_0 h0_1 h0_2 h1_1 r H
      unfold dyad_Num_Add.j0 at H
      simp only [bodyOf, Tryd.f20, frs, sub, if_true, if_false, Nat.one_ne_zero]
      refine k_seq ?_
      refine w_seq ?_
      refine wR fun K hK => ?_
      refine g_mv rfl rfl (gT ?_)
      refine g_len_r rfl rfl Tryd.underlying37 rfl (gT ?_)
      refine g_bin rfl rfl rfl rfl rfl (gT ?_)
      obtain ⟨c9, H⟩ := it1 H
      obtain ⟨c10, H⟩ := it1 H
      refine g_mk rfl rfl Tryd.underlying37 sz67 by67 zr67 rfl rfl rfl (by first | assumption | omega) (by omega) (by unfold limit; omega) (by omega) (gU ?_)
      refine g_as rfl rfl (gT ?_)
      refine g_nil (hK _ _ _ ?_)
      refine k_seq ?_
      refine w_seq ?_
      refine wR fun K hK => ?_
      refine g_as rfl rfl (gT ?_)
      refine g_nil (hK _ _ _ ?_)
      refine k_seq ?_
      refine w_seq ?_
      refine w_seq ?_
      refine wR fun K hK => ?_
      refine g_mv rfl rfl (gT ?_)
      refine g_len_r rfl rfl Tryd.underlying37 rfl (gT ?_)
      refine g_mv rfl rfl (gT ?_)
      refine g_nil (hK _ _ _ ?_)
      refine k_seq ?_
      refine w_block ?_
      refine w_wk (σ := [0, 1, 14]) [2, 1, 0, 0, 0, 0, 0, 39, 0] rfl (by decide) ?_; refine gC ?_
      exact gI (ih1 x_5 y_6 e_7 (List.replicate 0 0) 0 (x_5.length : Int) 0 h0_0 h0_1 h0_2 h1_1 r H)
    · intro x_5 y_6 e_7 h2 c_9 t_49 t_50 h0_0 h0_1 h0_2 h1_1 r H
      unfold dyad_Num_Add.l0 at H
      simp only [bodyOf, Tryd.f20, frs, sub, if_true, if_false, Nat.one_ne_zero]
      refine w_loop ?_
      refine w_seq ?_
      refine wR fun K hK => ?_
      refine g_bin rfl rfl rfl rfl rfl (gT ?_)
      refine g_nil (hK _ _ _ ?_)
      refine k_seq ?_
      refine w_seq ?_
      rcases its H with ⟨c13, H⟩ | ⟨c13, H⟩
      · have c13b := decide_eq_true c13; try simp only [c13b, nrm]
        refine w_cond rfl (fun _ => ?_) (fun h => Bool.noConfusion h)
        refine w_skip ?_
        refine k_seq ?_
        refine w_seq ?_
        refine w_block ?_
        refine w_seq ?_
        refine wR fun K hK => ?_
        refine g_mv rfl rfl (gT ?_)
        refine g_as rfl rfl (gT ?_)
        refine g_nil (hK _ _ _ ?_)
        refine k_seq ?_
        refine w_seq ?_
        refine wR fun K hK => ?_
        refine g_mv rfl rfl (gT ?_)
        refine g_mv rfl rfl (gT ?_)
        refine g_mv rfl rfl (gT ?_)
        obtain ⟨c14, H⟩ := it1 H
        obtain ⟨c15, H⟩ := it1 H
        refine g_ixr rfl rfl Tryd.underlying37 sz67 rfl rfl (by first | assumption | omega) (by first | assumption | omega | (simp only [List.length_set, List.length_replicate] at *; omega)) (gT ?_)
        refine g_ldq rfl rfl ag67 sz67 rfl (by first | assumption | omega) (gT ?_)
        refine g_conv rfl rfl Tryd.underlying67 Tryd.underlying23 rfl (gT ?_)
        refine g_bin rfl rfl rfl rfl rfl (gT ?_)
        refine g_as rfl rfl (gT ?_)
        refine g_nil (hK _ _ _ ?_)
        refine k_seq ?_
        refine w_seq ?_
        refine w_seq ?_
        refine wR fun K hK => ?_
        refine g_mv rfl rfl (gT ?_)
        refine g_mv rfl rfl (gT ?_)
        refine g_len_r rfl rfl Tryd.underlying37 rfl (gT ?_)
        refine g_bin rfl rfl rfl rfl rfl (gT ?_)
        refine g_nil (hK _ _ _ ?_)
        refine k_seq ?_
        rcases its H with ⟨c16, H⟩ | ⟨c16, H⟩
        · have c16b := decide_eq_true c16; try simp only [c16b, nrm]
          refine w_cond rfl (fun _ => ?_) (fun h => Bool.noConfusion h)
          refine wR fun K hK => ?_
          refine g_mv rfl rfl (gT ?_)
          refine g_mv rfl rfl (gT ?_)
          refine g_mv rfl rfl (gT ?_)
          refine g_ixr rfl rfl Tryd.underlying37 sz67 rfl rfl (by first | assumption | omega) (by first | assumption | omega | (simp only [List.length_set, List.length_replicate] at *; omega)) (gT ?_)
          refine g_ldq rfl rfl ag67 sz67 rfl (by first | assumption | omega) (gT ?_)
          refine g_conv rfl rfl Tryd.underlying67 Tryd.underlying23 rfl (gT ?_)
          refine g_bin rfl rfl rfl rfl rfl (gT ?_)
          refine g_as rfl rfl (gT ?_)
          refine g_nil (hK _ _ _ ?_)
          refine k_seq ?_
          refine wR fun K hK => ?_
          refine g_mv rfl rfl (gT ?_)
          refine g_mv rfl rfl (gT ?_)
          refine g_conv rfl rfl Tryd.underlying23 Tryd.underlying67 rfl (gT ?_)
          refine g_bsl (k := .u32) (xs := [((IntKind.u64.wrap ((IntKind.u64.wrap (c_9 + (IntKind.u64.wrap ((rd x_5 t_50))))) + (IntKind.u64.wrap ((rd y_6 t_50))))) % 4294967296)]) rfl rfl Tryd.underlying37 sz67 zr67 (by decide) rfl rfl rfl (gU ?_)
          obtain ⟨c17, H⟩ := it1 H
          refine g_aps rfl rfl Tryd.underlying37 Tryd.underlying37 sz67 by67 zr67 rfl rfl rfl rfl rfl rfl (by unfold limit; omega) (by omega) ?_; refine gN ?_
          refine g_mv rfl rfl (gT ?_)
          refine g_shrc (p := 4294967296) rfl rfl rfl rfl (by decide) (by rfl) (gT ?_)
          refine g_as rfl rfl (gT ?_)
          refine g_as rfl rfl (gT ?_)
          refine g_nil (hK _ _ _ ?_)
          refine k_block ?_
          refine k_seq ?_
          refine wR fun K hK => ?_
          refine g_bin rfl rfl rfl rfl rfl (gT ?_)
          refine g_mv rfl rfl (gT ?_)
          refine g_nil (hK _ _ _ ?_)
          refine k_loop ?_
          refine w_wk (σ := [0, 1, 111]) [2, 1, 0, 0, 0, 0, 0, 39, 0] rfl (by decide) ?_; refine gC ?_
          exact gI (ih1 x_5 y_6 e_7 (h2 ++ ([((IntKind.u64.wrap ((IntKind.u64.wrap (c_9 + (IntKind.u64.wrap ((rd x_5 t_50))))) + (IntKind.u64.wrap ((rd y_6 t_50))))) % 4294967296)] : List Int)) ((IntKind.u64.wrap ((IntKind.u64.wrap (c_9 + (IntKind.u64.wrap ((rd x_5 t_50))))) + (IntKind.u64.wrap ((rd y_6 t_50))))) / 4294967296) t_49 (wrap64 (t_50 + 1)) h0_0 h0_1 h0_2 h1_1 r H)
        · have c16b := decide_eq_false c16; try simp only [c16b, nrm]
          refine w_cond rfl (fun h => Bool.noConfusion h) (fun _ => ?_)
          refine w_skip ?_
          refine k_seq ?_
          refine wR fun K hK => ?_
          refine g_mv rfl rfl (gT ?_)
          refine g_mv rfl rfl (gT ?_)
          refine g_conv rfl rfl Tryd.underlying23 Tryd.underlying67 rfl (gT ?_)
          refine g_bsl (k := .u32) (xs := [((IntKind.u64.wrap (c_9 + (IntKind.u64.wrap ((rd x_5 t_50))))) % 4294967296)]) rfl rfl Tryd.underlying37 sz67 zr67 (by decide) rfl rfl rfl (gU ?_)
          obtain ⟨c18, H⟩ := it1 H
          refine g_aps rfl rfl Tryd.underlying37 Tryd.underlying37 sz67 by67 zr67 rfl rfl rfl rfl rfl rfl (by unfold limit; omega) (by omega) ?_; refine gN ?_
          refine g_mv rfl rfl (gT ?_)
          refine g_shrc (p := 4294967296) rfl rfl rfl rfl (by decide) (by rfl) (gT ?_)
          refine g_as rfl rfl (gT ?_)
          refine g_as rfl rfl (gT ?_)
          refine g_nil (hK _ _ _ ?_)
          refine k_block ?_
          refine k_seq ?_
          refine wR fun K hK => ?_
          refine g_bin rfl rfl rfl rfl rfl (gT ?_)
          refine g_mv rfl rfl (gT ?_)
          refine g_nil (hK _ _ _ ?_)
          refine k_loop ?_
          refine w_wk (σ := [0, 1, 79]) [2, 1, 0, 0, 0, 0, 0, 39, 0] rfl (by decide) ?_; refine gC ?_
          exact gI (ih1 x_5 y_6 e_7 (h2 ++ ([((IntKind.u64.wrap (c_9 + (IntKind.u64.wrap ((rd x_5 t_50))))) % 4294967296)] : List Int)) ((IntKind.u64.wrap (c_9 + (IntKind.u64.wrap ((rd x_5 t_50))))) / 4294967296) t_49 (wrap64 (t_50 + 1)) h0_0 h0_1 h0_2 h1_1 r H)
      · have c13b := decide_eq_false c13; try simp only [c13b, nrm]
        refine w_cond rfl (fun h => Bool.noConfusion h) (fun _ => ?_)
        refine w_exit rfl ?_
        refine k_seq ?_
        refine w_seq ?_
        refine wD fun K hK => ?_
        refine g_fd rfl rfl fa39_0 rfl (gT ?_)
        refine g_ldc rfl rfl ag4 sz4 rfl rfl rfl (gT ?_)
        refine g_mv rfl rfl (gT ?_)
        refine g_mv rfl rfl (gT ?_)
        refine g_conv rfl rfl Tryd.underlying23 Tryd.underlying67 rfl (gT ?_)
        refine g_bsl (k := .u32) (xs := [(c_9 % 4294967296)]) rfl rfl Tryd.underlying37 sz67 zr67 (by decide) rfl rfl rfl (gU ?_)
        obtain ⟨c19, H⟩ := it1 H
        refine g_aps rfl rfl Tryd.underlying37 Tryd.underlying37 sz67 by67 zr67 rfl rfl rfl rfl rfl rfl (by unfold limit; omega) (by omega) ?_; refine gN ?_
        refine g_mv rfl rfl (gT ?_)
        obtain ⟨q20, hq20, H⟩ := bnd H
        refine g_cs [] rfl rfl (by rfl) Tryd.func32 rfl (by decide) (dyad_trim.does hq20) ⟨Nat.le_of_ble_eq_true rfl, Nat.le_of_ble_eq_true rfl⟩ ?_; refine gC ?_
        refine g_st rfl rfl sz39 rfl rfl rfl (by rfl) (Nat.le_of_ble_eq_true rfl) (gU ?_)
        refine g_nil (hK _ _ _ (by kernel_rfl) ?_)
        refine k_seq ?_
        refine w_ret ?_
        refine fin_wp (τ := []) rfl (by decide) ?_; rw [← Option.some.inj H]; simp only [Tryd.f20, ag39, sz39, nrm, nrmw, nrmc, nrme, nrmo, nrml, nrmb, nrmx, Nat.reduceEqDiff, Nat.reduceBEq, Nat.zero_add, Nat.add_zero, Nat.mul_one, List.length_cons, List.length_nil, List.length_map, List.length_set, List.length_replicate, List.drop_zero, List.drop_succ_cons, List.drop_nil, List.take_zero, List.take_succ_cons, List.take_nil, Nat.le_refl, if_true, if_false, Option.any_none, Option.any_some, List.contains_nil, Bool.not_false, Bool.or_true, Bool.true_or, Bool.or_false, Bool.false_or, Bool.and_true, Bool.true_and, Bool.and_self, reduceCtorEq, beq_self_eq_true, List.map_cons, List.map_nil, List.append_nil, List.nil_append, List.contains_cons, List.filter_cons, List.filter_nil, List.cons_append, Bool.false_eq_true, true_and, and_true, List.getElem_toArray, List.getElem_cons_zero, List.getElem_cons_succ, Nat.reduceAdd, Nat.reduceMul, Nat.reduceLT, Nat.reduceSub, Nat.reduceLeDiff]; try (first | rfl | exact ⟨rfl, trivial⟩ | exact ⟨rfl, rfl⟩)
    · intro x_5 y_6 e_7 neg_11 h0_1 r H
      unfold dyad_Num_Add.j2 at H
      simp only [bodyOf, Tryd.f20, frs, sub, if_true, if_false, Nat.one_ne_zero]
      refine k_seq ?_
      refine w_seq ?_
      refine wR fun K hK => ?_
      refine g_mv rfl rfl (gT ?_)
      refine g_len_r rfl rfl Tryd.underlying37 rfl (gT ?_)
      obtain ⟨c11, H⟩ := it1 H
      obtain ⟨c12, H⟩ := it1 H
      refine g_mk rfl rfl Tryd.underlying37 sz67 by67 zr67 rfl rfl rfl (by first | assumption | omega) (by omega) (by unfold limit; omega) (by omega) (gU ?_)
      refine g_as rfl rfl (gT ?_)
      refine g_nil (hK _ _ _ ?_)
      refine k_seq ?_
      refine w_seq ?_
      refine wR fun K hK => ?_
      refine g_as rfl rfl (gT ?_)
      refine g_nil (hK _ _ _ ?_)
      refine k_seq ?_
      refine w_seq ?_
      refine w_seq ?_
      refine wR fun K hK => ?_
      refine g_mv rfl rfl (gT ?_)
      refine g_len_r rfl rfl Tryd.underlying37 rfl (gT ?_)
      refine g_mv rfl rfl (gT ?_)
      refine g_nil (hK _ _ _ ?_)
      refine k_seq ?_
      refine w_block ?_
      refine w_wk (σ := [0, 9]) [4, 0, 0, 0, 3, 0, 0, 92, 0] rfl (by decide) ?_; refine gC ?_
      exact gI (ih3 x_5 y_6 e_7 neg_11 (List.replicate 0 0) 0 (x_5.length : Int) 0 h0_1 r H)
    · intro x_5 y_6 e_7 neg_11 h1 c_13 t_106 t_107 h0_1 r H
      unfold dyad_Num_Add.l1 at H
      simp only [bodyOf, Tryd.f20, frs, sub, if_true, if_false, Nat.one_ne_zero]
      refine w_loop ?_
      refine w_seq ?_
      refine wR fun K hK => ?_
      refine g_bin rfl rfl rfl rfl rfl (gT ?_)
      refine g_nil (hK _ _ _ ?_)
      refine k_seq ?_
      refine w_seq ?_
      rcases its H with ⟨c21, H⟩ | ⟨c21, H⟩
      · have c21b := decide_eq_true c21; try simp only [c21b, nrm]
        refine w_cond rfl (fun _ => ?_) (fun h => Bool.noConfusion h)
        refine w_skip ?_
        refine k_seq ?_
        refine w_seq ?_
        refine w_block ?_
        refine w_seq ?_
        refine wR fun K hK => ?_
        refine g_mv rfl rfl (gT ?_)
        refine g_as rfl rfl (gT ?_)
        refine g_nil (hK _ _ _ ?_)
        refine k_seq ?_
        refine w_seq ?_
        refine wR fun K hK => ?_
        refine g_mv rfl rfl (gT ?_)
        refine g_mv rfl rfl (gT ?_)
        refine g_mv rfl rfl (gT ?_)
        obtain ⟨c22, H⟩ := it1 H
        obtain ⟨c23, H⟩ := it1 H
        refine g_ixr rfl rfl Tryd.underlying37 sz67 rfl rfl (by first | assumption | omega) (by first | assumption | omega | (simp only [List.length_set, List.length_replicate] at *; omega)) (gT ?_)
        refine g_ldq rfl rfl ag67 sz67 rfl (by first | assumption | omega) (gT ?_)
        refine g_conv rfl rfl Tryd.underlying67 Tryd.underlying2 rfl (gT ?_)
        refine g_bin rfl rfl rfl rfl rfl (gT ?_)
        refine g_as rfl rfl (gT ?_)
        refine g_nil (hK _ _ _ ?_)
        refine k_seq ?_
        refine w_seq ?_
        refine w_seq ?_
        refine wR fun K hK => ?_
        refine g_mv rfl rfl (gT ?_)
        refine g_mv rfl rfl (gT ?_)
        refine g_len_r rfl rfl Tryd.underlying37 rfl (gT ?_)
        refine g_bin rfl rfl rfl rfl rfl (gT ?_)
        refine g_nil (hK _ _ _ ?_)
        refine k_seq ?_
        rcases its H with ⟨c24, H⟩ | ⟨c24, H⟩
        · have c24b := decide_eq_true c24; try simp only [c24b, nrm]
          refine w_cond rfl (fun _ => ?_) (fun h => Bool.noConfusion h)
          refine wR fun K hK => ?_
          refine g_mv rfl rfl (gT ?_)
          refine g_mv rfl rfl (gT ?_)
          refine g_mv rfl rfl (gT ?_)
          refine g_ixr rfl rfl Tryd.underlying37 sz67 rfl rfl (by first | assumption | omega) (by first | assumption | omega | (simp only [List.length_set, List.length_replicate] at *; omega)) (gT ?_)
          refine g_ldq rfl rfl ag67 sz67 rfl (by first | assumption | omega) (gT ?_)
          refine g_conv rfl rfl Tryd.underlying67 Tryd.underlying2 rfl (gT ?_)
          refine g_bin rfl rfl rfl rfl rfl (gT ?_)
          refine g_as rfl rfl (gT ?_)
          refine g_nil (hK _ _ _ ?_)
          refine k_seq ?_
          refine wR fun K hK => ?_
          refine g_mv rfl rfl (gT ?_)
          refine g_mv rfl rfl (gT ?_)
          refine g_conv rfl rfl Tryd.underlying2 Tryd.underlying67 rfl (gT ?_)
          refine g_bsl (k := .u32) (xs := [((wrap64 ((wrap64 (c_13 + (wrap64 ((rd x_5 t_107))))) - (wrap64 ((rd y_6 t_107))))) % 4294967296)]) rfl rfl Tryd.underlying37 sz67 zr67 (by decide) rfl rfl rfl (gU ?_)
          obtain ⟨c25, H⟩ := it1 H
          refine g_aps rfl rfl Tryd.underlying37 Tryd.underlying37 sz67 by67 zr67 rfl rfl rfl rfl rfl rfl (by unfold limit; omega) (by omega) ?_; refine gN ?_
          refine g_mv rfl rfl (gT ?_)
          refine g_shrc (p := 4294967296) rfl rfl rfl rfl (by decide) (by rfl) (gT ?_)
          refine g_as rfl rfl (gT ?_)
          refine g_as rfl rfl (gT ?_)
          refine g_nil (hK _ _ _ ?_)
          refine k_block ?_
          refine k_seq ?_
          refine wR fun K hK => ?_
          refine g_bin rfl rfl rfl rfl rfl (gT ?_)
          refine g_mv rfl rfl (gT ?_)
          refine g_nil (hK _ _ _ ?_)
          refine k_loop ?_
          refine w_wk (σ := [0, 110]) [4, 0, 0, 0, 3, 0, 0, 92, 0] rfl (by decide) ?_; refine gC ?_
          exact gI (ih3 x_5 y_6 e_7 neg_11 (h1 ++ ([((wrap64 ((wrap64 (c_13 + (wrap64 ((rd x_5 t_107))))) - (wrap64 ((rd y_6 t_107))))) % 4294967296)] : List Int)) ((wrap64 ((wrap64 (c_13 + (wrap64 ((rd x_5 t_107))))) - (wrap64 ((rd y_6 t_107))))) / 4294967296) t_106 (wrap64 (t_107 + 1)) h0_1 r H)
        · have c24b := decide_eq_false c24; try simp only [c24b, nrm]
          refine w_cond rfl (fun h => Bool.noConfusion h) (fun _ => ?_)
          refine w_skip ?_
          refine k_seq ?_
          refine wR fun K hK => ?_
          refine g_mv rfl rfl (gT ?_)
          refine g_mv rfl rfl (gT ?_)
          refine g_conv rfl rfl Tryd.underlying2 Tryd.underlying67 rfl (gT ?_)
          refine g_bsl (k := .u32) (xs := [((wrap64 (c_13 + (wrap64 ((rd x_5 t_107))))) % 4294967296)]) rfl rfl Tryd.underlying37 sz67 zr67 (by decide) rfl rfl rfl (gU ?_)
          obtain ⟨c26, H⟩ := it1 H
          refine g_aps rfl rfl Tryd.underlying37 Tryd.underlying37 sz67 by67 zr67 rfl rfl rfl rfl rfl rfl (by unfold limit; omega) (by omega) ?_; refine gN ?_
          refine g_mv rfl rfl (gT ?_)
          refine g_shrc (p := 4294967296) rfl rfl rfl rfl (by decide) (by rfl) (gT ?_)
          refine g_as rfl rfl (gT ?_)
          refine g_as rfl rfl (gT ?_)
          refine g_nil (hK _ _ _ ?_)
          refine k_block ?_
          refine k_seq ?_
          refine wR fun K hK => ?_
          refine g_bin rfl rfl rfl rfl rfl (gT ?_)
          refine g_mv rfl rfl (gT ?_)
          refine g_nil (hK _ _ _ ?_)
          refine k_loop ?_
          refine w_wk (σ := [0, 78]) [4, 0, 0, 0, 3, 0, 0, 92, 0] rfl (by decide) ?_; refine gC ?_
          exact gI (ih3 x_5 y_6 e_7 neg_11 (h1 ++ ([((wrap64 (c_13 + (wrap64 ((rd x_5 t_107))))) % 4294967296)] : List Int)) ((wrap64 (c_13 + (wrap64 ((rd x_5 t_107))))) / 4294967296) t_106 (wrap64 (t_107 + 1)) h0_1 r H)
      · have c21b := decide_eq_false c21; try simp only [c21b, nrm]
        refine w_cond rfl (fun h => Bool.noConfusion h) (fun _ => ?_)
        refine w_exit rfl ?_
        refine k_seq ?_
        refine w_seq ?_
        refine wR fun K hK => ?_
        refine g_mv rfl rfl (gT ?_)
        refine g_mv rfl rfl (gT ?_)
        refine g_mv rfl rfl (gT ?_)
        obtain ⟨q27, hq27, H⟩ := bnd H
        refine g_cs [] rfl rfl (by rfl) Tryd.func32 rfl (by decide) (dyad_trim.does hq27) ⟨Nat.le_of_ble_eq_true rfl, Nat.le_of_ble_eq_true rfl⟩ ?_; refine gC ?_
        refine g_st rfl rfl sz39 rfl rfl rfl (by rfl) (Nat.le_of_ble_eq_true rfl) (gU ?_)
        refine g_nil (hK _ _ _ ?_)
        refine k_seq ?_
        refine w_ret ?_
        refine fin_wp (τ := []) rfl (by decide) ?_; rw [← Option.some.inj H]; simp only [Tryd.f20, ag39, sz39, nrm, nrmw, nrmc, nrme, nrmo, nrml, nrmb, nrmx, Nat.reduceEqDiff, Nat.reduceBEq, Nat.zero_add, Nat.add_zero, Nat.mul_one, List.length_cons, List.length_nil, List.length_map, List.length_set, List.length_replicate, List.drop_zero, List.drop_succ_cons, List.drop_nil, List.take_zero, List.take_succ_cons, List.take_nil, Nat.le_refl, if_true, if_false, Option.any_none, Option.any_some, List.contains_nil, Bool.not_false, Bool.or_true, Bool.true_or, Bool.or_false, Bool.false_or, Bool.and_true, Bool.true_and, Bool.and_self, reduceCtorEq, beq_self_eq_true, List.map_cons, List.map_nil, List.append_nil, List.nil_append, List.contains_cons, List.filter_cons, List.filter_nil, List.cons_append, Bool.false_eq_true, true_and, and_true, List.getElem_toArray, List.getElem_cons_zero, List.getElem_cons_succ, Nat.reduceAdd, Nat.reduceMul, Nat.reduceLT, Nat.reduceSub, Nat.reduceLeDiff]; try (first | rfl | exact ⟨rfl, trivial⟩ | exact ⟨rfl, rfl⟩)
set_option maxHeartbeats 8000000 in
set_option maxRecDepth 100000 in
theorem dyad_Num_Add.does {k : Nat} {a0_0 : Bool} {l0_1 : List Int} {a0_2 : Int} {a1_0 : Bool} {l1_1 : List Int} {a1_2 : Int} {r : Bool × (List Int) × Int} (H : dyad_Num_Add.f k a0_0 l0_1 a0_2 a1_0 l1_1 a1_2 = some r) : Do E0 (.fn 20 [.a [.b a0_0, .r (l0_1.map (V.i .u32)) l0_1.length true, .i .i64 a0_2], .a [.b a1_0, .r (l1_1.map (V.i .u32)) l1_1.length true, .i .i64 a1_2]] [] (.a [.b r.1, .r (r.2.1.map (V.i .u32)) r.2.1.length true, .i .i64 r.2.2]) []) := by
  obtain ⟨ih0, ih1, ih2, ih3⟩ := dyad_Num_Add.does_l (a0_0 := a0_0) (l0_1 := l0_1) (a0_2 := a0_2) (a1_0 := a1_0) (l1_1 := l1_1) (a1_2 := a1_2) k
  refine fn_wpl Tryd.func20 rfl (Q := (dyad_Num_Add.Q a0_0 l0_1 a0_2 a1_0 l1_1 a1_2 r)) (fun s h => h) ?_
  unfold dyad_Num_Add.f at H
  simp only [Tryd.ntmps20, List.length, List.replicate, Nat.reduceAdd, Nat.reduceSub, List.cons_append, List.nil_append]
  refine w_seq ?_
  refine wR fun K hK => ?_
  refine g_box rfl rfl rfl (by rfl) (gU ?_)
  refine g_box rfl rfl rfl (by rfl) (gU ?_)
  refine g_alloc rfl rfl zr39 (gU ?_)
  refine g_nil (hK _ _ _ ?_)
  refine k_seq ?_
  refine w_seq ?_
  refine w_seq ?_
  refine wR fun K hK => ?_
  refine g_fd rfl rfl fa39_1 rfl (gT ?_)
  refine g_ldc rfl rfl ag37 sz37 rfl rfl rfl (gT ?_)
  refine g_len_r rfl rfl Tryd.underlying37 rfl (gT ?_)
  refine g_bin rfl rfl rfl rfl rfl (gT ?_)
  refine g_nil (hK _ _ _ ?_)
  refine k_seq ?_
  rcases its H with ⟨c1, H⟩ | ⟨c1, H⟩
  · have c1b := beq_iff_eq.mpr c1; have c1n := bne_eq_false_iff_eq.mpr c1; try simp only [c1b, c1n, nrm]
    refine w_cond rfl (fun _ => ?_) (fun h => Bool.noConfusion h)
    refine w_seq ?_
    refine wR fun K hK => ?_
    refine g_lda rfl rfl ag39 sz39 rfl rfl (Nat.le_of_ble_eq_true rfl) (gT ?_)
    refine g_st rfl rfl sz39 rfl rfl rfl (by rfl) (Nat.le_of_ble_eq_true rfl) (gU ?_)
    refine g_nil (hK _ _ _ ?_)
    refine k_seq ?_
    refine w_ret ?_
    refine fin_wp (τ := []) rfl (by decide) ?_; rw [← Option.some.inj H]; simp only [Tryd.f20, ag39, sz39, nrm, nrmw, nrmc, nrme, nrmo, nrml, nrmb, nrmx, Nat.reduceEqDiff, Nat.reduceBEq, Nat.zero_add, Nat.add_zero, Nat.mul_one, List.length_cons, List.length_nil, List.length_map, List.length_set, List.length_replicate, List.drop_zero, List.drop_succ_cons, List.drop_nil, List.take_zero, List.take_succ_cons, List.take_nil, Nat.le_refl, if_true, if_false, Option.any_none, Option.any_some, List.contains_nil, Bool.not_false, Bool.or_true, Bool.true_or, Bool.or_false, Bool.false_or, Bool.and_true, Bool.true_and, Bool.and_self, reduceCtorEq, beq_self_eq_true, List.map_cons, List.map_nil, List.append_nil, List.nil_append, List.contains_cons, List.filter_cons, List.filter_nil, List.cons_append, Bool.false_eq_true, true_and, and_true, List.getElem_toArray, List.getElem_cons_zero, List.getElem_cons_succ, Nat.reduceAdd, Nat.reduceMul, Nat.reduceLT, Nat.reduceSub, Nat.reduceLeDiff]; try (first | rfl | exact ⟨rfl, trivial⟩ | exact ⟨rfl, rfl⟩)
  · have c1b := beq_eq_false_iff_ne.mpr c1; have c1n := bne_iff_ne.mpr c1; try simp only [c1b, c1n, nrm]
    refine w_cond rfl (fun h => Bool.noConfusion h) (fun _ => ?_)
    refine w_skip ?_
    refine k_seq ?_
    refine w_seq ?_
    refine w_seq ?_
    refine wR fun K hK => ?_
    refine g_fd rfl rfl fa39_1 rfl (gT ?_)
    refine g_ldc rfl rfl ag37 sz37 rfl rfl rfl (gT ?_)
    refine g_len_r rfl rfl Tryd.underlying37 rfl (gT ?_)
    refine g_bin rfl rfl rfl rfl rfl (gT ?_)
    refine g_nil (hK _ _ _ ?_)
    refine k_seq ?_
    rcases its H with ⟨c2, H⟩ | ⟨c2, H⟩
    · have c2b := beq_iff_eq.mpr c2; have c2n := bne_eq_false_iff_eq.mpr c2; try simp only [c2b, c2n, nrm]
      refine w_cond rfl (fun _ => ?_) (fun h => Bool.noConfusion h)
      refine w_seq ?_
      refine wR fun K hK => ?_
      refine g_lda rfl rfl ag39 sz39 rfl rfl (Nat.le_of_ble_eq_true rfl) (gT ?_)
      refine g_st rfl rfl sz39 rfl rfl rfl (by rfl) (Nat.le_of_ble_eq_true rfl) (gU ?_)
      refine g_nil (hK _ _ _ ?_)
      refine k_seq ?_
      refine w_ret ?_
      refine fin_wp (τ := []) rfl (by decide) ?_; rw [← Option.some.inj H]; simp only [Tryd.f20, ag39, sz39, nrm, nrmw, nrmc, nrme, nrmo, nrml, nrmb, nrmx, Nat.reduceEqDiff, Nat.reduceBEq, Nat.zero_add, Nat.add_zero, Nat.mul_one, List.length_cons, List.length_nil, List.length_map, List.length_set, List.length_replicate, List.drop_zero, List.drop_succ_cons, List.drop_nil, List.take_zero, List.take_succ_cons, List.take_nil, Nat.le_refl, if_true, if_false, Option.any_none, Option.any_some, List.contains_nil, Bool.not_false, Bool.or_true, Bool.true_or, Bool.or_false, Bool.false_or, Bool.and_true, Bool.true_and, Bool.and_self, reduceCtorEq, beq_self_eq_true, List.map_cons, List.map_nil, List.append_nil, List.nil_append, List.contains_cons, List.filter_cons, List.filter_nil, List.cons_append, Bool.false_eq_true, true_and, and_true, List.getElem_toArray, List.getElem_cons_zero, List.getElem_cons_succ, Nat.reduceAdd, Nat.reduceMul, Nat.reduceLT, Nat.reduceSub, Nat.reduceLeDiff]; try (first | rfl | exact ⟨rfl, trivial⟩ | exact ⟨rfl, rfl⟩)
    · have c2b := beq_eq_false_iff_ne.mpr c2; have c2n := bne_iff_ne.mpr c2; try simp only [c2b, c2n, nrm]
      refine w_cond rfl (fun h => Bool.noConfusion h) (fun _ => ?_)
      refine w_skip ?_
      refine k_seq ?_
      refine w_seq ?_
      refine wR fun K hK => ?_
      refine g_lda rfl rfl ag39 sz39 rfl rfl (Nat.le_of_ble_eq_true rfl) (gT ?_)
      refine g_lda rfl rfl ag39 sz39 rfl rfl (Nat.le_of_ble_eq_true rfl) (gT ?_)
      obtain ⟨q3, hq3, H⟩ := bnd H
      refine g_cs [] rfl rfl (by rfl) Tryd.func34 rfl (by decide) (dyad_line.does hq3) ⟨Nat.le_of_ble_eq_true rfl, Nat.le_of_ble_eq_true rfl⟩ ?_; refine gC ?_
      refine g_mv rfl rfl (gT ?_)
      refine g_ext rfl rfl rfl (Nat.le_of_ble_eq_true rfl) (gT ?_)
      refine g_ext rfl rfl rfl (Nat.le_of_ble_eq_true rfl) (gT ?_)
      refine g_ext rfl rfl rfl (Nat.le_of_ble_eq_true rfl) (gT ?_)
      refine g_as rfl rfl (gT ?_)
      refine g_as rfl rfl (gT ?_)
      refine g_as rfl rfl (gT ?_)
      refine g_nil (hK _ _ _ ?_)
      refine k_seq ?_
      refine w_seq ?_
      refine w_seq ?_
      refine wR fun K hK => ?_
      refine g_fd rfl rfl fa39_0 rfl (gT ?_)
      refine g_ldc rfl rfl ag4 sz4 rfl rfl rfl (gT ?_)
      refine g_fd rfl rfl fa39_0 rfl (gT ?_)
      refine g_ldc rfl rfl ag4 sz4 rfl rfl rfl (gT ?_)
      refine g_eqb rfl rfl Tryd.underlying4 rfl rfl (gT ?_)
      refine g_nil (hK _ _ _ ?_)
      refine k_seq ?_
      rcases its H with ⟨c4, H⟩ | ⟨c4, H⟩
      · have c4b : (a0_0 == a1_0) = true := c4; try simp only [c4b, nrm]
        refine w_cond rfl (fun _ => ?_) (fun h => Bool.noConfusion h)
        refine w_seq ?_
        refine w_seq ?_
        refine wR fun K hK => ?_
        refine g_mv rfl rfl (gT ?_)
        refine g_len_r rfl rfl Tryd.underlying37 rfl (gT ?_)
        refine g_mv rfl rfl (gT ?_)
        refine g_len_r rfl rfl Tryd.underlying37 rfl (gT ?_)
        refine g_bin rfl rfl rfl rfl rfl (gT ?_)
        refine g_nil (hK _ _ _ ?_)
        refine k_seq ?_
        rcases its H with ⟨c5, H⟩ | ⟨c5, H⟩
        · have c5b := decide_eq_true c5; try simp only [c5b, nrm]
          refine w_cond rfl (fun _ => ?_) (fun h => Bool.noConfusion h)
          refine wR fun K hK => ?_
          refine g_mv rfl rfl (gT ?_)
          refine g_mv rfl rfl (gT ?_)
          refine g_as rfl rfl (gT ?_)
          refine g_as rfl rfl (gT ?_)
          refine g_nil (hK _ _ _ ?_)
          refine k_wk (σ := [0, 8]) [2, 1, 0, 0, 0] rfl (by decide) rfl ?_; refine gC ?_
          exact gI (ih0 q3.2.1 q3.1 q3.2.2 a0_0 l0_1 a0_2 0 r H)
        · have c5b := decide_eq_false c5; try simp only [c5b, nrm]
          refine w_cond rfl (fun h => Bool.noConfusion h) (fun _ => ?_)
          refine w_skip ?_
          refine k_wk (σ := [0, 8]) [2, 1, 0, 0, 0] rfl (by decide) rfl ?_; refine gC ?_
          exact gI (ih0 q3.1 q3.2.1 q3.2.2 a0_0 l0_1 a0_2 0 r H)
      · have c4b : (a0_0 == a1_0) = false := Bool.eq_false_iff.mpr c4; try simp only [c4b, nrm]
        refine w_cond rfl (fun h => Bool.noConfusion h) (fun _ => ?_)
        refine w_skip ?_
        refine k_seq ?_
        refine w_seq ?_
        refine wR fun K hK => ?_
        refine g_fd rfl rfl fa39_0 rfl (gT ?_)
        refine g_ldc rfl rfl ag4 sz4 rfl rfl rfl (gT ?_)
        refine g_as rfl rfl (gT ?_)
        refine g_nil (hK _ _ _ ?_)
        refine k_seq ?_
        refine w_seq ?_
        refine w_seq ?_
        refine wR fun K hK => ?_
        refine g_mv rfl rfl (gT ?_)
        refine g_mv rfl rfl (gT ?_)
        obtain ⟨q6, hq6, H⟩ := bnd H
        refine g_cs [] rfl rfl (by rfl) Tryd.func35 rfl (by decide) (dyad_cmp.does hq6) ⟨Nat.le_of_ble_eq_true rfl, Nat.le_of_ble_eq_true rfl⟩ ?_; refine gC ?_
        refine g_nil (hK _ _ _ ?_)
        refine k_seq ?_
        refine w_block ?_
        refine w_seq ?_
        refine wR fun K hK => ?_
        refine g_bin rfl rfl rfl rfl rfl (gT ?_)
        refine g_as rfl rfl (gT ?_)
        refine g_nil (hK _ _ _ ?_)
        refine k_seq ?_
        rcases its H with ⟨c7, H⟩ | ⟨c7, H⟩
        · have c7b := beq_iff_eq.mpr c7; have c7n := bne_eq_false_iff_eq.mpr c7; try simp only [c7b, c7n, nrm]
          refine w_cond rfl (fun _ => ?_) (fun h => Bool.noConfusion h)
          refine w_seq ?_
          refine wR fun K hK => ?_
          refine g_bd rfl rfl zr39 Tryd.underlying39 (pl := [(0, 1), (1, 1), (2, 1)]) (by kernel_rfl) ?_; refine gB ?_
          refine g_st rfl rfl sz39 rfl rfl rfl (by rfl) (Nat.le_of_ble_eq_true rfl) (gU ?_)
          refine g_nil (hK _ _ _ ?_)
          refine k_seq ?_
          refine w_ret ?_
          refine fin_wp (τ := []) rfl (by decide) ?_; rw [← Option.some.inj H]; simp only [Tryd.f20, ag39, sz39, nrm, nrmw, nrmc, nrme, nrmo, nrml, nrmb, nrmx, Nat.reduceEqDiff, Nat.reduceBEq, Nat.zero_add, Nat.add_zero, Nat.mul_one, List.length_cons, List.length_nil, List.length_map, List.length_set, List.length_replicate, List.drop_zero, List.drop_succ_cons, List.drop_nil, List.take_zero, List.take_succ_cons, List.take_nil, Nat.le_refl, if_true, if_false, Option.any_none, Option.any_some, List.contains_nil, Bool.not_false, Bool.or_true, Bool.true_or, Bool.or_false, Bool.false_or, Bool.and_true, Bool.true_and, Bool.and_self, reduceCtorEq, beq_self_eq_true, List.map_cons, List.map_nil, List.append_nil, List.nil_append, List.contains_cons, List.filter_cons, List.filter_nil, List.cons_append, Bool.false_eq_true, true_and, and_true, List.getElem_toArray, List.getElem_cons_zero, List.getElem_cons_succ, Nat.reduceAdd, Nat.reduceMul, Nat.reduceLT, Nat.reduceSub, Nat.reduceLeDiff]; try (first | rfl | exact ⟨rfl, trivial⟩ | exact ⟨rfl, rfl⟩)
        · have c7b := beq_eq_false_iff_ne.mpr c7; have c7n := bne_iff_ne.mpr c7; try simp only [c7b, c7n, nrm]
          refine w_cond rfl (fun h => Bool.noConfusion h) (fun _ => ?_)
          refine w_seq ?_
          refine wR fun K hK => ?_
          refine g_bin rfl rfl rfl rfl rfl (gT ?_)
          refine g_as rfl rfl (gT ?_)
          refine g_nil (hK _ _ _ ?_)
          refine k_seq ?_
          rcases its H with ⟨c8, H⟩ | ⟨c8, H⟩
          · have c8b := beq_iff_eq.mpr c8; have c8n := bne_eq_false_iff_eq.mpr c8; try simp only [c8b, c8n, nrm]
            refine w_cond rfl (fun _ => ?_) (fun h => Bool.noConfusion h)
            refine wD fun K hK => ?_
            refine g_mv rfl rfl (gT ?_)
            refine g_mv rfl rfl (gT ?_)
            refine g_fd rfl rfl fa39_0 rfl (gT ?_)
            refine g_ldc rfl rfl ag4 sz4 rfl rfl rfl (gT ?_)
            refine g_as rfl rfl (gT ?_)
            refine g_as rfl rfl (gT ?_)
            refine g_as rfl rfl (gT ?_)
            refine g_nil (hK _ _ _ (by kernel_rfl) ?_)
            refine k_block ?_
            refine k_wk (σ := [8]) [4, 0, 0, 0, 3] rfl (by decide) rfl ?_; refine gC ?_
            exact gI (ih2 q3.2.1 q3.1 q3.2.2 a1_0 0 r H)
          · have c8b := beq_eq_false_iff_ne.mpr c8; have c8n := bne_iff_ne.mpr c8; try simp only [c8b, c8n, nrm]
            refine w_cond rfl (fun h => Bool.noConfusion h) (fun _ => ?_)
            refine w_skip ?_
            refine k_block ?_
            refine k_wk (σ := [8]) [4, 0, 0, 0, 3] rfl (by decide) rfl ?_; refine gC ?_
            exact gI (ih2 q3.1 q3.2.1 q3.2.2 a0_0 0 r H)

set_option maxHeartbeats 8000000 in
set_option maxRecDepth 100000 in
theorem gimballaw16_BalVectors.does_l {a0 : Int} {l1 : List Int} {a2 : Int} {l3 : List Int} (k : Nat) : (∀ (n_0 : Int) (all_1 : List Int) (holes_2 : Int) (v_3 : List Int) (t_32 : Bool) (r : Bool), gimballaw16_BalVectors.j0 k n_0 all_1 holes_2 v_3 t_32 = some r → kont E0 (gimballaw16_BalVectors.Q a0 l1 a2 l3 r) (frs (bodyOf Tryd.f4) [1, 1, 0, 0] []) .normal ⟨[.i .i64 n_0, .r (all_1.map (V.i .u64)) all_1.length true, .i .u64 holes_2, .r (v_3.map (V.i .u64)) v_3.length true, .u, .u, .u, .u, .u, .u, .u, .u, .u, .u, .u, .u, .u, .u, .u, .u, .u, .u, .u, .u, .u, .u, .u, .u, .u, .u, .u, .u, .b t_32, .u, .u, .u, .u, .u, .u, .u, .u, .u, .u, .u, .u, .u, .u, .u, .u, .u, .u, .u, .u, .u, .u, .u, .u, .u, .u, .u, .u, .u, .u, .u, .u, .u, .u, .u, .u, .u, .u, .u, .u, .u, .u, .u, .u, .u, .u, .u, .u, .u, .u, .u, .u, .u, .u, .u, .u, .u, .u, .u, .u, .u, .u, .u, .u, .u, .u, .u, .u, .u, .u, .u, .u, .u, .u, .u, .u, .u, .u, .u, .u, .u, .u, .u, .u, .u, .u, .u, .u, .u, .u, .u, .u, .u, .u, .u, .u, .u, .u, .u, .u, .u, .u, .u, .u, .u], ofL [], 0, 0⟩) ∧
    (∀ (n_0 : Int) (v_3 : List Int) (h3 : List Int) (i_14 : Int) (h0_0 : Int) (h0_1 : Int) (h0_2 : Int) (h1_0 : Int) (h1_1 : Int) (h1_2 : Int) (h2_0 : Int) (h2_1 : Int) (h4 : List Int) (h5 : List Int) (h6 : List Int) (h7 : List Int) (r : Bool), gimballaw16_BalVectors.l0 k n_0 v_3 h3 i_14 h0_0 h0_1 h0_2 h1_0 h1_1 h1_2 h2_0 h2_1 h4 h5 h6 h7 = some r → wk_ E0 (gimballaw16_BalVectors.Q a0 l1 a2 l3 r) (frs (bodyOf Tryd.f4) [1, 1, 1, 1, 1, 1, 1, 1, 0, 1, 0] []) (sub (bodyOf Tryd.f4) [1, 1, 1, 1, 1, 1, 1, 1, 0, 1, 0]) ⟨[.i .i64 n_0, .u, .u, .r (v_3.map (V.i .u64)) v_3.length true, .u, .u, .u, .u, .u, .p (some (0, 0)), .p (some (1, 0)), .p (some (2, 0)), .u, .s (some (3, 0)) h3.length, .i .i64 i_14, .u, .u, .u, .u, .u, .u, .u, .u, .u, .u, .u, .u, .u, .u, .u, .u, .u, .u, .u, .u, .u, .u, .u, .u, .u, .u, .u, .u, .u, .u, .u, .u, .u, .u, .u, .u, .u, .u, .u, .u, .u, .u, .u, .u, .u, .u, .u, .u, .u, .u, .u, .u, .u, .u, .u, .u, .u, .u, .u, .u, .u, .u, .u, .u, .u, .u, .u, .u, .u, .u, .u, .u, .u, .u, .u, .u, .u, .u, .u, .u, .u, .u, .u, .u, .u, .u, .u, .u, .u, .u, .u, .u, .u, .u, .u, .u, .u, .u, .u, .u, .u, .u, .u, .u, .u, .u, .u, .u, .u, .u, .u, .u, .u, .u, .u, .u, .u, .u, .u, .u, .u, .u, .u], ofL [.row [.i .i64 h0_0, .i .i64 h0_1, .i .i64 h0_2, .s (some (4, 0)) h4.length] 0 0 true true none, .row [.i .i64 h1_0, .i .i64 h1_1, .i .i64 h1_2, .s (some (5, 0)) h5.length] 0 0 true true none, .row [.s (some (6, 0)) h6.length, .s (some (7, 0)) h7.length, .i .i64 h2_0, .i .i64 h2_1] 0 0 true true none, .row (h3.map (V.i .u64)) 2 1 true true none, .row (h4.map (V.i .u64)) 2 1 true true none, .row (h5.map (V.i .u64)) 2 1 true true none, .row (h6.map (V.i .i64)) 2 1 true true none, .row (h7.map (V.i .i64)) 2 1 true true none], 8, 0⟩) ∧
    (∀ (n_0 : Int) (h3 : List Int) (h4 : List Int) (g_18 : Int) (t_82 : Bool) (h0_0 : Int) (h0_1 : Int) (h0_2 : Int) (h1_0 : Int) (h1_1 : Int) (h1_2 : Int) (h2_0 : Int) (h2_1 : Int) (h5 : List Int) (h6 : List Int) (h7 : List Int) (h8 : List Int) (r : Bool), gimballaw16_BalVectors.j2 k n_0 h3 h4 g_18 t_82 h0_0 h0_1 h0_2 h1_0 h1_1 h1_2 h5 h6 h7 h8 = some r → kont E0 (gimballaw16_BalVectors.Q a0 l1 a2 l3 r) (frs (bodyOf Tryd.f4) [1, 1, 1, 1, 1, 1, 1, 1, 1, 1, 0, 0] []) .normal ⟨[.i .i64 n_0, .u, .u, .u, .u, .u, .u, .u, .u, .p (some (0, 0)), .p (some (1, 0)), .p (some (2, 0)), .u, .s (some (3, 0)) h3.length, .u, .u, .s (some (4, 0)) h4.length, .u, .i .i64 g_18, .u, .u, .u, .u, .u, .u, .u, .u, .u, .u, .u, .u, .u, .u, .u, .u, .u, .u, .u, .u, .u, .u, .u, .u, .u, .u, .u, .u, .u, .u, .u, .u, .u, .u, .u, .u, .u, .u, .u, .u, .u, .u, .u, .u, .u, .u, .u, .u, .u, .u, .u, .u, .u, .u, .u, .u, .u, .u, .u, .u, .u, .u, .u, .b t_82, .u, .u, .u, .u, .u, .u, .u, .u, .u, .u, .u, .u, .u, .u, .u, .u, .u, .u, .u, .u, .u, .u, .u, .u, .u, .u, .u, .u, .u, .u, .u, .u, .u, .u, .u, .u, .u, .u, .u, .u, .u, .u, .u, .u, .u, .u, .u, .u, .u, .u, .u, .u, .u, .u, .u], ofL [.row [.i .i64 h0_0, .i .i64 h0_1, .i .i64 h0_2, .s (some (5, 0)) h5.length] 0 0 true true none, .row [.i .i64 h1_0, .i .i64 h1_1, .i .i64 h1_2, .s (some (6, 0)) h6.length] 0 0 true true none, .row [.s (some (7, 0)) h7.length, .s (some (8, 0)) h8.length, .i .i64 h2_0, .i .i64 h2_1] 0 0 true true none, .row (h3.map (V.i .u64)) 2 1 true true none, .row (h4.map (V.i .u64)) 2 1 true true none, .row (h5.map (V.i .u64)) 2 1 true true none, .row (h6.map (V.i .u64)) 2 1 true true none, .row (h7.map (V.i .i64)) 2 1 true true none, .row (h8.map (V.i .i64)) 2 1 true true none], 9, 0⟩) ∧
    (∀ (n_0 : Int) (h3 : List Int) (h4 : List Int) (i_19 : Int) (h0_0 : Int) (h0_1 : Int) (h0_2 : Int) (h1_0 : Int) (h1_1 : Int) (h1_2 : Int) (h2_0 : Int) (h2_1 : Int) (h5 : List Int) (h6 : List Int) (h7 : List Int) (h8 : List Int) (r : Bool), gimballaw16_BalVectors.l1 k n_0 h3 h4 i_19 h0_0 h0_1 h0_2 h1_0 h1_1 h1_2 h5 h6 h7 h8 = some r → wk_ E0 (gimballaw16_BalVectors.Q a0 l1 a2 l3 r) (frs (bodyOf Tryd.f4) [1, 1, 1, 1, 1, 1, 1, 1, 1, 1, 1, 0, 1, 0] []) (sub (bodyOf Tryd.f4) [1, 1, 1, 1, 1, 1, 1, 1, 1, 1, 1, 0, 1, 0]) ⟨[.i .i64 n_0, .u, .u, .u, .u, .u, .u, .u, .u, .p (some (0, 0)), .p (some (1, 0)), .p (some (2, 0)), .u, .s (some (3, 0)) h3.length, .u, .u, .s (some (4, 0)) h4.length, .u, .u, .i .i64 i_19, .u, .u, .u, .u, .u, .u, .u, .u, .u, .u, .u, .u, .u, .u, .u, .u, .u, .u, .u, .u, .u, .u, .u, .u, .u, .u, .u, .u, .u, .u, .u, .u, .u, .u, .u, .u, .u, .u, .u, .u, .u, .u, .u, .u, .u, .u, .u, .u, .u, .u, .u, .u, .u, .u, .u, .u, .u, .u, .u, .u, .u, .u, .u, .u, .u, .u, .u, .u, .u, .u, .u, .u, .u, .u, .u, .u, .u, .u, .u, .u, .u, .u, .u, .u, .u, .u, .u, .u, .u, .u, .u, .u, .u, .u, .u, .u, .u, .u, .u, .u, .u, .u, .u, .u, .u, .u, .u, .u, .u, .u, .u, .u, .u, .u, .u, .u, .u, .u], ofL [.row [.i .i64 h0_0, .i .i64 h0_1, .i .i64 h0_2, .s (some (5, 0)) h5.length] 0 0 true true none, .row [.i .i64 h1_0, .i .i64 h1_1, .i .i64 h1_2, .s (some (6, 0)) h6.length] 0 0 true true none, .row [.s (some (7, 0)) h7.length, .s (some (8, 0)) h8.length, .i .i64 h2_0, .i .i64 h2_1] 0 0 true true none, .row (h3.map (V.i .u64)) 2 1 true true none, .row (h4.map (V.i .u64)) 2 1 true true none, .row (h5.map (V.i .u64)) 2 1 true true none, .row (h6.map (V.i .u64)) 2 1 true true none, .row (h7.map (V.i .i64)) 2 1 true true none, .row (h8.map (V.i .i64)) 2 1 true true none], 9, 0⟩) ∧
    (∀ (n_0 : Int) (h3 : List Int) (h4 : List Int) (i_19 : Int) (k_22 : Int) (h0_0 : Int) (h0_1 : Int) (h0_2 : Int) (h1_0 : Int) (h1_1 : Int) (h1_2 : Int) (h2_0 : Int) (h2_1 : Int) (h5_0 : Bool) (h5_1 : List Int) (h5_2 : Int) (h6_0 : Bool) (h6_1 : List Int) (h6_2 : Int) (h7 : List Int) (h8 : List Int) (h9 : List Int) (h10 : List Int) (r : Bool), gimballaw16_BalVectors.l2 k n_0 h3 h4 i_19 k_22 h0_0 h0_1 h0_2 h1_0 h1_1 h1_2 h5_0 h5_1 h5_2 h6_0 h6_1 h6_2 h7 h8 h9 h10 = some r → wk_ E0 (gimballaw16_BalVectors.Q a0 l1 a2 l3 r) (frs (bodyOf Tryd.f4) [1, 1, 1, 1, 1, 1, 1, 1, 1, 1, 1, 0, 1, 0, 0, 1, 0, 0, 1, 1, 0, 1, 0] []) (sub (bodyOf Tryd.f4) [1, 1, 1, 1, 1, 1, 1, 1, 1, 1, 1, 0, 1, 0, 0, 1, 0, 0, 1, 1, 0, 1, 0]) ⟨[.i .i64 n_0, .u, .u, .u, .u, .u, .u, .u, .u, .p (some (0, 0)), .p (some (1, 0)), .p (some (2, 0)), .u, .s (some (3, 0)) h3.length, .u, .u, .s (some (4, 0)) h4.length, .u, .u, .i .i64 i_19, .p (some (5, 0)), .p (some (6, 0)), .i .i64 k_22, .u, .u, .u, .u, .u, .u, .u, .u, .u, .u, .u, .u, .u, .u, .u, .u, .u, .u, .u, .u, .u, .u, .u, .u, .u, .u, .u, .u, .u, .u, .u, .u, .u, .u, .u, .u, .u, .u, .u, .u, .u, .u, .u, .u, .u, .u, .u, .u, .u, .u, .u, .u, .u, .u, .u, .u, .u, .u, .u, .u, .u, .u, .u, .u, .u, .u, .u, .u, .u, .u, .u, .u, .u, .u, .u, .u, .u, .u, .u, .u, .u, .u, .u, .u, .u, .u, .u, .u, .u, .u, .u, .u, .u, .u, .u, .u, .u, .u, .u, .u, .u, .u, .u, .u, .u, .u, .u, .u, .u, .u, .u, .u, .u, .u, .u], ofL [.row [.i .i64 h0_0, .i .i64 h0_1, .i .i64 h0_2, .s (some (7, 0)) h7.length] 0 0 true true none, .row [.i .i64 h1_0, .i .i64 h1_1, .i .i64 h1_2, .s (some (8, 0)) h8.length] 0 0 true true none, .row [.s (some (9, 0)) h9.length, .s (some (10, 0)) h10.length, .i .i64 h2_0, .i .i64 h2_1] 0 0 true true none, .row (h3.map (V.i .u64)) 2 1 true true none, .row (h4.map (V.i .u64)) 2 1 true true none, .row [.b h5_0, .r (h5_1.map (V.i .u32)) h5_1.length true, .i .i64 h5_2] 0 0 true true none, .row [.b h6_0, .r (h6_1.map (V.i .u32)) h6_1.length true, .i .i64 h6_2] 0 0 true true none, .row (h7.map (V.i .u64)) 2 1 true true none, .row (h8.map (V.i .u64)) 2 1 true true none, .row (h9.map (V.i .i64)) 2 1 true true none, .row (h10.map (V.i .i64)) 2 1 true true none], 11, 0⟩) := by
  induction k with
  | zero => exact ⟨fun _ _ _ _ _ r h => by simp [gimballaw16_BalVectors.j0] at h, fun _ _ _ _ _ _ _ _ _ _ _ _ _ _ _ _ r h => by simp [gimballaw16_BalVectors.l0] at h, fun _ _ _ _ _ _ _ _ _ _ _ _ _ _ _ _ _ r h => by simp [gimballaw16_BalVectors.j2] at h, fun _ _ _ _ _ _ _ _ _ _ _ _ _ _ _ _ r h => by simp [gimballaw16_BalVectors.l1] at h, fun _ _ _ _ _ _ _ _ _ _ _ _ _ _ _ _ _ _ _ _ _ _ _ r h => by simp [gimballaw16_BalVectors.l2] at h⟩
  | succ k ih =>
    obtain ⟨ih0, ih1, ih2, ih3, ih4⟩ := ih
    refine ⟨?_, ?_, ?_, ?_, ?_⟩
    · intro n_0 all_1 holes_2 v_3 t_32 r H
      unfold gimballaw16_BalVectors.j0 at H
      simp only [bodyOf, Tryd.f4, frs, sub, if_true, if_false, Nat.one_ne_zero]
      refine k_seq ?_
      rcases its H with ⟨c3, H⟩ | ⟨c3, H⟩
      · have c3b : t_32 = true := c3; try simp only [c3b, nrm]
        refine w_cond rfl (fun _ => ?_) (fun h => Bool.noConfusion h)
        refine w_seq ?_
        refine wR fun K hK => ?_
        refine g_as rfl rfl (gT ?_)
        refine g_nil (hK _ _ _ ?_)
        refine k_seq ?_
        refine w_ret ?_
        refine fin_wp (τ := []) rfl (by decide) ?_; rw [← Option.some.inj H]; simp only [Tryd.f4]; exact gF
      · have c3b : t_32 = false := Bool.eq_false_iff.mpr c3; try simp only [c3b, nrm]
        refine w_cond rfl (fun h => Bool.noConfusion h) (fun _ => ?_)
        refine w_skip ?_
        refine k_seq ?_
        refine w_seq ?_
        refine wR fun K hK => ?_
        refine g_mv rfl rfl (gT ?_)
        refine g_bin rfl rfl rfl rfl rfl (gT ?_)
        refine g_as rfl rfl (gT ?_)
        refine g_nil (hK _ _ _ ?_)
        refine k_seq ?_
        refine w_seq ?_
        refine wR fun K hK => ?_
        refine g_mv rfl rfl (gT ?_)
        refine g_mv rfl rfl (gT ?_)
        refine g_mv rfl rfl (gT ?_)
        obtain ⟨q4, hq4, H⟩ := bnd H
        refine g_cs [] rfl rfl (by rfl) Tryd.func6 rfl (by decide) (gimballaw16_made.does hq4) ⟨Nat.le_of_ble_eq_true rfl, Nat.le_of_ble_eq_true rfl⟩ ?_; refine gC ?_
        refine g_alloc rfl rfl zr26 (gU ?_)
        refine g_st rfl rfl sz26 rfl rfl rfl (by rfl) (Nat.le_of_ble_eq_true rfl) (gU ?_)
        refine g_nil (hK _ _ _ ?_)
        refine k_seq ?_
        refine w_seq ?_
        refine wR fun K hK => ?_
        refine g_lda rfl rfl ag26 sz26 rfl rfl (Nat.le_of_ble_eq_true rfl) (gT ?_)
        obtain ⟨q5, hq5, H⟩ := bnd H
        refine g_cs [] rfl rfl (by rfl) Tryd.func8 rfl (by decide) (bal_Of.does hq5) ⟨Nat.le_of_ble_eq_true rfl, Nat.le_of_ble_eq_true rfl⟩ ?_; refine gC ?_
        refine g_mv rfl rfl (gT ?_)
        refine g_ext rfl rfl rfl (Nat.le_of_ble_eq_true rfl) (gT ?_)
        refine g_ext rfl rfl rfl (Nat.le_of_ble_eq_true rfl) (gT ?_)
        refine g_ext rfl rfl rfl (Nat.le_of_ble_eq_true rfl) (gT ?_)
        refine g_alloc rfl rfl zr26 (gU ?_)
        refine g_alloc rfl rfl zr31 (gU ?_)
        refine g_st rfl rfl sz26 rfl rfl rfl (by rfl) (Nat.le_of_ble_eq_true rfl) (gU ?_)
        refine g_st rfl rfl sz31 rfl rfl rfl (by rfl) (Nat.le_of_ble_eq_true rfl) (gU ?_)
        refine g_as rfl rfl (gT ?_)
        refine g_nil (hK _ _ _ ?_)
        refine k_seq ?_
        refine w_seq ?_
        refine w_seq ?_
        refine wR fun K hK => ?_
        refine g_mv rfl rfl (gT ?_)
        refine g_bin rfl rfl rfl rfl rfl (gT ?_)
        refine g_nil (hK _ _ _ ?_)
        refine k_seq ?_
        rcases its H with ⟨c6, H⟩ | ⟨c6, H⟩
        · have c6b := beq_iff_eq.mpr c6; have c6n := bne_eq_false_iff_eq.mpr c6; try simp only [c6b, c6n, nrm]
          refine w_cond rfl (fun h => Bool.noConfusion h) (fun _ => ?_)
          refine w_skip ?_
          refine k_seq ?_
          refine w_seq ?_
          refine wR fun K hK => ?_
          refine g_bsl (k := .u64) (xs := []) rfl rfl Tryd.underlying22 sz23 zr23 (by decide) rfl rfl rfl (gU ?_)
          refine g_as rfl rfl (gT ?_)
          refine g_nil (hK _ _ _ ?_)
          refine k_seq ?_
          refine w_seq ?_
          refine w_seq ?_
          refine wR fun K hK => ?_
          refine g_as rfl rfl (gT ?_)
          refine g_nil (hK _ _ _ ?_)
          refine k_seq ?_
          refine w_block ?_
          refine w_wk (σ := [28, 60, 64, 88, 24, 40, 41, 42]) [0, 2, 5, 0, 0, 1, 0] rfl (by decide) ?_; refine gC ?_
          exact gI (ih1 (Go.bits .and .i64 n_0 7) v_3 ([] : List Int) 0 q4.1 q4.2.1 q4.2.2.1 q5.1 q5.2.1 q5.2.2.1 q5.2.2.2.2.2.2.1 q5.2.2.2.2.2.2.2.1 q4.2.2.2 q5.2.2.2.1 q5.2.2.2.2.1 q5.2.2.2.2.2.1 r H)
        · have c6b := beq_eq_false_iff_ne.mpr c6; have c6n := bne_iff_ne.mpr c6; try simp only [c6b, c6n, nrm]
          refine w_cond rfl (fun _ => ?_) (fun h => Bool.noConfusion h)
          refine w_seq ?_
          refine wR fun K hK => ?_
          refine g_as rfl rfl (gT ?_)
          refine g_nil (hK _ _ _ ?_)
          refine k_seq ?_
          refine w_ret ?_
          refine fin_wp (τ := []) rfl (by decide) ?_; rw [← Option.some.inj H]; simp only [Tryd.f4]; exact gF
    · intro n_0 v_3 h3 i_14 h0_0 h0_1 h0_2 h1_0 h1_1 h1_2 h2_0 h2_1 h4 h5 h6 h7 r H
      unfold gimballaw16_BalVectors.l0 at H
      simp only [bodyOf, Tryd.f4, frs, sub, if_true, if_false, Nat.one_ne_zero]
      refine w_loop ?_
      refine w_seq ?_
      refine w_seq ?_
      refine wR fun K hK => ?_
      refine g_mv rfl rfl (gT ?_)
      refine g_mv rfl rfl (gT ?_)
      refine g_bin rfl rfl rfl rfl rfl (gT ?_)
      refine g_nil (hK _ _ _ ?_)
      refine k_seq ?_
      rcases its H with ⟨c7, H⟩ | ⟨c7, H⟩
      · have c7b := decide_eq_true c7; try simp only [c7b, nrm]
        refine w_cond rfl (fun _ => ?_) (fun h => Bool.noConfusion h)
        refine w_skip ?_
        refine k_seq ?_
        refine w_seq ?_
        refine w_block ?_
        refine w_seq ?_
        refine wR fun K hK => ?_
        refine g_as rfl rfl (gT ?_)
        refine g_nil (hK _ _ _ ?_)
        refine k_seq ?_
        refine w_seq ?_
        refine w_seq ?_
        refine wR fun K hK => ?_
        refine g_mv rfl rfl (gT ?_)
        refine g_len_r rfl rfl Tryd.underlying22 rfl (gT ?_)
        refine g_bin rfl rfl rfl rfl rfl (gT ?_)
        refine g_nil (hK _ _ _ ?_)
        refine k_seq ?_
        rcases its H with ⟨c8, H⟩ | ⟨c8, H⟩
        · have c8b := decide_eq_true c8; try simp only [c8b, nrm]
          refine w_cond rfl (fun _ => ?_) (fun h => Bool.noConfusion h)
          refine wR fun K hK => ?_
          refine g_mv rfl rfl (gT ?_)
          refine g_mv rfl rfl (gT ?_)
          refine g_mv rfl rfl (gT ?_)
          refine g_len_r rfl rfl Tryd.underlying22 rfl (gT ?_)
          obtain ⟨c9, H⟩ := it0 H
          refine g_rem rfl rfl rfl rfl (by first | assumption | omega) (gT ?_)
          obtain ⟨c10, H⟩ := it1 H
          obtain ⟨c11, H⟩ := it1 H
          refine g_ixr rfl rfl Tryd.underlying22 sz23 rfl rfl (by first | assumption | omega) (by first | assumption | omega | (simp only [List.length_set, List.length_replicate] at *; omega)) (gT ?_)
          refine g_ldq rfl rfl ag23 sz23 rfl (by first | assumption | omega) (gT ?_)
          refine g_as rfl rfl (gT ?_)
          refine g_nil (hK _ _ _ ?_)
          refine k_seq ?_
          refine w_seq ?_
          refine w_seq ?_
          refine wR fun K hK => ?_
          refine g_mv rfl rfl (gT ?_)
          obtain ⟨q12, hq12, H⟩ := bnd H
          refine g_cs [] rfl rfl (by rfl) Tryd.func13 rfl (by decide) (word_Finite.does hq12) ⟨Nat.le_of_ble_eq_true rfl, Nat.le_of_ble_eq_true rfl⟩ ?_; refine gC ?_
          refine g_un rfl rfl rfl rfl (gT ?_)
          refine g_nil (hK _ _ _ ?_)
          refine k_seq ?_
          rcases its H with ⟨c13, H⟩ | ⟨c13, H⟩
          · have c13b : q12 = true := c13; try simp only [c13b, nrm]
            refine w_cond rfl (fun h => Bool.noConfusion h) (fun _ => ?_)
            refine w_skip ?_
            refine k_seq ?_
            refine wR fun K hK => ?_
            refine g_mv rfl rfl (gT ?_)
            refine g_mv rfl rfl (gT ?_)
            refine g_bsl (k := .u64) (xs := [(rd v_3 (Int.tmod i_14 (v_3.length : Int)))]) rfl rfl Tryd.underlying22 sz23 zr23 (by decide) rfl rfl rfl (gU ?_)
            obtain ⟨c14, H⟩ := it1 H
            refine g_aps rfl rfl Tryd.underlying22 Tryd.underlying22 sz23 by23 zr23 rfl rfl rfl rfl rfl rfl (by unfold limit; omega) (by omega) ?_; refine gN ?_
            refine g_as rfl rfl (gT ?_)
            refine g_nil (hK _ _ _ ?_)
            refine k_block ?_
            refine k_seq ?_
            refine wR fun K hK => ?_
            refine g_mv rfl rfl (gT ?_)
            refine g_bin rfl rfl rfl rfl rfl (gT ?_)
            refine g_as rfl rfl (gT ?_)
            refine g_nil (hK _ _ _ ?_)
            refine k_loop ?_
            refine w_wk (σ := [0, 1, 2, 92, 4, 5, 6, 7]) [0, 2, 5, 0, 0, 1, 0] rfl (by decide) ?_; refine gC ?_
            exact gI (ih1 n_0 v_3 (h3 ++ ([(rd v_3 (Int.tmod i_14 (v_3.length : Int)))] : List Int)) (wrap64 (i_14 + 1)) h0_0 h0_1 h0_2 h1_0 h1_1 h1_2 h2_0 h2_1 h4 h5 h6 h7 r H)
          · have c13b : q12 = false := Bool.eq_false_iff.mpr c13; try simp only [c13b, nrm]
            refine w_cond rfl (fun _ => ?_) (fun h => Bool.noConfusion h)
            refine w_seq ?_
            refine wR fun K hK => ?_
            refine g_as rfl rfl (gT ?_)
            refine g_nil (hK _ _ _ ?_)
            refine k_seq ?_
            refine w_ret ?_
            refine fin_wp (τ := []) rfl (by decide) ?_; rw [← Option.some.inj H]; simp only [Tryd.f4]; exact gF
        · have c8b := decide_eq_false c8; try simp only [c8b, nrm]
          refine w_cond rfl (fun h => Bool.noConfusion h) (fun _ => ?_)
          refine w_skip ?_
          refine k_seq ?_
          refine w_seq ?_
          refine w_seq ?_
          refine wR fun K hK => ?_
          refine g_mv rfl rfl (gT ?_)
          obtain ⟨q15, hq15, H⟩ := bnd H
          refine g_cs [] rfl rfl (by rfl) Tryd.func13 rfl (by decide) (word_Finite.does hq15) ⟨Nat.le_of_ble_eq_true rfl, Nat.le_of_ble_eq_true rfl⟩ ?_; refine gC ?_
          refine g_un rfl rfl rfl rfl (gT ?_)
          refine g_nil (hK _ _ _ ?_)
          refine k_seq ?_
          rcases its H with ⟨c16, H⟩ | ⟨c16, H⟩
          · have c16b : q15 = true := c16; try simp only [c16b, nrm]
            refine w_cond rfl (fun h => Bool.noConfusion h) (fun _ => ?_)
            refine w_skip ?_
            refine k_seq ?_
            refine wR fun K hK => ?_
            refine g_mv rfl rfl (gT ?_)
            refine g_mv rfl rfl (gT ?_)
            refine g_bsl (k := .u64) (xs := [4607182418800017408]) rfl rfl Tryd.underlying22 sz23 zr23 (by decide) rfl rfl rfl (gU ?_)
            obtain ⟨c17, H⟩ := it1 H
            refine g_aps rfl rfl Tryd.underlying22 Tryd.underlying22 sz23 by23 zr23 rfl rfl rfl rfl rfl rfl (by unfold limit; omega) (by omega) ?_; refine gN ?_
            refine g_as rfl rfl (gT ?_)
            refine g_nil (hK _ _ _ ?_)
            refine k_block ?_
            refine k_seq ?_
            refine wR fun K hK => ?_
            refine g_mv rfl rfl (gT ?_)
            refine g_bin rfl rfl rfl rfl rfl (gT ?_)
            refine g_as rfl rfl (gT ?_)
            refine g_nil (hK _ _ _ ?_)
            refine k_loop ?_
            refine w_wk (σ := [0, 1, 2, 60, 4, 5, 6, 7]) [0, 2, 5, 0, 0, 1, 0] rfl (by decide) ?_; refine gC ?_
            exact gI (ih1 n_0 v_3 (h3 ++ ([4607182418800017408] : List Int)) (wrap64 (i_14 + 1)) h0_0 h0_1 h0_2 h1_0 h1_1 h1_2 h2_0 h2_1 h4 h5 h6 h7 r H)
          · have c16b : q15 = false := Bool.eq_false_iff.mpr c16; try simp only [c16b, nrm]
            refine w_cond rfl (fun _ => ?_) (fun h => Bool.noConfusion h)
            refine w_seq ?_
            refine wR fun K hK => ?_
            refine g_as rfl rfl (gT ?_)
            refine g_nil (hK _ _ _ ?_)
            refine k_seq ?_
            refine w_ret ?_
            refine fin_wp (τ := []) rfl (by decide) ?_; rw [← Option.some.inj H]; simp only [Tryd.f4]; exact gF
      · have c7b := decide_eq_false c7; try simp only [c7b, nrm]
        refine w_cond rfl (fun h => Bool.noConfusion h) (fun _ => ?_)
        refine w_exit rfl ?_
        refine k_seq ?_
        refine w_seq ?_
        refine wR fun K hK => ?_
        refine g_lda rfl rfl ag31 sz31 rfl rfl (Nat.le_of_ble_eq_true rfl) (gT ?_)
        refine g_mv rfl rfl (gT ?_)
        obtain ⟨q18, hq18, H⟩ := bnd H
        refine g_cs [] rfl rfl (by rfl) Tryd.func19 rfl (by decide) (bal_Balance_Back.does hq18) ⟨Nat.le_of_ble_eq_true rfl, Nat.le_of_ble_eq_true rfl⟩ ?_; refine gC ?_
        refine g_mv rfl rfl (gT ?_)
        refine g_ext rfl rfl rfl (Nat.le_of_ble_eq_true rfl) (gT ?_)
        refine g_ext rfl rfl rfl (Nat.le_of_ble_eq_true rfl) (gT ?_)
        refine g_ext rfl rfl rfl (Nat.le_of_ble_eq_true rfl) (gT ?_)
        refine g_as rfl rfl (gT ?_)
        refine g_as rfl rfl (gT ?_)
        refine g_as rfl rfl (gT ?_)
        refine g_nil (hK _ _ _ ?_)
        refine k_seq ?_
        refine w_seq ?_
        refine w_seq ?_
        refine wR fun K hK => ?_
        refine g_mv rfl rfl (gT ?_)
        refine g_bin rfl rfl rfl rfl rfl (gT ?_)
        refine g_mv rfl rfl (gT ?_)
        rcases its H with ⟨c19, H⟩ | ⟨c19, H⟩
        · have c19b := beq_iff_eq.mpr c19; have c19n := bne_eq_false_iff_eq.mpr c19; try simp only [c19b, c19n, nrm]
          refine g_mv rfl rfl (gT ?_)
          refine g_bin rfl rfl rfl rfl rfl (gT ?_)
          refine g_pick rfl rfl rfl (gT ?_)
          refine g_nil (hK _ _ _ ?_)
          refine k_wk (σ := [0, 1, 2, 3, 28, 4, 5, 6, 7]) [0, 8, 0, 0, 1, 2, 1, 63] rfl (by decide) rfl ?_; refine gC ?_
          exact gI (ih2 n_0 h3 q18.1 q18.2.2 (q18.2.1 != 0) h0_0 h0_1 h0_2 h1_0 h1_1 h1_2 h2_0 h2_1 h4 h5 h6 h7 r H)
        · have c19b := beq_eq_false_iff_ne.mpr c19; have c19n := bne_iff_ne.mpr c19; try simp only [c19b, c19n, nrm]
          refine g_sk rfl rfl (gT ?_)
          refine g_sk rfl rfl (gT ?_)
          refine g_pick rfl rfl rfl (gT ?_)
          refine g_nil (hK _ _ _ ?_)
          refine k_wk (σ := [0, 1, 2, 3, 28, 4, 5, 6, 7]) [0, 8, 0, 0, 1, 2, 1, 63] rfl (by decide) rfl ?_; refine gC ?_
          exact gI (ih2 n_0 h3 q18.1 q18.2.2 true h0_0 h0_1 h0_2 h1_0 h1_1 h1_2 h2_0 h2_1 h4 h5 h6 h7 r H)
    · intro n_0 h3 h4 g_18 t_82 h0_0 h0_1 h0_2 h1_0 h1_1 h1_2 h2_0 h2_1 h5 h6 h7 h8 r H
      unfold gimballaw16_BalVectors.j2 at H
      simp only [bodyOf, Tryd.f4, frs, sub, if_true, if_false, Nat.one_ne_zero]
      refine k_seq ?_
      rcases its H with ⟨c20, H⟩ | ⟨c20, H⟩
      · have c20b : t_82 = true := c20; try simp only [c20b, nrm]
        refine w_cond rfl (fun _ => ?_) (fun h => Bool.noConfusion h)
        refine w_seq ?_
        refine wR fun K hK => ?_
        refine g_mv rfl rfl (gT ?_)
        refine g_bin rfl rfl rfl rfl rfl (gT ?_)
        refine g_as rfl rfl (gT ?_)
        refine g_nil (hK _ _ _ ?_)
        refine k_seq ?_
        refine w_ret ?_
        refine fin_wp (τ := []) rfl (by decide) ?_; rw [← Option.some.inj H]; simp only [Tryd.f4]; exact gF
      · have c20b : t_82 = false := Bool.eq_false_iff.mpr c20; try simp only [c20b, nrm]
        refine w_cond rfl (fun h => Bool.noConfusion h) (fun _ => ?_)
        refine w_skip ?_
        refine k_seq ?_
        refine w_seq ?_
        refine w_seq ?_
        refine wR fun K hK => ?_
        refine g_as rfl rfl (gT ?_)
        refine g_nil (hK _ _ _ ?_)
        refine k_seq ?_
        refine w_block ?_
        refine w_wk (σ := [0, 1, 2, 3, 4, 5, 6, 7, 8]) [0, 8, 0, 0, 1, 2, 2] rfl (by decide) ?_; refine gC ?_
        exact gI (ih3 n_0 h3 h4 0 h0_0 h0_1 h0_2 h1_0 h1_1 h1_2 h2_0 h2_1 h5 h6 h7 h8 r H)
    · intro n_0 h3 h4 i_19 h0_0 h0_1 h0_2 h1_0 h1_1 h1_2 h2_0 h2_1 h5 h6 h7 h8 r H
      unfold gimballaw16_BalVectors.l1 at H
      simp only [bodyOf, Tryd.f4, frs, sub, if_true, if_false, Nat.one_ne_zero]
      refine w_loop ?_
      refine w_seq ?_
      refine w_seq ?_
      refine wR fun K hK => ?_
      refine g_mv rfl rfl (gT ?_)
      refine g_mv rfl rfl (gT ?_)
      refine g_bin rfl rfl rfl rfl rfl (gT ?_)
      refine g_nil (hK _ _ _ ?_)
      refine k_seq ?_
      rcases its H with ⟨c21, H⟩ | ⟨c21, H⟩
      · have c21b := decide_eq_true c21; try simp only [c21b, nrm]
        refine w_cond rfl (fun _ => ?_) (fun h => Bool.noConfusion h)
        refine w_skip ?_
        refine k_seq ?_
        refine w_seq ?_
        refine w_block ?_
        refine w_seq ?_
        refine wR fun K hK => ?_
        refine g_bd rfl rfl zr39 Tryd.underlying39 (pl := [(0, 1), (1, 1), (2, 1)]) (by kernel_rfl) ?_; refine gB ?_
        refine g_alloc rfl rfl zr39 (gU ?_)
        refine g_st rfl rfl sz39 rfl rfl rfl (by rfl) (Nat.le_of_ble_eq_true rfl) (gU ?_)
        refine g_nil (hK _ _ _ ?_)
        refine k_seq ?_
        refine w_seq ?_
        refine wR fun K hK => ?_
        refine g_bd rfl rfl zr39 Tryd.underlying39 (pl := [(0, 1), (1, 1), (2, 1)]) (by kernel_rfl) ?_; refine gB ?_
        refine g_alloc rfl rfl zr39 (gU ?_)
        refine g_st rfl rfl sz39 rfl rfl rfl (by rfl) (Nat.le_of_ble_eq_true rfl) (gU ?_)
        refine g_nil (hK _ _ _ ?_)
        refine k_seq ?_
        refine w_seq ?_
        refine w_seq ?_
        refine wR fun K hK => ?_
        refine g_as rfl rfl (gT ?_)
        refine g_nil (hK _ _ _ ?_)
        refine k_seq ?_
        refine w_block ?_
        refine w_less (.roc 25 1 rfl rfl) ?_; simp only [nrmx, nrm, List.set_cons_zero, List.set_cons_succ, Nat.reduceAdd]
        refine w_less (.roc 37 1 rfl rfl) ?_; simp only [nrmx, nrm, List.set_cons_zero, List.set_cons_succ, Nat.reduceAdd]
        refine w_wk (σ := [0, 1, 2, 3, 4, 25, 37, 5, 6, 7, 8]) [0, 8, 0, 0, 1, 2, 2, 0, 0, 0] rfl (by decide) ?_; refine gC ?_
        exact gI (ih4 n_0 h3 h4 i_19 0 h0_0 h0_1 h0_2 h1_0 h1_1 h1_2 h2_0 h2_1 false [] 0 false [] 0 h5 h6 h7 h8 r H)
      · have c21b := decide_eq_false c21; try simp only [c21b, nrm]
        refine w_cond rfl (fun h => Bool.noConfusion h) (fun _ => ?_)
        refine w_exit rfl ?_
        refine k_seq ?_
        refine w_seq ?_
        refine wR fun K hK => ?_
        refine g_as rfl rfl (gT ?_)
        refine g_nil (hK _ _ _ ?_)
        refine k_seq ?_
        refine w_ret ?_
        refine fin_wp (τ := []) rfl (by decide) ?_; rw [← Option.some.inj H]; simp only [Tryd.f4]; exact gF
    · intro n_0 h3 h4 i_19 k_22 h0_0 h0_1 h0_2 h1_0 h1_1 h1_2 h2_0 h2_1 h5_0 h5_1 h5_2 h6_0 h6_1 h6_2 h7 h8 h9 h10 r H
      unfold gimballaw16_BalVectors.l2 at H
      simp only [bodyOf, Tryd.f4, frs, sub, if_true, if_false, Nat.one_ne_zero]
      refine w_loop ?_
      refine w_seq ?_
      refine w_seq ?_
      refine wR fun K hK => ?_
      refine g_mv rfl rfl (gT ?_)
      refine g_mv rfl rfl (gT ?_)
      refine g_bin rfl rfl rfl rfl rfl (gT ?_)
      refine g_nil (hK _ _ _ ?_)
      refine k_seq ?_
      rcases its H with ⟨c22, H⟩ | ⟨c22, H⟩
      · have c22b := decide_eq_true c22; try simp only [c22b, nrm]
        refine w_cond rfl (fun _ => ?_) (fun h => Bool.noConfusion h)
        refine w_skip ?_
        refine k_seq ?_
        refine w_seq ?_
        refine w_block ?_
        refine w_seq ?_
        refine wD fun K hK => ?_
        refine g_lda rfl rfl ag39 sz39 rfl rfl (Nat.le_of_ble_eq_true rfl) (gT ?_)
        refine g_lda rfl rfl ag26 sz26 rfl rfl (Nat.le_of_ble_eq_true rfl) (gT ?_)
        refine g_mv rfl rfl (gT ?_)
        refine g_mv rfl rfl (gT ?_)
        obtain ⟨q23, hq23, H⟩ := bnd H
        refine g_cs [] rfl rfl (by rfl) Tryd.func12 rfl (by decide) (mat_Matrix_At.does hq23) ⟨Nat.le_of_ble_eq_true rfl, Nat.le_of_ble_eq_true rfl⟩ ?_; refine gC ?_
        obtain ⟨q24, hq24, H⟩ := bnd H
        refine g_cs [] rfl rfl (by rfl) Tryd.func11 rfl (by decide) (gimballaw16_exact.does hq24) ⟨Nat.le_of_ble_eq_true rfl, Nat.le_of_ble_eq_true rfl⟩ ?_; refine gC ?_
        refine g_mv rfl rfl (gT ?_)
        refine g_mv rfl rfl (gT ?_)
        obtain ⟨c25, H⟩ := it1 H
        obtain ⟨c26, H⟩ := it1 H
        refine g_ixo rfl rfl Tryd.underlying22 sz23 rfl rfl (by first | assumption | omega) (by first | assumption | omega | (simp only [List.length_set, List.length_replicate] at *; omega)) (gT ?_)
        refine g_ldo rfl rfl ag23 sz23 rfl rfl (by first | assumption | omega | (simp only [List.length_set, List.length_replicate] at *; omega)) (gT ?_)
        obtain ⟨q27, hq27, H⟩ := bnd H
        refine g_cs [] rfl rfl (by rfl) Tryd.func11 rfl (by decide) (gimballaw16_exact.does hq27) ⟨Nat.le_of_ble_eq_true rfl, Nat.le_of_ble_eq_true rfl⟩ ?_; refine gC ?_
        obtain ⟨q28, hq28, H⟩ := bnd H
        refine g_cs [] rfl rfl (by rfl) Tryd.func15 rfl (by decide) (dyad_Num_Mul.does hq28) ⟨Nat.le_of_ble_eq_true rfl, Nat.le_of_ble_eq_true rfl⟩ ?_; refine gC ?_
        obtain ⟨q29, hq29, H⟩ := bnd H
        refine g_cs [] rfl rfl (by rfl) Tryd.func20 rfl (by decide) (dyad_Num_Add.does hq29) ⟨Nat.le_of_ble_eq_true rfl, Nat.le_of_ble_eq_true rfl⟩ ?_; refine gC ?_
        refine g_st rfl rfl sz39 rfl rfl rfl (by rfl) (Nat.le_of_ble_eq_true rfl) (gU ?_)
        refine g_nil (hK _ _ _ (by kernel_rfl) ?_)
        refine k_seq ?_
        refine wD fun K hK => ?_
        refine g_lda rfl rfl ag39 sz39 rfl rfl (Nat.le_of_ble_eq_true rfl) (gT ?_)
        refine g_lda rfl rfl ag26 sz26 rfl rfl (Nat.le_of_ble_eq_true rfl) (gT ?_)
        refine g_fd rfl rfl fa31_0 rfl (gT ?_)
        refine g_ldc rfl rfl ag29 sz29 rfl rfl rfl (gT ?_)
        refine g_mv rfl rfl (gT ?_)
        obtain ⟨c30, H⟩ := it1 H
        obtain ⟨c31, H⟩ := it1 H
        refine g_ixo rfl rfl Tryd.underlying29 sz3 rfl rfl (by first | assumption | omega) (by first | assumption | omega | (simp only [List.length_set, List.length_replicate] at *; omega)) (gT ?_)
        refine g_ldo rfl rfl ag3 sz3 rfl rfl (by first | assumption | omega | (simp only [List.length_set, List.length_replicate] at *; omega)) (gT ?_)
        refine g_mv rfl rfl (gT ?_)
        obtain ⟨q32, hq32, H⟩ := bnd H
        refine g_cs [] rfl rfl (by rfl) Tryd.func12 rfl (by decide) (mat_Matrix_At.does hq32) ⟨Nat.le_of_ble_eq_true rfl, Nat.le_of_ble_eq_true rfl⟩ ?_; refine gC ?_
        obtain ⟨q33, hq33, H⟩ := bnd H
        refine g_cs [] rfl rfl (by rfl) Tryd.func11 rfl (by decide) (gimballaw16_exact.does hq33) ⟨Nat.le_of_ble_eq_true rfl, Nat.le_of_ble_eq_true rfl⟩ ?_; refine gC ?_
        refine g_mv rfl rfl (gT ?_)
        refine g_mv rfl rfl (gT ?_)
        obtain ⟨c34, H⟩ := it1 H
        refine g_ixo rfl rfl Tryd.underlying22 sz23 rfl rfl (by first | assumption | omega) (by first | assumption | omega | (simp only [List.length_set, List.length_replicate] at *; omega)) (gT ?_)
        refine g_ldo rfl rfl ag23 sz23 rfl rfl (by first | assumption | omega | (simp only [List.length_set, List.length_replicate] at *; omega)) (gT ?_)
        obtain ⟨q35, hq35, H⟩ := bnd H
        refine g_cs [] rfl rfl (by rfl) Tryd.func11 rfl (by decide) (gimballaw16_exact.does hq35) ⟨Nat.le_of_ble_eq_true rfl, Nat.le_of_ble_eq_true rfl⟩ ?_; refine gC ?_
        obtain ⟨q36, hq36, H⟩ := bnd H
        refine g_cs [] rfl rfl (by rfl) Tryd.func15 rfl (by decide) (dyad_Num_Mul.does hq36) ⟨Nat.le_of_ble_eq_true rfl, Nat.le_of_ble_eq_true rfl⟩ ?_; refine gC ?_
        obtain ⟨q37, hq37, H⟩ := bnd H
        refine g_cs [] rfl rfl (by rfl) Tryd.func20 rfl (by decide) (dyad_Num_Add.does hq37) ⟨Nat.le_of_ble_eq_true rfl, Nat.le_of_ble_eq_true rfl⟩ ?_; refine gC ?_
        refine g_st rfl rfl sz39 rfl rfl rfl (by rfl) (Nat.le_of_ble_eq_true rfl) (gU ?_)
        refine g_nil (hK _ _ _ (by kernel_rfl) ?_)
        refine k_block ?_
        refine k_seq ?_
        refine wR fun K hK => ?_
        refine g_mv rfl rfl (gT ?_)
        refine g_bin rfl rfl rfl rfl rfl (gT ?_)
        refine g_as rfl rfl (gT ?_)
        refine g_nil (hK _ _ _ ?_)
        refine k_loop ?_
        refine w_wk (σ := [0, 1, 2, 3, 4, 5, 6, 7, 8, 9, 10]) [0, 8, 0, 0, 1, 2, 2, 0, 0, 0] rfl (by decide) ?_; refine gC ?_
        exact gI (ih4 n_0 h3 h4 i_19 (wrap64 (k_22 + 1)) h0_0 h0_1 h0_2 h1_0 h1_1 h1_2 h2_0 h2_1 q29.1 q29.2.1 q29.2.2 q37.1 q37.2.1 q37.2.2 h7 h8 h9 h10 r H)
      · have c22b := decide_eq_false c22; try simp only [c22b, nrm]
        refine w_cond rfl (fun h => Bool.noConfusion h) (fun _ => ?_)
        refine w_exit rfl ?_
        refine k_seq ?_
        refine w_seq ?_
        refine wD fun K hK => ?_
        refine g_lda rfl rfl ag39 sz39 rfl rfl (Nat.le_of_ble_eq_true rfl) (gT ?_)
        refine g_fd rfl rfl fa31_1 rfl (gT ?_)
        refine g_ldc rfl rfl ag29 sz29 rfl rfl rfl (gT ?_)
        refine g_mv rfl rfl (gT ?_)
        obtain ⟨c38, H⟩ := it1 H
        obtain ⟨c39, H⟩ := it1 H
        refine g_ixo rfl rfl Tryd.underlying29 sz3 rfl rfl (by first | assumption | omega) (by first | assumption | omega | (simp only [List.length_set, List.length_replicate] at *; omega)) (gT ?_)
        refine g_ldo rfl rfl ag3 sz3 rfl rfl (by first | assumption | omega | (simp only [List.length_set, List.length_replicate] at *; omega)) (gT ?_)
        obtain ⟨q40, hq40, H⟩ := bnd H
        refine g_cs [] rfl rfl (by rfl) Tryd.func16 rfl (by decide) (dyad_Two.does hq40) ⟨Nat.le_of_ble_eq_true rfl, Nat.le_of_ble_eq_true rfl⟩ ?_; refine gC ?_
        obtain ⟨q41, hq41, H⟩ := bnd H
        refine g_cs [] rfl rfl (by rfl) Tryd.func15 rfl (by decide) (dyad_Num_Mul.does hq41) ⟨Nat.le_of_ble_eq_true rfl, Nat.le_of_ble_eq_true rfl⟩ ?_; refine gC ?_
        refine g_lda rfl rfl ag39 sz39 rfl rfl (Nat.le_of_ble_eq_true rfl) (gT ?_)
        obtain ⟨q42, hq42, H⟩ := bnd H
        refine g_cs [] rfl rfl (by rfl) Tryd.func14 rfl (by decide) (dyad_Num_Same.does hq42) ⟨Nat.le_of_ble_eq_true rfl, Nat.le_of_ble_eq_true rfl⟩ ?_; refine gC ?_
        refine g_un rfl rfl rfl rfl (gT ?_)
        refine g_nil (hK _ _ _ (by kernel_rfl) ?_)
        refine k_seq ?_
        rcases its H with ⟨c43, H⟩ | ⟨c43, H⟩
        · have c43b : q42 = true := c43; try simp only [c43b, nrm]
          refine w_cond rfl (fun h => Bool.noConfusion h) (fun _ => ?_)
          refine w_skip ?_
          refine k_block ?_
          refine k_seq ?_
          refine wR fun K hK => ?_
          refine g_mv rfl rfl (gT ?_)
          refine g_bin rfl rfl rfl rfl rfl (gT ?_)
          refine g_as rfl rfl (gT ?_)
          refine g_nil (hK _ _ _ ?_)
          refine k_loop ?_
          refine w_wk (σ := [0, 1, 2, 3, 4, 7, 8, 9, 10]) [0, 8, 0, 0, 1, 2, 2] rfl (by decide) ?_; refine gC ?_
          exact gI (ih3 n_0 h3 h4 (wrap64 (i_19 + 1)) h0_0 h0_1 h0_2 h1_0 h1_1 h1_2 h2_0 h2_1 h7 h8 h9 h10 r H)
        · have c43b : q42 = false := Bool.eq_false_iff.mpr c43; try simp only [c43b, nrm]
          refine w_cond rfl (fun _ => ?_) (fun h => Bool.noConfusion h)
          refine w_seq ?_
          refine wR fun K hK => ?_
          refine g_as rfl rfl (gT ?_)
          refine g_nil (hK _ _ _ ?_)
          refine k_seq ?_
          refine w_ret ?_
          refine fin_wp (τ := []) rfl (by decide) ?_; rw [← Option.some.inj H]; simp only [Tryd.f4]; exact gF
set_option maxHeartbeats 8000000 in
set_option maxRecDepth 100000 in
theorem gimballaw16_BalVectors.does {k : Nat} {a0 : Int} {l1 : List Int} {a2 : Int} {l3 : List Int} {r : Bool} (H : gimballaw16_BalVectors.f k a0 l1 a2 l3 = some r) : Do E0 (.fn 4 [.i .i64 a0, .r (l1.map (V.i .u64)) l1.length true, .i .u64 a2, .r (l3.map (V.i .u64)) l3.length true] [] (.b r) []) := by
  obtain ⟨ih0, ih1, ih2, ih3, ih4⟩ := gimballaw16_BalVectors.does_l (a0 := a0) (l1 := l1) (a2 := a2) (l3 := l3) k
  refine fn_wpl Tryd.func4 rfl (Q := (gimballaw16_BalVectors.Q a0 l1 a2 l3 r)) (fun s h => h) ?_
  unfold gimballaw16_BalVectors.f at H
  simp only [Tryd.ntmps4, List.length, List.replicate, Nat.reduceAdd, Nat.reduceSub, List.cons_append, List.nil_append]
  refine w_seq ?_
  refine wR fun K hK => ?_
  refine g_as rfl rfl (gT ?_)
  refine g_nil (hK _ _ _ ?_)
  refine k_seq ?_
  refine w_seq ?_
  refine w_seq ?_
  refine wR fun K hK => ?_
  obtain ⟨q1, hq1, H⟩ := bnd H
  refine g_cs [] rfl rfl (by rfl) Tryd.func5 rfl (by decide) (gimballaw16_head_ok.does hq1) ⟨Nat.le_of_ble_eq_true rfl, Nat.le_of_ble_eq_true rfl⟩ ?_; refine gC ?_
  refine g_un rfl rfl rfl rfl (gT ?_)
  refine g_nil (hK _ _ _ ?_)
  refine k_seq ?_
  refine w_cond rfl (fun h => Bool.noConfusion h) (fun _ => ?_)
  refine w_skip ?_
  refine k_seq ?_
  refine w_seq ?_
  refine w_seq ?_
  refine wR fun K hK => ?_
  refine g_mv rfl rfl (gT ?_)
  refine g_len_r rfl rfl Tryd.underlying22 rfl (gT ?_)
  refine g_bin rfl rfl rfl rfl rfl (gT ?_)
  refine g_mv rfl rfl (gT ?_)
  rcases its H with ⟨c2, H⟩ | ⟨c2, H⟩
  · have c2b := decide_eq_true c2; try simp only [c2b, nrm]
    refine g_sk rfl rfl (gT ?_)
    refine g_sk rfl rfl (gT ?_)
    refine g_sk rfl rfl (gT ?_)
    refine g_pick rfl rfl rfl (gT ?_)
    refine g_nil (hK _ _ _ ?_)
    refine k_wk (σ := []) [0, 0, 0, 0, 28] rfl (by decide) rfl ?_; refine gC ?_
    exact gI (ih0 a0 l1 a2 l3 true r H)
  · have c2b := decide_eq_false c2; try simp only [c2b, nrm]
    refine g_mv rfl rfl (gT ?_)
    refine g_len_r rfl rfl Tryd.underlying22 rfl (gT ?_)
    refine g_bin rfl rfl rfl rfl rfl (gT ?_)
    refine g_pick rfl rfl rfl (gT ?_)
    refine g_nil (hK _ _ _ ?_)
    refine k_wk (σ := []) [0, 0, 0, 0, 28] rfl (by decide) rfl ?_; refine gC ?_
    exact gI (ih0 a0 l1 a2 l3 (decide ((l3.length : Int) > 100)) r H)

end Go.Proofs.YtlhpejbmjbcmaaaDoor.F
namespace Go.Proofs.YtlhpejbmjbcmaaaDoor.F
open Go Go.RowKit Go.Proofs.YtlhpejbmjbcmaaaDoorW.PrintWords
open Go.Rk hiding Rd
set_option linter.unusedVariables false
set_option maxRecDepth 100000
def sub64Entry_ : Array Value → Sem Value := fun args => do
  let (x, y, b) ← Extern.MathBitsCarry.three "Sub64" args
  pure (Extern.MathBitsCarry.pair ((x + Extern.MathBitsCarry.m64 - y - b) % Extern.MathBitsCarry.m64) (if x < y + b then 1 else 0))
theorem run_sub64_ {P : Program} (x y b : Nat) (hb : b ≤ 1) (w : World) :
    (sub64Entry_ #[.int .u64 x, .int .u64 y, .int .u64 b]).run P w =
      .ok (.tuple #[.int .u64 (((x + 18446744073709551616 - y - b) % 18446744073709551616 : Nat) : Int), .int .u64 ((if x < y + b then 1 else 0 : Nat) : Int)]) w := by
  have : b = 0 ∨ b = 1 := by omega
  rcases this with rfl | rfl <;> rfl
theorem vs3 {ι : Io} {μ : Mu} {k k' k'' : IntKind} {x y c : Int} {args' : List Value} (h : Vs ι μ [.i k x, .i k' y, .i k'' c] args') : args' = [.int k x, .int k' y, .int k'' c] := by
  obtain ⟨a, l, rfl, ha, h⟩ := h.head
  obtain ⟨b, l, rfl, hb, h⟩ := h.head
  obtain ⟨d, l, rfl, hd, h⟩ := h.head
  rw [h.nil', ha.i_inv, hb.i_inv, hd.i_inv]
theorem vr2 {ι : Io} {μ : Mu} {x y : Int} : VR ι μ (.t [.i .u64 x, .i .u64 y]) (.tuple #[.int .u64 x, .int .u64 y]) :=
  .t (cs := [.int .u64 x, .int .u64 y]) rfl fun j hj => by
    match j, hj with
    | 0, _ => exact .c .i
    | 1, _ => exact .c .i
theorem envOk : EnvOk E0 where
  mixed := by kernel_rfl
  noNG := by
    intro f fn h
    have h0 : (Tryd.prog.funcs.toList.all fun fn => !(fn.name == "runtime.NumGoroutine")) = true := by kernel_rfl
    have h1 : fn ∈ Tryd.prog.funcs.toList := by
      have h : Tryd.prog.funcs[f]? = some fn := h
      exact Array.mem_toList_iff.2 (Array.mem_of_getElem? h)
    have := List.all_eq_true.1 h0 fn h1
    simpa using this
  ext := by
    intro f fn args args' ι μ w v hf hb he hv
    simp only [E0] at he
    split at he
    · rename_i e; subst e
      unfold addX at he
      split at he
      · split at he
        · rename_i hc
          cases he
          obtain ⟨c1, c2, c3, c4⟩ := hc
          rw [vs3 hv]
          refine ⟨_, ?_, vr2⟩
          show (callFunc 58 #[_, _, _]).run Tryd.prog w = _
          rw [run_callFunc_extern Tryd.func58 (by kernel_rfl) (by kernel_rfl) (by kernel_rfl) (e := add64Entry) (by kernel_rfl), run_add64 _ _ _ c1 c2 c3 c4]
          rfl
        · cases he
      · cases he
    · split at he
      · rename_i e; subst e
        unfold subX at he
        split at he
        · split at he
          · rename_i x y c hc
            cases he
            obtain ⟨c1, c2, c5, c3, c4⟩ := hc
            rw [vs3 hv]
            obtain ⟨x, rfl⟩ := Int.eq_ofNat_of_zero_le c1
            obtain ⟨y, rfl⟩ := Int.eq_ofNat_of_zero_le c2
            obtain ⟨b, rfl⟩ := Int.eq_ofNat_of_zero_le c3
            have e1 : (((x + 18446744073709551616 - y - b) % 18446744073709551616 : Nat) : Int) = ((x : Int) - y - b) % 18446744073709551616 := by omega
            have e2 : ((if x < y + b then 1 else 0 : Nat) : Int) = if (x : Int) < y + b then 1 else 0 := by split <;> split <;> omega
            rw [← e1, ← e2]
            refine ⟨_, ?_, vr2⟩
            show (callFunc 59 #[_, _, _]).run Tryd.prog w = _
            rw [run_callFunc_extern Tryd.func59 (by kernel_rfl) (by kernel_rfl) (by kernel_rfl) (e := sub64Entry_) (by kernel_rfl), run_sub64_ x y b (by omega)]
            rfl
          · cases he
        · cases he
      · cases he
end Go.Proofs.YtlhpejbmjbcmaaaDoor.F
