/- Texts of this claim, one behind the other: the functions, and that the machine does what they say. -/
import Derived.Test.YtkkfghecmhmdpaaDoorRx0
import Derived.Test.YtkkfghecmhmdpaaDoorRun1
import Derived.Laws.BitsLemmas
import Derived.ArgAppend
import Derived.Lib.AppendStr
set_option linter.constructorNameAsVariable false
set_option linter.unusedSimpArgs false
set_option linter.unusedVariables false
set_option linter.unusedSectionVars false
namespace Go.Proofs.YtkkfghecmhmdpaaDoor.F
open Go Go.RowKit Go.Proofs.YtkkfghecmhmdpaaDoorW.PrintWords
open Go.Rk hiding Rd
set_option linter.unusedVariables false
set_option linter.unusedSimpArgs false
set_option maxRecDepth 100000
set_option maxHeartbeats 8000000 in
set_option maxRecDepth 100000 in
theorem wide_Wide_Sqrt.does_l {a0_0 : Int} {a0_1 : Int} (k : Nat) : (∀ (root_4 : Int) (i_5 : Int) (h0_0 : Int) (h0_1 : Int) (r : Int × Bool), wide_Wide_Sqrt.l0 k root_4 i_5 h0_0 h0_1 = some r → wk_ E0 (wide_Wide_Sqrt.Q a0_0 a0_1 r) (frs (bodyOf Tryd.f40) [1, 1, 0, 1, 0] []) (sub (bodyOf Tryd.f40) [1, 1, 0, 1, 0]) ⟨[.u, .p (some (0, 0)), .u, .u, .i .u64 root_4, .i .i64 i_5, .u, .u, .u, .u, .u, .u, .u, .u, .u, .u, .u, .u, .u, .u, .u, .u, .u, .u, .u, .u, .u, .u], ofL [.row [.i .u64 h0_0, .i .u64 h0_1] 0 0 true true none], 1, 0⟩) := by
  induction k with
  | zero => exact fun _ _ _ _ r h => by simp [wide_Wide_Sqrt.l0] at h
  | succ k ih =>
    have ih0 := ih
    refine ?_
    · intro root_4 i_5 h0_0 h0_1 r H
      unfold wide_Wide_Sqrt.l0 at H
      simp only [bodyOf, Tryd.f40, frs, sub, if_true, if_false, Nat.one_ne_zero]
      refine w_loop ?_
      refine w_seq ?_
      refine w_seq ?_
      refine wR fun K hK => ?_
      refine g_mv rfl rfl (gT ?_)
      refine g_bin rfl rfl rfl rfl rfl (gT ?_)
      refine g_nil (hK _ _ _ ?_)
      refine k_seq ?_
      rcases its H with ⟨c1, H⟩ | ⟨c1, H⟩
      · have c1b := decide_eq_true c1; try simp only [c1b, nrm]
        refine w_cond rfl (fun _ => ?_) (fun h => Bool.noConfusion h)
        refine w_skip ?_
        refine k_seq ?_
        refine w_seq ?_
        refine w_block ?_
        refine w_seq ?_
        refine wR fun K hK => ?_
        refine g_mv rfl rfl (gT ?_)
        refine g_mv rfl rfl (gT ?_)
        obtain ⟨c2, H⟩ := it1 H
        refine g_shl rfl rfl rfl rfl (by omega) (gT ?_)
        refine g_bin rfl rfl rfl rfl rfl (gT ?_)
        refine g_as rfl rfl (gT ?_)
        refine g_nil (hK _ _ _ ?_)
        refine k_seq ?_
        refine w_seq ?_
        refine wD fun K hK => ?_
        refine g_mv rfl rfl (gT ?_)
        refine g_mv rfl rfl (gT ?_)
        obtain ⟨q3, hq3, H⟩ := bnd H
        refine g_cs [] rfl rfl (by rfl) Tryd.func54 rfl (by decide) (wide_Mul.does hq3) ⟨Nat.le_of_ble_eq_true rfl, Nat.le_of_ble_eq_true rfl⟩ ?_; refine gC ?_
        refine g_lda rfl rfl ag68 sz68 rfl rfl (Nat.le_of_ble_eq_true rfl) (gT ?_)
        obtain ⟨q4, hq4, H⟩ := bnd H
        refine g_cs [] rfl rfl (by rfl) Tryd.func55 rfl (by decide) (wide_Wide_Cmp.does hq4) ⟨Nat.le_of_ble_eq_true rfl, Nat.le_of_ble_eq_true rfl⟩ ?_; refine gC ?_
        refine g_bin rfl rfl rfl rfl rfl (gT ?_)
        refine g_nil (hK _ _ _ (by kernel_rfl) ?_)
        refine k_seq ?_
        rcases its H with ⟨c5, H⟩ | ⟨c5, H⟩
        · have c5b := decide_eq_true c5; try simp only [c5b, nrm]
          refine w_cond rfl (fun _ => ?_) (fun h => Bool.noConfusion h)
          refine wR fun K hK => ?_
          refine g_mv rfl rfl (gT ?_)
          refine g_as rfl rfl (gT ?_)
          refine g_nil (hK _ _ _ ?_)
          refine k_block ?_
          refine k_seq ?_
          refine wR fun K hK => ?_
          refine g_mv rfl rfl (gT ?_)
          refine g_bin rfl rfl rfl rfl rfl (gT ?_)
          refine g_as rfl rfl (gT ?_)
          refine g_nil (hK _ _ _ ?_)
          refine k_loop ?_
          refine w_wk (σ := [0]) [1, 2, 0] rfl (by decide) ?_; refine gC ?_
          exact gI (ih0 (Go.bits .or .u64 root_4 (shl .u64 1 i_5)) (wrap64 (i_5 - 1)) h0_0 h0_1 r H)
        · have c5b := decide_eq_false c5; try simp only [c5b, nrm]
          refine w_cond rfl (fun h => Bool.noConfusion h) (fun _ => ?_)
          refine w_skip ?_
          refine k_block ?_
          refine k_seq ?_
          refine wR fun K hK => ?_
          refine g_mv rfl rfl (gT ?_)
          refine g_bin rfl rfl rfl rfl rfl (gT ?_)
          refine g_as rfl rfl (gT ?_)
          refine g_nil (hK _ _ _ ?_)
          refine k_loop ?_
          refine w_wk (σ := [0]) [1, 2, 0] rfl (by decide) ?_; refine gC ?_
          exact gI (ih0 root_4 (wrap64 (i_5 - 1)) h0_0 h0_1 r H)
      · have c1b := decide_eq_false c1; try simp only [c1b, nrm]
        refine w_cond rfl (fun h => Bool.noConfusion h) (fun _ => ?_)
        refine w_exit rfl ?_
        refine k_seq ?_
        refine w_seq ?_
        refine wD fun K hK => ?_
        refine g_mv rfl rfl (gT ?_)
        refine g_mv rfl rfl (gT ?_)
        refine g_mv rfl rfl (gT ?_)
        obtain ⟨q6, hq6, H⟩ := bnd H
        refine g_cs [] rfl rfl (by rfl) Tryd.func54 rfl (by decide) (wide_Mul.does hq6) ⟨Nat.le_of_ble_eq_true rfl, Nat.le_of_ble_eq_true rfl⟩ ?_; refine gC ?_
        refine g_lda rfl rfl ag68 sz68 rfl rfl (Nat.le_of_ble_eq_true rfl) (gT ?_)
        refine g_same rfl rfl (c := .b ((q6.1 == h0_0) && ((q6.2 == h0_1)))) (by simp only [nrm]; simp only [binV, eqs68, Go.Rk.Rd.of, Go.Rk.Rd.bind, Bool.and_true, Bool.not_and]) (gT ?_)
        refine g_as rfl rfl (gT ?_)
        refine g_as rfl rfl (gT ?_)
        refine g_nil (hK _ _ _ (by kernel_rfl) ?_)
        refine k_seq ?_
        refine w_ret ?_
        refine fin_wp (τ := []) rfl (by decide) ?_; rw [← Option.some.inj H]; simp only [Tryd.f40]; exact gF
set_option maxHeartbeats 8000000 in
set_option maxRecDepth 100000 in
theorem wide_Wide_Sqrt.does {k : Nat} {a0_0 : Int} {a0_1 : Int} {r : Int × Bool} (H : wide_Wide_Sqrt.f k a0_0 a0_1 = some r) : Do E0 (.fn 40 [.a [.i .u64 a0_0, .i .u64 a0_1]] [] (.t [.i .u64 r.1, .b r.2]) []) := by
  obtain ih0 := wide_Wide_Sqrt.does_l (a0_0 := a0_0) (a0_1 := a0_1) k
  refine fn_wpl Tryd.func40 rfl (Q := (wide_Wide_Sqrt.Q a0_0 a0_1 r)) (fun s h => h) ?_
  unfold wide_Wide_Sqrt.f at H
  simp only [Tryd.ntmps40, List.length, List.replicate, Nat.reduceAdd, Nat.reduceSub, List.cons_append, List.nil_append]
  refine w_seq ?_
  refine wR fun K hK => ?_
  refine g_box rfl rfl rfl (by rfl) (gU ?_)
  refine g_as rfl rfl (gT ?_)
  refine g_as rfl rfl (gT ?_)
  refine g_nil (hK _ _ _ ?_)
  refine k_seq ?_
  refine w_seq ?_
  refine wR fun K hK => ?_
  refine g_as rfl rfl (gT ?_)
  refine g_nil (hK _ _ _ ?_)
  refine k_seq ?_
  refine w_seq ?_
  refine w_seq ?_
  refine wR fun K hK => ?_
  refine g_as rfl rfl (gT ?_)
  refine g_nil (hK _ _ _ ?_)
  refine k_seq ?_
  refine w_block ?_
  refine w_wk (σ := [0]) [1, 2, 0] rfl (by decide) ?_; refine gC ?_
  exact gI (ih0 0 63 a0_0 a0_1 r H)

set_option maxHeartbeats 8000000 in
set_option maxRecDepth 100000 in
theorem more_Sqrt.does_l {a0 : Int} (k : Nat) : (∀ (a_0 : Int) (t_15 : Bool) (r : Int × Int), more_Sqrt.j0 k a_0 t_15 = some r → kont E0 (more_Sqrt.Q a0 r) (frs (bodyOf Tryd.f21) [1, 0, 0, 1, 1, 0] []) .normal ⟨[.i .u64 a_0, .u, .u, .u, .u, .u, .u, .u, .u, .u, .u, .u, .u, .u, .u, .b t_15, .u, .u, .u, .u, .u, .u, .u, .u, .u, .u, .u, .u, .u, .u, .u, .u, .u, .u, .u, .u, .u, .u, .u, .u, .u, .u, .u, .u, .u, .u, .u, .u, .u, .u, .u, .u, .u, .u, .u, .u, .u, .u, .u, .u, .u], ofL [], 0, 0⟩) := by
  induction k with
  | zero => exact fun _ _ r h => by simp [more_Sqrt.j0] at h
  | succ k ih =>
    have ih0 := ih
    refine ?_
    · intro a_0 t_15 r H
      unfold more_Sqrt.j0 at H
      simp only [bodyOf, Tryd.f21, frs, sub, if_true, if_false, Nat.one_ne_zero]
      refine k_seq ?_
      rcases its H with ⟨c7, H⟩ | ⟨c7, H⟩
      · have c7b : t_15 = true := c7; try simp only [c7b, nrm]
        refine w_cond rfl (fun _ => ?_) (fun h => Bool.noConfusion h)
        refine w_seq ?_
        refine wR fun K hK => ?_
        refine g_mv rfl rfl (gT ?_)
        refine g_as rfl rfl (gT ?_)
        refine g_as rfl rfl (gT ?_)
        refine g_nil (hK _ _ _ ?_)
        refine k_seq ?_
        refine w_ret ?_
        refine fin_wp (τ := []) rfl (by decide) ?_; rw [← Option.some.inj H]; simp only [Tryd.f21]; exact gF
      · have c7b : t_15 = false := Bool.eq_false_iff.mpr c7; try simp only [c7b, nrm]
        refine w_cond rfl (fun h => Bool.noConfusion h) (fun _ => ?_)
        refine w_seq ?_
        refine wR fun K hK => ?_
        refine g_mv rfl rfl (gT ?_)
        obtain ⟨q8, hq8, H⟩ := bnd H
        refine g_cs [] rfl rfl (by rfl) Tryd.func27 rfl (by decide) (word_Neg.does hq8) ⟨Nat.le_of_ble_eq_true rfl, Nat.le_of_ble_eq_true rfl⟩ ?_; refine gC ?_
        refine g_as rfl rfl (gT ?_)
        refine g_nil (hK _ _ _ ?_)
        refine k_seq ?_
        rcases its H with ⟨c9, H⟩ | ⟨c9, H⟩
        · have c9b : q8 = true := c9; try simp only [c9b, nrm]
          refine w_cond rfl (fun _ => ?_) (fun h => Bool.noConfusion h)
          refine w_seq ?_
          refine wR fun K hK => ?_
          refine g_as rfl rfl (gT ?_)
          refine g_as rfl rfl (gT ?_)
          refine g_nil (hK _ _ _ ?_)
          refine k_seq ?_
          refine w_ret ?_
          refine fin_wp (τ := []) rfl (by decide) ?_; rw [← Option.some.inj H]; simp only [Tryd.f21]; exact gF
        · have c9b : q8 = false := Bool.eq_false_iff.mpr c9; try simp only [c9b, nrm]
          refine w_cond rfl (fun h => Bool.noConfusion h) (fun _ => ?_)
          refine w_skip ?_
          refine k_block ?_
          refine k_seq ?_
          refine w_seq ?_
          refine wR fun K hK => ?_
          refine g_mv rfl rfl (gT ?_)
          obtain ⟨q10, hq10, H⟩ := bnd H
          refine g_cs [] rfl rfl (by rfl) Tryd.func25 rfl (by decide) (word_Parts.does hq10) ⟨Nat.le_of_ble_eq_true rfl, Nat.le_of_ble_eq_true rfl⟩ ?_; refine gC ?_
          refine g_mv rfl rfl (gT ?_)
          refine g_ext rfl rfl rfl (Nat.le_of_ble_eq_true rfl) (gT ?_)
          refine g_ext rfl rfl rfl (Nat.le_of_ble_eq_true rfl) (gT ?_)
          refine g_as rfl rfl (gT ?_)
          refine g_as rfl rfl (gT ?_)
          refine g_nil (hK _ _ _ ?_)
          refine k_seq ?_
          refine w_seq ?_
          refine wR fun K hK => ?_
          refine g_mv rfl rfl (gT ?_)
          obtain ⟨q11, hq11, H⟩ := bnd H
          refine g_cs [] rfl rfl (by rfl) Tryd.func38 rfl (by decide) (bits_Len64.does hq11) ⟨Nat.le_of_ble_eq_true rfl, Nat.le_of_ble_eq_true rfl⟩ ?_; refine gC ?_
          refine g_bin rfl rfl rfl rfl rfl (gT ?_)
          refine g_as rfl rfl (gT ?_)
          refine g_nil (hK _ _ _ ?_)
          refine k_seq ?_
          refine w_seq ?_
          refine w_seq ?_
          refine wR fun K hK => ?_
          refine g_mv rfl rfl (gT ?_)
          refine g_mv rfl rfl (gT ?_)
          refine g_bin rfl rfl rfl rfl rfl (gT ?_)
          refine g_bin rfl rfl rfl rfl rfl (gT ?_)
          refine g_bin rfl rfl rfl rfl rfl (gT ?_)
          refine g_nil (hK _ _ _ ?_)
          refine k_seq ?_
          rcases its H with ⟨c12, H⟩ | ⟨c12, H⟩
          · have c12b := beq_iff_eq.mpr c12; have c12n := bne_eq_false_iff_eq.mpr c12; try simp only [c12b, c12n, nrm]
            refine w_cond rfl (fun h => Bool.noConfusion h) (fun _ => ?_)
            refine w_skip ?_
            refine k_seq ?_
            refine w_seq ?_
            refine wR fun K hK => ?_
            refine g_mv rfl rfl (gT ?_)
            refine g_bd rfl rfl zr68 Tryd.underlying68 (pl := [(0, 1), (1, 1)]) (by kernel_rfl) ?_; refine gB ?_
            refine g_mv rfl rfl (gT ?_)
            obtain ⟨q13, hq13, H⟩ := bnd H
            refine g_cs [] rfl rfl (by rfl) Tryd.func39 rfl (by decide) (wide_Wide_Left.does hq13) ⟨Nat.le_of_ble_eq_true rfl, Nat.le_of_ble_eq_true rfl⟩ ?_; refine gC ?_
            obtain ⟨q14, hq14, H⟩ := bnd H
            refine g_cs [] rfl rfl (by rfl) Tryd.func40 rfl (by decide) (wide_Wide_Sqrt.does hq14) ⟨Nat.le_of_ble_eq_true rfl, Nat.le_of_ble_eq_true rfl⟩ ?_; refine gC ?_
            refine g_mv rfl rfl (gT ?_)
            refine g_ext rfl rfl rfl (Nat.le_of_ble_eq_true rfl) (gT ?_)
            refine g_ext rfl rfl rfl (Nat.le_of_ble_eq_true rfl) (gT ?_)
            refine g_as rfl rfl (gT ?_)
            refine g_as rfl rfl (gT ?_)
            refine g_nil (hK _ _ _ ?_)
            refine k_seq ?_
            refine w_seq ?_
            refine wR fun K hK => ?_
            refine g_mv rfl rfl (gT ?_)
            refine g_bd rfl rfl zr68 Tryd.underlying68 (pl := [(0, 1), (1, 1)]) (by kernel_rfl) ?_; refine gB ?_
            refine g_mv rfl rfl (gT ?_)
            refine g_mv rfl rfl (gT ?_)
            refine g_bin rfl rfl rfl rfl rfl (gT ?_)
            refine g_quo rfl rfl rfl rfl (by first | assumption | omega) (gT ?_)
            refine g_mv rfl rfl (gT ?_)
            refine g_un rfl rfl rfl rfl (gT ?_)
            obtain ⟨q15, hq15, H⟩ := bnd H
            refine g_cs [] rfl rfl (by rfl) Tryd.func41 rfl (by decide) (round_Round.does hq15) ⟨Nat.le_of_ble_eq_true rfl, Nat.le_of_ble_eq_true rfl⟩ ?_; refine gC ?_
            refine g_ext rfl rfl rfl (Nat.le_of_ble_eq_true rfl) (gT ?_)
            refine g_ext rfl rfl rfl (Nat.le_of_ble_eq_true rfl) (gT ?_)
            refine g_as rfl rfl (gT ?_)
            refine g_as rfl rfl (gT ?_)
            refine g_nil (hK _ _ _ ?_)
            refine k_seq ?_
            refine w_ret ?_
            refine fin_wp (τ := []) rfl (by decide) ?_; rw [← Option.some.inj H]; simp only [Tryd.f21]; exact gF
          · have c12b := beq_eq_false_iff_ne.mpr c12; have c12n := bne_iff_ne.mpr c12; try simp only [c12b, c12n, nrm]
            refine w_cond rfl (fun _ => ?_) (fun h => Bool.noConfusion h)
            refine wR fun K hK => ?_
            refine g_mv rfl rfl (gT ?_)
            refine g_bin rfl rfl rfl rfl rfl (gT ?_)
            refine g_as rfl rfl (gT ?_)
            refine g_nil (hK _ _ _ ?_)
            refine k_seq ?_
            refine w_seq ?_
            refine wR fun K hK => ?_
            refine g_mv rfl rfl (gT ?_)
            refine g_bd rfl rfl zr68 Tryd.underlying68 (pl := [(0, 1), (1, 1)]) (by kernel_rfl) ?_; refine gB ?_
            refine g_mv rfl rfl (gT ?_)
            obtain ⟨q16, hq16, H⟩ := bnd H
            refine g_cs [] rfl rfl (by rfl) Tryd.func39 rfl (by decide) (wide_Wide_Left.does hq16) ⟨Nat.le_of_ble_eq_true rfl, Nat.le_of_ble_eq_true rfl⟩ ?_; refine gC ?_
            obtain ⟨q17, hq17, H⟩ := bnd H
            refine g_cs [] rfl rfl (by rfl) Tryd.func40 rfl (by decide) (wide_Wide_Sqrt.does hq17) ⟨Nat.le_of_ble_eq_true rfl, Nat.le_of_ble_eq_true rfl⟩ ?_; refine gC ?_
            refine g_mv rfl rfl (gT ?_)
            refine g_ext rfl rfl rfl (Nat.le_of_ble_eq_true rfl) (gT ?_)
            refine g_ext rfl rfl rfl (Nat.le_of_ble_eq_true rfl) (gT ?_)
            refine g_as rfl rfl (gT ?_)
            refine g_as rfl rfl (gT ?_)
            refine g_nil (hK _ _ _ ?_)
            refine k_seq ?_
            refine w_seq ?_
            refine wR fun K hK => ?_
            refine g_mv rfl rfl (gT ?_)
            refine g_bd rfl rfl zr68 Tryd.underlying68 (pl := [(0, 1), (1, 1)]) (by kernel_rfl) ?_; refine gB ?_
            refine g_mv rfl rfl (gT ?_)
            refine g_mv rfl rfl (gT ?_)
            refine g_bin rfl rfl rfl rfl rfl (gT ?_)
            refine g_quo rfl rfl rfl rfl (by first | assumption | omega) (gT ?_)
            refine g_mv rfl rfl (gT ?_)
            refine g_un rfl rfl rfl rfl (gT ?_)
            obtain ⟨q18, hq18, H⟩ := bnd H
            refine g_cs [] rfl rfl (by rfl) Tryd.func41 rfl (by decide) (round_Round.does hq18) ⟨Nat.le_of_ble_eq_true rfl, Nat.le_of_ble_eq_true rfl⟩ ?_; refine gC ?_
            refine g_ext rfl rfl rfl (Nat.le_of_ble_eq_true rfl) (gT ?_)
            refine g_ext rfl rfl rfl (Nat.le_of_ble_eq_true rfl) (gT ?_)
            refine g_as rfl rfl (gT ?_)
            refine g_as rfl rfl (gT ?_)
            refine g_nil (hK _ _ _ ?_)
            refine k_seq ?_
            refine w_ret ?_
            refine fin_wp (τ := []) rfl (by decide) ?_; rw [← Option.some.inj H]; simp only [Tryd.f21]; exact gF
set_option maxHeartbeats 8000000 in
set_option maxRecDepth 100000 in
theorem more_Sqrt.does {k : Nat} {a0 : Int} {r : Int × Int} (H : more_Sqrt.f k a0 = some r) : Do E0 (.fn 21 [.i .u64 a0] [] (.t [.i .u64 r.1, .i .u8 r.2]) []) := by
  obtain ih0 := more_Sqrt.does_l (a0 := a0) k
  refine fn_wpl Tryd.func21 rfl (Q := (more_Sqrt.Q a0 r)) (fun s h => h) ?_
  unfold more_Sqrt.f at H
  simp only [Tryd.ntmps21, List.length, List.replicate, Nat.reduceAdd, Nat.reduceSub, List.cons_append, List.nil_append]
  refine w_seq ?_
  refine wR fun K hK => ?_
  refine g_as rfl rfl (gT ?_)
  refine g_as rfl rfl (gT ?_)
  refine g_nil (hK _ _ _ ?_)
  refine k_seq ?_
  refine w_seq ?_
  refine w_block ?_
  refine w_seq ?_
  refine wR fun K hK => ?_
  refine g_mv rfl rfl (gT ?_)
  obtain ⟨q1, hq1, H⟩ := bnd H
  refine g_cs [] rfl rfl (by rfl) Tryd.func28 rfl (by decide) (word_Kind.does hq1) ⟨Nat.le_of_ble_eq_true rfl, Nat.le_of_ble_eq_true rfl⟩ ?_; refine gC ?_
  refine g_bin rfl rfl rfl rfl rfl (gT ?_)
  refine g_as rfl rfl (gT ?_)
  refine g_nil (hK _ _ _ ?_)
  refine k_seq ?_
  rcases its H with ⟨c2, H⟩ | ⟨c2, H⟩
  · have c2b := beq_iff_eq.mpr c2; have c2n := bne_eq_false_iff_eq.mpr c2; try simp only [c2b, c2n, nrm]
    refine w_cond rfl (fun _ => ?_) (fun h => Bool.noConfusion h)
    refine w_seq ?_
    refine w_seq ?_
    refine wR fun K hK => ?_
    refine g_mv rfl rfl (gT ?_)
    obtain ⟨q3, hq3, H⟩ := bnd H
    refine g_cs [] rfl rfl (by rfl) Tryd.func37 rfl (by decide) (word_Signals.does hq3) ⟨Nat.le_of_ble_eq_true rfl, Nat.le_of_ble_eq_true rfl⟩ ?_; refine gC ?_
    refine g_nil (hK _ _ _ ?_)
    refine k_seq ?_
    rcases its H with ⟨c4, H⟩ | ⟨c4, H⟩
    · have c4b : q3 = true := c4; try simp only [c4b, nrm]
      refine w_cond rfl (fun _ => ?_) (fun h => Bool.noConfusion h)
      refine w_seq ?_
      refine wR fun K hK => ?_
      refine g_as rfl rfl (gT ?_)
      refine g_as rfl rfl (gT ?_)
      refine g_nil (hK _ _ _ ?_)
      refine k_seq ?_
      refine w_ret ?_
      refine fin_wp (τ := []) rfl (by decide) ?_; rw [← Option.some.inj H]; simp only [Tryd.f21]; exact gF
    · have c4b : q3 = false := Bool.eq_false_iff.mpr c4; try simp only [c4b, nrm]
      refine w_cond rfl (fun h => Bool.noConfusion h) (fun _ => ?_)
      refine w_skip ?_
      refine k_seq ?_
      refine w_seq ?_
      refine wR fun K hK => ?_
      refine g_as rfl rfl (gT ?_)
      refine g_as rfl rfl (gT ?_)
      refine g_nil (hK _ _ _ ?_)
      refine k_seq ?_
      refine w_ret ?_
      refine fin_wp (τ := []) rfl (by decide) ?_; rw [← Option.some.inj H]; simp only [Tryd.f21]; exact gF
  · have c2b := beq_eq_false_iff_ne.mpr c2; have c2n := bne_iff_ne.mpr c2; try simp only [c2b, c2n, nrm]
    refine w_cond rfl (fun h => Bool.noConfusion h) (fun _ => ?_)
    refine w_seq ?_
    refine wR fun K hK => ?_
    refine g_mv rfl rfl (gT ?_)
    obtain ⟨q5, hq5, H⟩ := bnd H
    refine g_cs [] rfl rfl (by rfl) Tryd.func28 rfl (by decide) (word_Kind.does hq5) ⟨Nat.le_of_ble_eq_true rfl, Nat.le_of_ble_eq_true rfl⟩ ?_; refine gC ?_
    refine g_bin rfl rfl rfl rfl rfl (gT ?_)
    refine g_mv rfl rfl (gT ?_)
    rcases its H with ⟨c6, H⟩ | ⟨c6, H⟩
    · have c6b := beq_iff_eq.mpr c6; have c6n := bne_eq_false_iff_eq.mpr c6; try simp only [c6b, c6n, nrm]
      refine g_sk rfl rfl (gT ?_)
      refine g_sk rfl rfl (gT ?_)
      refine g_pick rfl rfl rfl (gT ?_)
      refine g_as rfl rfl (gT ?_)
      refine g_nil (hK _ _ _ ?_)
      refine k_wk (σ := []) [0, 14] rfl (by decide) rfl ?_; refine gC ?_
      exact gI (ih0 a0 true r H)
    · have c6b := beq_eq_false_iff_ne.mpr c6; have c6n := bne_iff_ne.mpr c6; try simp only [c6b, c6n, nrm]
      refine g_mv rfl rfl (gT ?_)
      refine g_bin rfl rfl rfl rfl rfl (gT ?_)
      refine g_pick rfl rfl rfl (gT ?_)
      refine g_as rfl rfl (gT ?_)
      refine g_nil (hK _ _ _ ?_)
      refine k_wk (σ := []) [0, 14] rfl (by decide) rfl ?_; refine gC ?_
      exact gI (ih0 a0 (a0 == 9218868437227405312) r H)

set_option maxHeartbeats 8000000 in
set_option maxRecDepth 100000 in
theorem soft_Calc_note_nil.does {a1 : Int} {a2 : Int} {r : Int} (H : soft_Calc_note_nil.f a1 a2 = some r) : Do E0 (.fn 34 [.p none, .i .u64 a1, .i .u8 a2] [] (.i .u64 r) []) := by
  refine fn_wpl Tryd.func34 rfl (Q := (soft_Calc_note_nil.Q a1 a2 r)) (fun s h => h) ?_
  unfold soft_Calc_note_nil.f at H
  simp only [Tryd.ntmps34, List.length, List.replicate, Nat.reduceAdd, Nat.reduceSub, List.cons_append, List.nil_append]
  refine w_seq ?_
  refine wR fun K hK => ?_
  refine g_as rfl rfl (gT ?_)
  refine g_nil (hK _ _ _ ?_)
  refine k_seq ?_
  refine w_seq ?_
  refine w_seq ?_
  refine wR fun K hK => ?_
  refine g_mv rfl rfl (gT ?_)
  refine g_same rfl rfl (c := .b false) (by simp only [nrm]; simp only [binV, sameV, V.same, Go.Rk.Rd.of, Go.Rk.Rd.bind, Tryd.underlying24]; rfl) (gT ?_)
  refine g_nil (hK _ _ _ ?_)
  refine k_seq ?_
  refine w_cond rfl (fun h => Bool.noConfusion h) (fun _ => ?_)
  refine w_skip ?_
  refine k_seq ?_
  refine w_seq ?_
  refine wR fun K hK => ?_
  refine g_mv rfl rfl (gT ?_)
  refine g_as rfl rfl (gT ?_)
  refine g_nil (hK _ _ _ ?_)
  refine k_seq ?_
  refine w_ret ?_
  refine fin_wp (τ := []) rfl (by decide) ?_; rw [← Option.some.inj H]; simp only [Tryd.f34]; exact gF

set_option maxHeartbeats 8000000 in
set_option maxRecDepth 100000 in
theorem soft_Calc_Note_nil.does {a1 : Int} {a2 : Int} {r : Int} (H : soft_Calc_Note_nil.f a1 a2 = some r) : Do E0 (.fn 23 [.p none, .i .u64 a1, .i .u8 a2] [] (.i .u64 r) []) := by
  refine fn_wpl Tryd.func23 rfl (Q := (soft_Calc_Note_nil.Q a1 a2 r)) (fun s h => h) ?_
  unfold soft_Calc_Note_nil.f at H
  simp only [Tryd.ntmps23, List.length, List.replicate, Nat.reduceAdd, Nat.reduceSub, List.cons_append, List.nil_append]
  refine w_seq ?_
  refine wR fun K hK => ?_
  refine g_as rfl rfl (gT ?_)
  refine g_nil (hK _ _ _ ?_)
  refine k_seq ?_
  refine w_seq ?_
  refine wR fun K hK => ?_
  refine g_mv rfl rfl (gT ?_)
  refine g_mv rfl rfl (gT ?_)
  refine g_mv rfl rfl (gT ?_)
  obtain ⟨q1, hq1, H⟩ := bnd H
  refine g_cs [] rfl rfl (by rfl) Tryd.func34 rfl (by decide) (soft_Calc_note_nil.does hq1) ⟨Nat.le_of_ble_eq_true rfl, Nat.le_of_ble_eq_true rfl⟩ ?_; refine gC ?_
  refine g_as rfl rfl (gT ?_)
  refine g_nil (hK _ _ _ ?_)
  refine k_seq ?_
  refine w_ret ?_
  refine fin_wp (τ := []) rfl (by decide) ?_; rw [← Option.some.inj H]; simp only [Tryd.f23]; exact gF

set_option maxHeartbeats 8000000 in
set_option maxRecDepth 100000 in
theorem vec_Nrm2_nil.does_l {l1 : List Int} (k : Nat) : (∀ (e_5 : Int) (sum_10 : Int) (h1 : List Int) (t_32 : Int) (t_33 : Int) (h0 : Int) (r : Int), vec_Nrm2_nil.l0 k e_5 sum_10 h1 t_32 t_33 h0 = some r → wk_ E0 (vec_Nrm2_nil.Q l1 r) (frs (bodyOf Tryd.f6) [1, 1, 1, 1, 1, 0, 1, 0] []) (sub (bodyOf Tryd.f6) [1, 1, 1, 1, 1, 0, 1, 0]) ⟨[.p none, .u, .u, .u, .u, .i .i64 e_5, .u, .u, .u, .p (some (0, 0)), .i .u64 sum_10, .u, .u, .u, .u, .u, .u, .u, .u, .u, .u, .u, .u, .u, .u, .u, .u, .u, .u, .u, .u, .s (some (1, 0)) h1.length, .i .i64 t_32, .i .i64 t_33, .u, .u, .u, .u, .u, .u, .u, .u, .u, .u, .u, .u, .u, .u, .u, .u, .u, .u, .u, .u, .u, .u, .u, .u, .u, .u, .u, .u], ofL [.row [.i .u8 h0] 0 0 true true none, .row (h1.map (V.i .u64)) 2 1 true true none], 2, 0⟩) := by
  induction k with
  | zero => exact fun _ _ _ _ _ _ r h => by simp [vec_Nrm2_nil.l0] at h
  | succ k ih =>
    have ih0 := ih
    refine ?_
    · intro e_5 sum_10 h1 t_32 t_33 h0 r H
      unfold vec_Nrm2_nil.l0 at H
      simp only [bodyOf, Tryd.f6, frs, sub, if_true, if_false, Nat.one_ne_zero]
      refine w_loop ?_
      refine w_seq ?_
      refine wR fun K hK => ?_
      refine g_bin rfl rfl rfl rfl rfl (gT ?_)
      refine g_nil (hK _ _ _ ?_)
      refine k_seq ?_
      refine w_seq ?_
      rcases its H with ⟨c5, H⟩ | ⟨c5, H⟩
      · have c5b := decide_eq_true c5; try simp only [c5b, nrm]
        refine w_cond rfl (fun _ => ?_) (fun h => Bool.noConfusion h)
        refine w_skip ?_
        refine k_seq ?_
        refine w_seq ?_
        refine w_block ?_
        refine w_seq ?_
        refine wR fun K hK => ?_
        obtain ⟨c6, H⟩ := it1 H
        obtain ⟨c7, H⟩ := it1 H
        refine g_ixo rfl rfl Tryd.underlying22 sz28 rfl rfl (by first | assumption | omega) (by first | assumption | omega | (simp only [List.length_set, List.length_replicate] at *; omega)) (gT ?_)
        refine g_ldo rfl rfl ag28 sz28 rfl rfl (by first | assumption | omega | (simp only [List.length_set, List.length_replicate] at *; omega)) (gT ?_)
        refine g_as rfl rfl (gT ?_)
        refine g_nil (hK _ _ _ ?_)
        refine k_seq ?_
        refine wR fun K hK => ?_
        refine g_mv rfl rfl (gT ?_)
        refine g_mv rfl rfl (gT ?_)
        refine g_mv rfl rfl (gT ?_)
        obtain ⟨q8, hq8, H⟩ := bnd H
        refine g_cs [0] rfl rfl (by rfl) Tryd.func20 rfl (by decide) (soft_Calc_Mul.does hq8) ⟨Nat.le_of_ble_eq_true rfl, Nat.le_of_ble_eq_true rfl⟩ ?_; refine gC ?_
        obtain ⟨q9, hq9, H⟩ := bnd H
        refine g_cs [0] rfl rfl (by rfl) Tryd.func19 rfl (by decide) (soft_Calc_Add.does hq9) ⟨Nat.le_of_ble_eq_true rfl, Nat.le_of_ble_eq_true rfl⟩ ?_; refine gC ?_
        refine g_as rfl rfl (gT ?_)
        refine g_nil (hK _ _ _ ?_)
        refine k_block ?_
        refine k_seq ?_
        refine wR fun K hK => ?_
        refine g_bin rfl rfl rfl rfl rfl (gT ?_)
        refine g_mv rfl rfl (gT ?_)
        refine g_nil (hK _ _ _ ?_)
        refine k_loop ?_
        refine w_wk (σ := [0, 1]) [0, 4, 3, 0, 20, 0, 0] rfl (by decide) ?_; refine gC ?_
        exact gI (ih0 e_5 q9.1 h1 t_32 (wrap64 (t_33 + 1)) q9.2 r H)
      · have c5b := decide_eq_false c5; try simp only [c5b, nrm]
        refine w_cond rfl (fun h => Bool.noConfusion h) (fun _ => ?_)
        refine w_exit rfl ?_
        refine k_seq ?_
        refine w_seq ?_
        refine wR fun K hK => ?_
        refine g_mv rfl rfl (gT ?_)
        obtain ⟨q10, hq10, H⟩ := bnd H
        refine g_cs [] rfl rfl (by rfl) Tryd.func21 rfl (by decide) (more_Sqrt.does hq10) ⟨Nat.le_of_ble_eq_true rfl, Nat.le_of_ble_eq_true rfl⟩ ?_; refine gC ?_
        refine g_mv rfl rfl (gT ?_)
        refine g_ext rfl rfl rfl (Nat.le_of_ble_eq_true rfl) (gT ?_)
        refine g_ext rfl rfl rfl (Nat.le_of_ble_eq_true rfl) (gT ?_)
        refine g_as rfl rfl (gT ?_)
        refine g_as rfl rfl (gT ?_)
        refine g_nil (hK _ _ _ ?_)
        refine k_seq ?_
        refine w_seq ?_
        refine wR fun K hK => ?_
        refine g_mv rfl rfl (gT ?_)
        refine g_mv rfl rfl (gT ?_)
        obtain ⟨q11, hq11, H⟩ := bnd H
        refine g_cs [] rfl rfl (by rfl) Tryd.func22 rfl (by decide) (more_Scale.does hq11) ⟨Nat.le_of_ble_eq_true rfl, Nat.le_of_ble_eq_true rfl⟩ ?_; refine gC ?_
        refine g_mv rfl rfl (gT ?_)
        refine g_ext rfl rfl rfl (Nat.le_of_ble_eq_true rfl) (gT ?_)
        refine g_ext rfl rfl rfl (Nat.le_of_ble_eq_true rfl) (gT ?_)
        refine g_as rfl rfl (gT ?_)
        refine g_as rfl rfl (gT ?_)
        refine g_nil (hK _ _ _ ?_)
        refine k_seq ?_
        refine w_seq ?_
        refine wR fun K hK => ?_
        refine g_mv rfl rfl (gT ?_)
        refine g_mv rfl rfl (gT ?_)
        refine g_mv rfl rfl (gT ?_)
        refine g_fd rfl rfl fa27_0 rfl (gT ?_)
        refine g_ldc rfl rfl ag25 sz25 rfl rfl rfl (gT ?_)
        refine g_bin rfl rfl rfl rfl rfl (gT ?_)
        refine g_bin rfl rfl rfl rfl rfl (gT ?_)
        obtain ⟨q12, hq12, H⟩ := bnd H
        refine g_cs [] rfl rfl (by rfl) Tryd.func23 rfl (by decide) (soft_Calc_Note_nil.does hq12) ⟨Nat.le_of_ble_eq_true rfl, Nat.le_of_ble_eq_true rfl⟩ ?_; refine gC ?_
        refine g_as rfl rfl (gT ?_)
        refine g_nil (hK _ _ _ ?_)
        refine k_seq ?_
        refine w_ret ?_
        refine fin_wp (τ := []) rfl (by decide) ?_; rw [← Option.some.inj H]; simp only [Tryd.f6]; exact gF
set_option maxHeartbeats 8000000 in
set_option maxRecDepth 100000 in
theorem vec_Nrm2_nil.does {k : Nat} {l1 : List Int} {r : Int} (H : vec_Nrm2_nil.f k l1 = some r) : Do E0 (.fn 6 [.p none, .r (l1.map (V.i .u64)) l1.length true] [] (.i .u64 r) []) := by
  obtain ih0 := vec_Nrm2_nil.does_l (l1 := l1) k
  refine fn_wpl Tryd.func6 rfl (Q := (vec_Nrm2_nil.Q l1 r)) (fun s h => h) ?_
  unfold vec_Nrm2_nil.f at H
  simp only [Tryd.ntmps6, List.length, List.replicate, Nat.reduceAdd, Nat.reduceSub, List.cons_append, List.nil_append]
  refine w_seq ?_
  refine wR fun K hK => ?_
  refine g_as rfl rfl (gT ?_)
  refine g_nil (hK _ _ _ ?_)
  refine k_seq ?_
  refine w_seq ?_
  refine wR fun K hK => ?_
  refine g_mv rfl rfl (gT ?_)
  obtain ⟨q1, hq1, H⟩ := bnd H
  refine g_cs [] rfl rfl (by rfl) Tryd.func17 rfl (by decide) (vec_Power.does hq1) ⟨Nat.le_of_ble_eq_true rfl, Nat.le_of_ble_eq_true rfl⟩ ?_; refine gC ?_
  refine g_mv rfl rfl (gT ?_)
  refine g_ext rfl rfl rfl (Nat.le_of_ble_eq_true rfl) (gT ?_)
  refine g_ext rfl rfl rfl (Nat.le_of_ble_eq_true rfl) (gT ?_)
  refine g_as rfl rfl (gT ?_)
  refine g_as rfl rfl (gT ?_)
  refine g_nil (hK _ _ _ ?_)
  refine k_seq ?_
  refine w_seq ?_
  refine w_seq ?_
  refine wR fun K hK => ?_
  refine g_mv rfl rfl (gT ?_)
  refine g_un rfl rfl rfl rfl (gT ?_)
  refine g_nil (hK _ _ _ ?_)
  refine k_seq ?_
  rcases its H with ⟨c2, H⟩ | ⟨c2, H⟩
  · have c2b : q1.2 = true := c2; try simp only [c2b, nrm]
    refine w_cond rfl (fun h => Bool.noConfusion h) (fun _ => ?_)
    refine w_skip ?_
    refine k_seq ?_
    refine w_seq ?_
    refine wR fun K hK => ?_
    refine g_alloc rfl rfl zr27 (gU ?_)
    refine g_nil (hK _ _ _ ?_)
    refine k_seq ?_
    refine w_seq ?_
    refine wR fun K hK => ?_
    refine g_as rfl rfl (gT ?_)
    refine g_nil (hK _ _ _ ?_)
    refine k_seq ?_
    refine w_seq ?_
    refine w_seq ?_
    refine wR fun K hK => ?_
    refine g_mv rfl rfl (gT ?_)
    refine g_mv rfl rfl (gT ?_)
    obtain ⟨q3, hq3, H⟩ := bnd H
    refine g_cs [] rfl rfl (by rfl) Tryd.func18 rfl (by decide) (vec_Unit.does hq3) ⟨Nat.le_of_ble_eq_true rfl, Nat.le_of_ble_eq_true rfl⟩ ?_; refine gC ?_
    refine g_len_s rfl rfl Tryd.underlying22 rfl (gT ?_)
    refine g_mv rfl rfl (gT ?_)
    refine g_nil (hK _ _ _ ?_)
    refine k_seq ?_
    refine w_block ?_
    refine w_wk (σ := [40, 56]) [0, 4, 3, 0, 20, 0, 0] rfl (by decide) ?_; refine gC ?_
    exact gI (ih0 q1.1 0 q3 (q3.length : Int) 0 0 r H)
  · have c2b : q1.2 = false := Bool.eq_false_iff.mpr c2; try simp only [c2b, nrm]
    refine w_cond rfl (fun _ => ?_) (fun h => Bool.noConfusion h)
    refine w_seq ?_
    refine wR fun K hK => ?_
    refine g_mv rfl rfl (gT ?_)
    obtain ⟨q4, hq4, H⟩ := bnd H
    refine g_cs [] rfl rfl (by rfl) Tryd.func8 rfl (by decide) (order_Greatest.does hq4) ⟨Nat.le_of_ble_eq_true rfl, Nat.le_of_ble_eq_true rfl⟩ ?_; refine gC ?_
    refine g_mv rfl rfl (gT ?_)
    refine g_ext rfl rfl rfl (Nat.le_of_ble_eq_true rfl) (gT ?_)
    refine g_ext rfl rfl rfl (Nat.le_of_ble_eq_true rfl) (gT ?_)
    refine g_as rfl rfl (gT ?_)
    refine g_as rfl rfl (gT ?_)
    refine g_nil (hK _ _ _ ?_)
    refine k_seq ?_
    refine w_seq ?_
    refine wR fun K hK => ?_
    refine g_mv rfl rfl (gT ?_)
    refine g_as rfl rfl (gT ?_)
    refine g_nil (hK _ _ _ ?_)
    refine k_seq ?_
    refine w_ret ?_
    refine fin_wp (τ := []) rfl (by decide) ?_; rw [← Option.some.inj H]; simp only [Tryd.f6]; exact gF

set_option maxHeartbeats 8000000 in
set_option maxRecDepth 100000 in
theorem gimballaw10_head.does {k : Nat} {r : Bool} (H : gimballaw10_head.f k  = some r) : Do E0 (.fn 5 [] [] (.b r) []) := by
  refine fn_wpl Tryd.func5 rfl (Q := (gimballaw10_head.Q  r)) (fun s h => h) ?_
  unfold gimballaw10_head.f at H
  simp only [Tryd.ntmps5, List.length, List.replicate, Nat.reduceAdd, Nat.reduceSub, List.cons_append, List.nil_append]
  refine w_seq ?_
  refine wR fun K hK => ?_
  refine g_as rfl rfl (gT ?_)
  refine g_nil (hK _ _ _ ?_)
  refine k_seq ?_
  refine w_seq ?_
  refine wR fun K hK => ?_
  refine g_bsl (k := .u64) (xs := [4613937818241073152, 4616189618054758400]) rfl rfl Tryd.underlying22 sz28 zr28 (by decide) rfl rfl rfl (gU ?_)
  obtain ⟨q1, hq1, H⟩ := bnd H
  refine g_cs [] rfl rfl (by rfl) Tryd.func6 rfl (by decide) (vec_Nrm2_nil.does hq1) ⟨Nat.le_of_ble_eq_true rfl, Nat.le_of_ble_eq_true rfl⟩ ?_; refine gC ?_
  refine g_bin rfl rfl rfl rfl rfl (gT ?_)
  refine g_as rfl rfl (gT ?_)
  refine g_nil (hK _ _ _ ?_)
  refine k_seq ?_
  refine w_ret ?_
  refine fin_wp (τ := []) rfl (by decide) ?_; rw [← Option.some.inj H]; simp only [Tryd.f5]; exact gF

theorem gimballaw10_head_ok.does {r : Unit} (H : gimballaw10_head_ok.f = some r) : Do E0 (.fn 5 [] [] (.b true) []) := (gimballaw10_head.does (k := 200) (r := true) (by kernel_rfl))

set_option maxHeartbeats 8000000 in
set_option maxRecDepth 100000 in
theorem soft_Calc_Note.does {s0_0 : Int} {a1 : Int} {a2 : Int} {r : Int × Int} (H : soft_Calc_Note.f s0_0 a1 a2 = some r) : Do E0 (.fn 23 [.p (some (0, 0)), .i .u64 a1, .i .u8 a2] [.row [.i .u8 s0_0] 0 0 true false none] (.i .u64 r.1) [.row [.i .u8 r.2] 0 0 true false none]) := by
  refine fn_wpl Tryd.func23 rfl (Q := (soft_Calc_Note.Q s0_0 a1 a2 r)) (fun s h => h) ?_
  unfold soft_Calc_Note.f at H
  simp only [Tryd.ntmps23, List.length, List.replicate, Nat.reduceAdd, Nat.reduceSub, List.cons_append, List.nil_append]
  refine w_seq ?_
  refine wR fun K hK => ?_
  refine g_as rfl rfl (gT ?_)
  refine g_nil (hK _ _ _ ?_)
  refine k_seq ?_
  refine w_seq ?_
  refine wR fun K hK => ?_
  refine g_mv rfl rfl (gT ?_)
  refine g_mv rfl rfl (gT ?_)
  refine g_mv rfl rfl (gT ?_)
  obtain ⟨q1, hq1, H⟩ := bnd H
  refine g_cs [0] rfl rfl (by rfl) Tryd.func34 rfl (by decide) (soft_Calc_note.does hq1) ⟨Nat.le_of_ble_eq_true rfl, Nat.le_of_ble_eq_true rfl⟩ ?_; refine gC ?_
  refine g_as rfl rfl (gT ?_)
  refine g_nil (hK _ _ _ ?_)
  refine k_seq ?_
  refine w_ret ?_
  refine fin_wp (τ := [0]) rfl (by decide) ?_; rw [← Option.some.inj H]; simp only [Tryd.f23]; exact gF

set_option maxHeartbeats 8000000 in
set_option maxRecDepth 100000 in
theorem vec_Nrm2.does_l {s0_0 : Int} {l1 : List Int} (k : Nat) : (∀ (e_5 : Int) (sum_10 : Int) (h2 : List Int) (t_32 : Int) (t_33 : Int) (h0 : Int) (h1 : Int) (r : Int × Int), vec_Nrm2.l0 k e_5 sum_10 h2 t_32 t_33 h0 h1 = some r → wk_ E0 (vec_Nrm2.Q s0_0 l1 r) (frs (bodyOf Tryd.f6) [1, 1, 1, 1, 1, 0, 1, 0] []) (sub (bodyOf Tryd.f6) [1, 1, 1, 1, 1, 0, 1, 0]) ⟨[.p (some (0, 0)), .u, .u, .u, .u, .i .i64 e_5, .u, .u, .u, .p (some (1, 0)), .i .u64 sum_10, .u, .u, .u, .u, .u, .u, .u, .u, .u, .u, .u, .u, .u, .u, .u, .u, .u, .u, .u, .u, .s (some (2, 0)) h2.length, .i .i64 t_32, .i .i64 t_33, .u, .u, .u, .u, .u, .u, .u, .u, .u, .u, .u, .u, .u, .u, .u, .u, .u, .u, .u, .u, .u, .u, .u, .u, .u, .u, .u, .u], ofL [.row [.i .u8 h0] 0 0 true false none, .row [.i .u8 h1] 0 0 true true none, .row (h2.map (V.i .u64)) 2 1 true true none], 3, 1⟩) := by
  induction k with
  | zero => exact fun _ _ _ _ _ _ _ r h => by simp [vec_Nrm2.l0] at h
  | succ k ih =>
    have ih0 := ih
    refine ?_
    · intro e_5 sum_10 h2 t_32 t_33 h0 h1 r H
      unfold vec_Nrm2.l0 at H
      simp only [bodyOf, Tryd.f6, frs, sub, if_true, if_false, Nat.one_ne_zero]
      refine w_loop ?_
      refine w_seq ?_
      refine wR fun K hK => ?_
      refine g_bin rfl rfl rfl rfl rfl (gT ?_)
      refine g_nil (hK _ _ _ ?_)
      refine k_seq ?_
      refine w_seq ?_
      rcases its H with ⟨c5, H⟩ | ⟨c5, H⟩
      · have c5b := decide_eq_true c5; try simp only [c5b, nrm]
        refine w_cond rfl (fun _ => ?_) (fun h => Bool.noConfusion h)
        refine w_skip ?_
        refine k_seq ?_
        refine w_seq ?_
        refine w_block ?_
        refine w_seq ?_
        refine wR fun K hK => ?_
        obtain ⟨c6, H⟩ := it1 H
        obtain ⟨c7, H⟩ := it1 H
        refine g_ixo rfl rfl Tryd.underlying22 sz28 rfl rfl (by first | assumption | omega) (by first | assumption | omega | (simp only [List.length_set, List.length_replicate] at *; omega)) (gT ?_)
        refine g_ldo rfl rfl ag28 sz28 rfl rfl (by first | assumption | omega | (simp only [List.length_set, List.length_replicate] at *; omega)) (gT ?_)
        refine g_as rfl rfl (gT ?_)
        refine g_nil (hK _ _ _ ?_)
        refine k_seq ?_
        refine wR fun K hK => ?_
        refine g_mv rfl rfl (gT ?_)
        refine g_mv rfl rfl (gT ?_)
        refine g_mv rfl rfl (gT ?_)
        obtain ⟨q8, hq8, H⟩ := bnd H
        refine g_cs [1] rfl rfl (by rfl) Tryd.func20 rfl (by decide) (soft_Calc_Mul.does hq8) ⟨Nat.le_of_ble_eq_true rfl, Nat.le_of_ble_eq_true rfl⟩ ?_; refine gC ?_
        obtain ⟨q9, hq9, H⟩ := bnd H
        refine g_cs [1] rfl rfl (by rfl) Tryd.func19 rfl (by decide) (soft_Calc_Add.does hq9) ⟨Nat.le_of_ble_eq_true rfl, Nat.le_of_ble_eq_true rfl⟩ ?_; refine gC ?_
        refine g_as rfl rfl (gT ?_)
        refine g_nil (hK _ _ _ ?_)
        refine k_block ?_
        refine k_seq ?_
        refine wR fun K hK => ?_
        refine g_bin rfl rfl rfl rfl rfl (gT ?_)
        refine g_mv rfl rfl (gT ?_)
        refine g_nil (hK _ _ _ ?_)
        refine k_loop ?_
        refine w_wk (σ := [0, 1, 2]) [0, 4, 3, 0, 20, 0, 0] rfl (by decide) ?_; refine gC ?_
        exact gI (ih0 e_5 q9.1 h2 t_32 (wrap64 (t_33 + 1)) h0 q9.2 r H)
      · have c5b := decide_eq_false c5; try simp only [c5b, nrm]
        refine w_cond rfl (fun h => Bool.noConfusion h) (fun _ => ?_)
        refine w_exit rfl ?_
        refine k_seq ?_
        refine w_seq ?_
        refine wR fun K hK => ?_
        refine g_mv rfl rfl (gT ?_)
        obtain ⟨q10, hq10, H⟩ := bnd H
        refine g_cs [] rfl rfl (by rfl) Tryd.func21 rfl (by decide) (more_Sqrt.does hq10) ⟨Nat.le_of_ble_eq_true rfl, Nat.le_of_ble_eq_true rfl⟩ ?_; refine gC ?_
        refine g_mv rfl rfl (gT ?_)
        refine g_ext rfl rfl rfl (Nat.le_of_ble_eq_true rfl) (gT ?_)
        refine g_ext rfl rfl rfl (Nat.le_of_ble_eq_true rfl) (gT ?_)
        refine g_as rfl rfl (gT ?_)
        refine g_as rfl rfl (gT ?_)
        refine g_nil (hK _ _ _ ?_)
        refine k_seq ?_
        refine w_seq ?_
        refine wR fun K hK => ?_
        refine g_mv rfl rfl (gT ?_)
        refine g_mv rfl rfl (gT ?_)
        obtain ⟨q11, hq11, H⟩ := bnd H
        refine g_cs [] rfl rfl (by rfl) Tryd.func22 rfl (by decide) (more_Scale.does hq11) ⟨Nat.le_of_ble_eq_true rfl, Nat.le_of_ble_eq_true rfl⟩ ?_; refine gC ?_
        refine g_mv rfl rfl (gT ?_)
        refine g_ext rfl rfl rfl (Nat.le_of_ble_eq_true rfl) (gT ?_)
        refine g_ext rfl rfl rfl (Nat.le_of_ble_eq_true rfl) (gT ?_)
        refine g_as rfl rfl (gT ?_)
        refine g_as rfl rfl (gT ?_)
        refine g_nil (hK _ _ _ ?_)
        refine k_seq ?_
        refine w_seq ?_
        refine wR fun K hK => ?_
        refine g_mv rfl rfl (gT ?_)
        refine g_mv rfl rfl (gT ?_)
        refine g_mv rfl rfl (gT ?_)
        refine g_fd rfl rfl fa27_0 rfl (gT ?_)
        refine g_ldc rfl rfl ag25 sz25 rfl rfl rfl (gT ?_)
        refine g_bin rfl rfl rfl rfl rfl (gT ?_)
        refine g_bin rfl rfl rfl rfl rfl (gT ?_)
        obtain ⟨q12, hq12, H⟩ := bnd H
        refine g_cs [0] rfl rfl (by rfl) Tryd.func23 rfl (by decide) (soft_Calc_Note.does hq12) ⟨Nat.le_of_ble_eq_true rfl, Nat.le_of_ble_eq_true rfl⟩ ?_; refine gC ?_
        refine g_as rfl rfl (gT ?_)
        refine g_nil (hK _ _ _ ?_)
        refine k_seq ?_
        refine w_ret ?_
        refine fin_wp (τ := [0]) rfl (by decide) ?_; rw [← Option.some.inj H]; simp only [Tryd.f6]; exact gF
set_option maxHeartbeats 8000000 in
set_option maxRecDepth 100000 in
theorem vec_Nrm2.does {k : Nat} {s0_0 : Int} {l1 : List Int} {r : Int × Int} (H : vec_Nrm2.f k s0_0 l1 = some r) : Do E0 (.fn 6 [.p (some (0, 0)), .r (l1.map (V.i .u64)) l1.length true] [.row [.i .u8 s0_0] 0 0 true false none] (.i .u64 r.1) [.row [.i .u8 r.2] 0 0 true false none]) := by
  obtain ih0 := vec_Nrm2.does_l (s0_0 := s0_0) (l1 := l1) k
  refine fn_wpl Tryd.func6 rfl (Q := (vec_Nrm2.Q s0_0 l1 r)) (fun s h => h) ?_
  unfold vec_Nrm2.f at H
  simp only [Tryd.ntmps6, List.length, List.replicate, Nat.reduceAdd, Nat.reduceSub, List.cons_append, List.nil_append]
  refine w_seq ?_
  refine wR fun K hK => ?_
  refine g_as rfl rfl (gT ?_)
  refine g_nil (hK _ _ _ ?_)
  refine k_seq ?_
  refine w_seq ?_
  refine wR fun K hK => ?_
  refine g_mv rfl rfl (gT ?_)
  obtain ⟨q1, hq1, H⟩ := bnd H
  refine g_cs [] rfl rfl (by rfl) Tryd.func17 rfl (by decide) (vec_Power.does hq1) ⟨Nat.le_of_ble_eq_true rfl, Nat.le_of_ble_eq_true rfl⟩ ?_; refine gC ?_
  refine g_mv rfl rfl (gT ?_)
  refine g_ext rfl rfl rfl (Nat.le_of_ble_eq_true rfl) (gT ?_)
  refine g_ext rfl rfl rfl (Nat.le_of_ble_eq_true rfl) (gT ?_)
  refine g_as rfl rfl (gT ?_)
  refine g_as rfl rfl (gT ?_)
  refine g_nil (hK _ _ _ ?_)
  refine k_seq ?_
  refine w_seq ?_
  refine w_seq ?_
  refine wR fun K hK => ?_
  refine g_mv rfl rfl (gT ?_)
  refine g_un rfl rfl rfl rfl (gT ?_)
  refine g_nil (hK _ _ _ ?_)
  refine k_seq ?_
  rcases its H with ⟨c2, H⟩ | ⟨c2, H⟩
  · have c2b : q1.2 = true := c2; try simp only [c2b, nrm]
    refine w_cond rfl (fun h => Bool.noConfusion h) (fun _ => ?_)
    refine w_skip ?_
    refine k_seq ?_
    refine w_seq ?_
    refine wR fun K hK => ?_
    refine g_alloc rfl rfl zr27 (gU ?_)
    refine g_nil (hK _ _ _ ?_)
    refine k_seq ?_
    refine w_seq ?_
    refine wR fun K hK => ?_
    refine g_as rfl rfl (gT ?_)
    refine g_nil (hK _ _ _ ?_)
    refine k_seq ?_
    refine w_seq ?_
    refine w_seq ?_
    refine wR fun K hK => ?_
    refine g_mv rfl rfl (gT ?_)
    refine g_mv rfl rfl (gT ?_)
    obtain ⟨q3, hq3, H⟩ := bnd H
    refine g_cs [] rfl rfl (by rfl) Tryd.func18 rfl (by decide) (vec_Unit.does hq3) ⟨Nat.le_of_ble_eq_true rfl, Nat.le_of_ble_eq_true rfl⟩ ?_; refine gC ?_
    refine g_len_s rfl rfl Tryd.underlying22 rfl (gT ?_)
    refine g_mv rfl rfl (gT ?_)
    refine g_nil (hK _ _ _ ?_)
    refine k_seq ?_
    refine w_block ?_
    refine w_wk (σ := [0, 41, 57]) [0, 4, 3, 0, 20, 0, 0] rfl (by decide) ?_; refine gC ?_
    exact gI (ih0 q1.1 0 q3 (q3.length : Int) 0 s0_0 0 r H)
  · have c2b : q1.2 = false := Bool.eq_false_iff.mpr c2; try simp only [c2b, nrm]
    refine w_cond rfl (fun _ => ?_) (fun h => Bool.noConfusion h)
    refine w_seq ?_
    refine wR fun K hK => ?_
    refine g_mv rfl rfl (gT ?_)
    obtain ⟨q4, hq4, H⟩ := bnd H
    refine g_cs [] rfl rfl (by rfl) Tryd.func8 rfl (by decide) (order_Greatest.does hq4) ⟨Nat.le_of_ble_eq_true rfl, Nat.le_of_ble_eq_true rfl⟩ ?_; refine gC ?_
    refine g_mv rfl rfl (gT ?_)
    refine g_ext rfl rfl rfl (Nat.le_of_ble_eq_true rfl) (gT ?_)
    refine g_ext rfl rfl rfl (Nat.le_of_ble_eq_true rfl) (gT ?_)
    refine g_as rfl rfl (gT ?_)
    refine g_as rfl rfl (gT ?_)
    refine g_nil (hK _ _ _ ?_)
    refine k_seq ?_
    refine w_seq ?_
    refine wR fun K hK => ?_
    refine g_mv rfl rfl (gT ?_)
    refine g_as rfl rfl (gT ?_)
    refine g_nil (hK _ _ _ ?_)
    refine k_seq ?_
    refine w_ret ?_
    refine fin_wp (τ := [0]) rfl (by decide) ?_; rw [← Option.some.inj H]; simp only [Tryd.f6]; exact gF

set_option maxHeartbeats 8000000 in
set_option maxRecDepth 100000 in
theorem word_Finite.does {a0 : Int} {r : Bool} (H : word_Finite.f a0 = some r) : Do E0 (.fn 24 [.i .u64 a0] [] (.b r) []) := by
  refine fn_wpl Tryd.func24 rfl (Q := (word_Finite.Q a0 r)) (fun s h => h) ?_
  unfold word_Finite.f at H
  simp only [Tryd.ntmps24, List.length, List.replicate, Nat.reduceAdd, Nat.reduceSub, List.cons_append, List.nil_append]
  refine w_seq ?_
  refine wR fun K hK => ?_
  refine g_as rfl rfl (gT ?_)
  refine g_nil (hK _ _ _ ?_)
  refine k_seq ?_
  refine w_seq ?_
  refine wR fun K hK => ?_
  refine g_mv rfl rfl (gT ?_)
  obtain ⟨q1, hq1, H⟩ := bnd H
  refine g_cs [] rfl rfl (by rfl) Tryd.func42 rfl (by decide) (word_Exp.does hq1) ⟨Nat.le_of_ble_eq_true rfl, Nat.le_of_ble_eq_true rfl⟩ ?_; refine gC ?_
  refine g_bin rfl rfl rfl rfl rfl (gT ?_)
  refine g_as rfl rfl (gT ?_)
  refine g_nil (hK _ _ _ ?_)
  refine k_seq ?_
  refine w_ret ?_
  refine fin_wp (τ := []) rfl (by decide) ?_; rw [← Option.some.inj H]; simp only [Tryd.f24]; exact gF

set_option maxHeartbeats 8000000 in
set_option maxRecDepth 100000 in
theorem bits_TrailingZeros32.does {a0 : Int} {r : Int} (H : bits_TrailingZeros32.f a0 = some r) : Do E0 (.fn 44 [.i .u32 a0] [] (.i .i64 r) []) := by
  refine fn_wpl Tryd.func44 rfl (Q := (bits_TrailingZeros32.Q a0 r)) (fun s h => h) ?_
  unfold bits_TrailingZeros32.f at H
  simp only [Tryd.ntmps44, List.length, List.replicate, Nat.reduceAdd, Nat.reduceSub, List.cons_append, List.nil_append]
  refine w_seq ?_
  refine wR fun K hK => ?_
  refine g_as rfl rfl (gT ?_)
  refine g_nil (hK _ _ _ ?_)
  refine k_seq ?_
  refine w_seq ?_
  refine w_seq ?_
  refine wR fun K hK => ?_
  refine g_mv rfl rfl (gT ?_)
  refine g_bin rfl rfl rfl rfl rfl (gT ?_)
  refine g_nil (hK _ _ _ ?_)
  refine k_seq ?_
  rcases its H with ⟨c1, H⟩ | ⟨c1, H⟩
  · have c1b := beq_iff_eq.mpr c1; have c1n := bne_eq_false_iff_eq.mpr c1; try simp only [c1b, c1n, nrm]
    refine w_cond rfl (fun _ => ?_) (fun h => Bool.noConfusion h)
    refine w_seq ?_
    refine wR fun K hK => ?_
    refine g_as rfl rfl (gT ?_)
    refine g_nil (hK _ _ _ ?_)
    refine k_seq ?_
    refine w_ret ?_
    refine fin_wp (τ := []) rfl (by decide) ?_; rw [← Option.some.inj H]; simp only [Tryd.f44]; exact gF
  · have c1b := beq_eq_false_iff_ne.mpr c1; have c1n := bne_iff_ne.mpr c1; try simp only [c1b, c1n, nrm]
    refine w_cond rfl (fun h => Bool.noConfusion h) (fun _ => ?_)
    refine w_skip ?_
    refine k_seq ?_
    refine w_seq ?_
    refine wR fun K hK => ?_
    refine g_mv rfl rfl (gT ?_)
    refine g_mv rfl rfl (gT ?_)
    refine g_un rfl rfl rfl rfl (gT ?_)
    refine g_bin rfl rfl rfl rfl rfl (gT ?_)
    refine g_bin rfl rfl rfl rfl rfl (gT ?_)
    refine g_shrc (p := 134217728) rfl rfl rfl rfl (by decide) (by rfl) (gT ?_)
    obtain ⟨c2, H⟩ := it1 H
    obtain ⟨c3, H⟩ := it1 H
    refine g_ixg (l := List.map (V.i .u8) tab32) rfl rfl Tryd.underlying85 sz5 rfl rfl (by first | assumption | omega) (by first | assumption | omega | (simp only [List.length_set, List.length_replicate] at *; omega)) (gT ?_)
    refine g_ldq rfl rfl ag5 sz5 rfl (by first | assumption | omega | (show _ < 32; omega)) (gT ?_)
    refine g_conv rfl rfl Tryd.underlying5 Tryd.underlying3 rfl (gT ?_)
    refine g_as rfl rfl (gT ?_)
    refine g_nil (hK _ _ _ ?_)
    refine k_seq ?_
    refine w_ret ?_
    refine fin_wp (τ := []) rfl (by decide) ?_; rw [← Option.some.inj H]; simp only [Tryd.f44]; exact gF

set_option maxHeartbeats 8000000 in
set_option maxRecDepth 100000 in
theorem dyad_down.does_l {l0 : List Int} {a1 : Int} (k : Nat) : (∀ (m_0 : List Int) (s_1 : Int) (h0 : List Int) (t_12 : Int) (t_13 : Int) (r : (List Int)), dyad_down.l0 k m_0 s_1 h0 t_12 t_13 = some r → wk_ E0 (dyad_down.Q l0 a1 r) (frs (bodyOf Tryd.f45) [1, 1, 0, 1, 0] []) (sub (bodyOf Tryd.f45) [1, 1, 0, 1, 0]) ⟨[.r (m_0.map (V.i .u32)) m_0.length true, .i .i64 s_1, .u, .u, .u, .s (some (0, 0)) h0.length, .u, .u, .u, .u, .u, .u, .i .i64 t_12, .i .i64 t_13, .u, .u, .u, .u, .u, .u, .u, .u, .u, .u, .u, .u, .u, .u, .u, .u, .u, .u, .u, .u, .u, .u, .u, .u, .u, .u, .u, .u, .u, .u, .u, .u, .u, .u, .u, .u, .u, .u, .u, .u, .u, .u, .u, .u, .u, .u, .u, .u, .u, .u], ofL [.row (h0.map (V.i .u32)) 2 1 true true none], 1, 0⟩) := by
  induction k with
  | zero => exact fun _ _ _ _ _ r h => by simp [dyad_down.l0] at h
  | succ k ih =>
    have ih0 := ih
    refine ?_
    · intro m_0 s_1 h0 t_12 t_13 r H
      unfold dyad_down.l0 at H
      simp only [bodyOf, Tryd.f45, frs, sub, if_true, if_false, Nat.one_ne_zero]
      refine w_loop ?_
      refine w_seq ?_
      refine wR fun K hK => ?_
      refine g_bin rfl rfl rfl rfl rfl (gT ?_)
      refine g_nil (hK _ _ _ ?_)
      refine k_seq ?_
      refine w_seq ?_
      rcases its H with ⟨c3, H⟩ | ⟨c3, H⟩
      · have c3b := decide_eq_true c3; try simp only [c3b, nrm]
        refine w_cond rfl (fun _ => ?_) (fun h => Bool.noConfusion h)
        refine w_skip ?_
        refine k_seq ?_
        refine w_seq ?_
        refine w_block ?_
        refine w_seq ?_
        refine wR fun K hK => ?_
        refine g_mv rfl rfl (gT ?_)
        refine g_as rfl rfl (gT ?_)
        refine g_nil (hK _ _ _ ?_)
        refine k_seq ?_
        refine w_seq ?_
        refine wR fun K hK => ?_
        refine g_mv rfl rfl (gT ?_)
        refine g_mv rfl rfl (gT ?_)
        refine g_mv rfl rfl (gT ?_)
        refine g_mv rfl rfl (gT ?_)
        obtain ⟨c4, H⟩ := it1 H
        obtain ⟨c5, H⟩ := it1 H
        refine g_ixr rfl rfl Tryd.underlying30 sz57 rfl rfl (by first | assumption | omega) (by first | assumption | omega | (simp only [List.length_set, List.length_replicate] at *; omega)) (gT ?_)
        refine g_ldq rfl rfl ag57 sz57 rfl (by first | assumption | omega) (gT ?_)
        refine g_mv rfl rfl (gT ?_)
        obtain ⟨c6, H⟩ := it1 H
        refine g_shr rfl rfl rfl rfl (by omega) (gT ?_)
        obtain ⟨c7, H⟩ := it1 H
        refine g_ixo rfl rfl Tryd.underlying30 sz57 rfl rfl (by first | assumption | omega) (by first | assumption | omega | (simp only [List.length_set, List.length_replicate] at *; omega)) (gT ?_)
        refine g_st rfl rfl sz57 rfl rfl rfl (by rfl) (by simp only [List.length_map, List.length_set, List.length_replicate]; first | assumption | omega) (gU ?_)
        refine g_nil (hK _ _ _ ?_)
        refine k_seq ?_
        refine w_seq ?_
        refine wR fun K hK => ?_
        refine g_mv rfl rfl (gT ?_)
        refine g_bin rfl rfl rfl rfl rfl (gT ?_)
        refine g_mv rfl rfl (gT ?_)
        refine g_len_r rfl rfl Tryd.underlying30 rfl (gT ?_)
        refine g_bin rfl rfl rfl rfl rfl (gT ?_)
        refine g_nil (hK _ _ _ ?_)
        refine k_seq ?_
        rcases its H with ⟨c8, H⟩ | ⟨c8, H⟩
        · have c8b := decide_eq_true c8; try simp only [c8b, nrm]
          refine w_cond rfl (fun _ => ?_) (fun h => Bool.noConfusion h)
          refine wD fun K hK => ?_
          refine g_mv rfl rfl (gT ?_)
          refine g_mv rfl rfl (gT ?_)
          refine g_ixo rfl rfl Tryd.underlying30 sz57 rfl rfl (by first | assumption | omega) (by first | assumption | omega | (simp only [List.length_set, List.length_replicate] at *; omega)) (gT ?_)
          refine g_ldo rfl rfl ag57 sz57 rfl rfl (by first | assumption | omega | (simp only [List.length_set, List.length_replicate] at *; omega)) (gT ?_)
          refine g_mv rfl rfl (gT ?_)
          refine g_mv rfl rfl (gT ?_)
          refine g_bin rfl rfl rfl rfl rfl (gT ?_)
          obtain ⟨c9, H⟩ := it1 H
          refine g_ixr rfl rfl Tryd.underlying30 sz57 rfl rfl (by first | assumption | omega) (by first | assumption | omega | (simp only [List.length_set, List.length_replicate] at *; omega)) (gT ?_)
          refine g_ldq rfl rfl ag57 sz57 rfl (by first | assumption | omega) (gT ?_)
          refine g_mv rfl rfl (gT ?_)
          refine g_bin rfl rfl rfl rfl rfl (gT ?_)
          obtain ⟨c10, H⟩ := it1 H
          refine g_shl rfl rfl rfl rfl (by omega) (gT ?_)
          refine g_bin rfl rfl rfl rfl rfl (gT ?_)
          refine g_ixo rfl rfl Tryd.underlying30 sz57 rfl rfl (by first | assumption | omega) (by first | assumption | omega | (simp only [List.length_set, List.length_replicate] at *; omega)) (gT ?_)
          refine g_st rfl rfl sz57 rfl rfl rfl (by rfl) (by simp only [List.length_map, List.length_set, List.length_replicate]; first | assumption | omega) (gU ?_)
          refine g_nil (hK _ _ _ (by kernel_rfl) ?_)
          refine k_block ?_
          refine k_seq ?_
          refine wR fun K hK => ?_
          refine g_bin rfl rfl rfl rfl rfl (gT ?_)
          refine g_mv rfl rfl (gT ?_)
          refine g_nil (hK _ _ _ ?_)
          refine k_loop ?_
          refine w_wk (σ := [0]) [0, 0, 3, 6, 0] rfl (by decide) ?_; refine gC ?_
          exact gI (ih0 m_0 s_1 ((h0.set t_13.toNat (shr .u32 (rd m_0 t_13) s_1)).set t_13.toNat (Go.bits .or .u32 (rd (h0.set t_13.toNat (shr .u32 (rd m_0 t_13) s_1)) t_13) (shl .u32 (rd m_0 (wrap64 (t_13 + 1))) (wrap64 (32 - s_1))))) t_12 (wrap64 (t_13 + 1)) r H)
        · have c8b := decide_eq_false c8; try simp only [c8b, nrm]
          refine w_cond rfl (fun h => Bool.noConfusion h) (fun _ => ?_)
          refine w_skip ?_
          refine k_block ?_
          refine k_seq ?_
          refine wR fun K hK => ?_
          refine g_bin rfl rfl rfl rfl rfl (gT ?_)
          refine g_mv rfl rfl (gT ?_)
          refine g_nil (hK _ _ _ ?_)
          refine k_loop ?_
          refine w_wk (σ := [0]) [0, 0, 3, 6, 0] rfl (by decide) ?_; refine gC ?_
          exact gI (ih0 m_0 s_1 (h0.set t_13.toNat (shr .u32 (rd m_0 t_13) s_1)) t_12 (wrap64 (t_13 + 1)) r H)
      · have c3b := decide_eq_false c3; try simp only [c3b, nrm]
        refine w_cond rfl (fun h => Bool.noConfusion h) (fun _ => ?_)
        refine w_exit rfl ?_
        refine k_seq ?_
        refine w_seq ?_
        refine w_seq ?_
        refine wR fun K hK => ?_
        refine g_mv rfl rfl (gT ?_)
        refine g_len_s rfl rfl Tryd.underlying30 rfl (gT ?_)
        refine g_as rfl rfl (gT ?_)
        refine g_nil (hK _ _ _ ?_)
        refine k_seq ?_
        refine w_seq ?_
        refine wR fun K hK => ?_
        refine g_mv rfl rfl (gT ?_)
        refine g_bin rfl rfl rfl rfl rfl (gT ?_)
        refine g_mv rfl rfl (gT ?_)
        rcases its H with ⟨c11, H⟩ | ⟨c11, H⟩
        · have c11b := decide_eq_true c11; try simp only [c11b, nrm]
          refine g_mv rfl rfl (gT ?_)
          refine g_mv rfl rfl (gT ?_)
          refine g_bin rfl rfl rfl rfl rfl (gT ?_)
          obtain ⟨c12, H⟩ := it1 H
          obtain ⟨c13, H⟩ := it1 H
          refine g_ixo rfl rfl Tryd.underlying30 sz57 rfl rfl (by first | assumption | omega) (by first | assumption | omega | (simp only [List.length_set, List.length_replicate] at *; omega)) (gT ?_)
          refine g_ldo rfl rfl ag57 sz57 rfl rfl (by first | assumption | omega | (simp only [List.length_set, List.length_replicate] at *; omega)) (gT ?_)
          refine g_bin rfl rfl rfl rfl rfl (gT ?_)
          refine g_pick rfl rfl rfl (gT ?_)
          refine g_nil (hK _ _ _ ?_)
          refine k_seq ?_
          rcases its H with ⟨c14, H⟩ | ⟨c14, H⟩
          · have c14b := beq_iff_eq.mpr c14; have c14n := bne_eq_false_iff_eq.mpr c14; try simp only [c14b, c14n, nrm]
            refine w_cond rfl (fun _ => ?_) (fun h => Bool.noConfusion h)
            refine wR fun K hK => ?_
            refine g_mv rfl rfl (gT ?_)
            refine g_mv rfl rfl (gT ?_)
            refine g_bin rfl rfl rfl rfl rfl (gT ?_)
            refine g_mv rfl rfl (gT ?_)
            refine g_bin rfl rfl rfl rfl rfl (gT ?_)
            obtain ⟨c15, H⟩ := it1 H
            obtain ⟨c16, H⟩ := it1 H
            refine g_csm rfl rfl Tryd.underlying30 sz57 rfl rfl rfl rfl (by first | assumption | omega) (by first | assumption | omega) (by first | assumption | omega) (gT ?_)
            refine g_as rfl rfl (gT ?_)
            refine g_nil (hK _ _ _ ?_)
            refine k_seq ?_
            refine w_seq ?_
            refine wR fun K hK => ?_
            refine g_mv rfl rfl (gT ?_)
            refine g_as rfl rfl (gT ?_)
            refine g_nil (hK _ _ _ ?_)
            refine k_seq ?_
            have tk0_ : (List.take (wrap64 ((h0.length : Int) - 1)).toNat h0).length = (wrap64 ((h0.length : Int) - 1)).toNat := by simp only [List.length_take, List.length_set, List.length_replicate, List.length_append]; omega
            refine w_ret ?_
            refine fin_wp (τ := []) rfl (by decide) ?_; rw [← Option.some.inj H]; simp only [Tryd.f45, tk0_]; exact gF
          · have c14b := beq_eq_false_iff_ne.mpr c14; have c14n := bne_iff_ne.mpr c14; try simp only [c14b, c14n, nrm]
            refine w_cond rfl (fun h => Bool.noConfusion h) (fun _ => ?_)
            refine w_skip ?_
            refine k_seq ?_
            refine w_seq ?_
            refine wR fun K hK => ?_
            refine g_mv rfl rfl (gT ?_)
            refine g_as rfl rfl (gT ?_)
            refine g_nil (hK _ _ _ ?_)
            refine k_seq ?_
            refine w_ret ?_
            refine fin_wp (τ := []) rfl (by decide) ?_; rw [← Option.some.inj H]; simp only [Tryd.f45]; exact gF
        · have c11b := decide_eq_false c11; try simp only [c11b, nrm]
          refine g_sk rfl rfl (gT ?_)
          refine g_sk rfl rfl (gT ?_)
          refine g_sk rfl rfl (gT ?_)
          refine g_sk rfl rfl (gT ?_)
          refine g_sk rfl rfl (gT ?_)
          refine g_sk rfl rfl (gT ?_)
          refine g_pick rfl rfl rfl (gT ?_)
          refine g_nil (hK _ _ _ ?_)
          refine k_seq ?_
          refine w_cond rfl (fun h => Bool.noConfusion h) (fun _ => ?_)
          refine w_skip ?_
          refine k_seq ?_
          refine w_seq ?_
          refine wR fun K hK => ?_
          refine g_mv rfl rfl (gT ?_)
          refine g_as rfl rfl (gT ?_)
          refine g_nil (hK _ _ _ ?_)
          refine k_seq ?_
          refine w_ret ?_
          refine fin_wp (τ := []) rfl (by decide) ?_; rw [← Option.some.inj H]; simp only [Tryd.f45]; exact gF
set_option maxHeartbeats 8000000 in
set_option maxRecDepth 100000 in
theorem dyad_down.does {k : Nat} {l0 : List Int} {a1 : Int} {r : (List Int)} (H : dyad_down.f k l0 a1 = some r) : Do E0 (.fn 45 [.r (l0.map (V.i .u32)) l0.length true, .i .i64 a1] [] (.r (r.map (V.i .u32)) r.length true) []) := by
  obtain ih0 := dyad_down.does_l (l0 := l0) (a1 := a1) k
  refine fn_wpl Tryd.func45 rfl (Q := (dyad_down.Q l0 a1 r)) (fun s h => h) ?_
  unfold dyad_down.f at H
  simp only [Tryd.ntmps45, List.length, List.replicate, Nat.reduceAdd, Nat.reduceSub, List.cons_append, List.nil_append]
  refine w_seq ?_
  refine wR fun K hK => ?_
  refine g_as rfl rfl (gT ?_)
  refine g_nil (hK _ _ _ ?_)
  refine k_seq ?_
  refine w_seq ?_
  refine wR fun K hK => ?_
  refine g_mv rfl rfl (gT ?_)
  refine g_len_r rfl rfl Tryd.underlying30 rfl (gT ?_)
  obtain ⟨c1, H⟩ := it1 H
  obtain ⟨c2, H⟩ := it1 H
  refine g_mk rfl rfl Tryd.underlying30 sz57 by57 zr57 rfl rfl rfl (by first | assumption | omega) (by omega) (by unfold limit; omega) (by omega) (gU ?_)
  refine g_as rfl rfl (gT ?_)
  refine g_nil (hK _ _ _ ?_)
  refine k_seq ?_
  refine w_seq ?_
  refine w_seq ?_
  refine wR fun K hK => ?_
  refine g_mv rfl rfl (gT ?_)
  refine g_len_r rfl rfl Tryd.underlying30 rfl (gT ?_)
  refine g_mv rfl rfl (gT ?_)
  refine g_nil (hK _ _ _ ?_)
  refine k_seq ?_
  refine w_block ?_
  refine w_wk (σ := [12]) [0, 0, 3, 6, 0] rfl (by decide) ?_; refine gC ?_
  exact gI (ih0 l0 a1 (List.replicate (l0.length : Int).toNat 0) (l0.length : Int) 0 r H)

set_option maxHeartbeats 8000000 in
set_option maxRecDepth 100000 in
theorem dyad_trim.does_l {a0 : Bool} {l1 : List Int} {a2 : Int} (k : Nat) : (∀ (neg_0 : Bool) (m_1 : List Int) (e_2 : Int) (n_7 : Int) (h0_1 : Int) (r : Bool × (List Int) × Int), dyad_trim.l0 k neg_0 m_1 e_2 n_7 = some r → wk_ E0 (dyad_trim.Q a0 l1 a2 r) (frs (bodyOf Tryd.f26) [1, 1, 0, 0] []) (sub (bodyOf Tryd.f26) [1, 1, 0, 0]) ⟨[.b neg_0, .r (m_1.map (V.i .u32)) m_1.length true, .i .i64 e_2, .u, .u, .u, .p (some (0, 0)), .i .i64 n_7, .u, .u, .u, .u, .u, .u, .u, .u, .u, .u, .u, .u, .u, .u, .u, .u, .u, .u, .u, .u, .u, .u, .u, .u, .u, .u, .u, .u, .u, .u, .u, .u, .u, .u, .u, .u, .u, .u, .u, .u, .u, .u, .u, .u, .u, .u, .u, .u, .u, .u, .u, .u], ofL [.row [.b false, .s none 0, .i .i64 h0_1] 0 0 true true none], 1, 0⟩) ∧
    (∀ (neg_0 : Bool) (m_1 : List Int) (e_2 : Int) (n_7 : Int) (h0_1 : Int) (r : Bool × (List Int) × Int), dyad_trim.j1 k neg_0 m_1 e_2 n_7 = some r → kont E0 (dyad_trim.Q a0 l1 a2 r) (frs (bodyOf Tryd.f26) [1, 1, 0] []) .normal ⟨[.b neg_0, .r (m_1.map (V.i .u32)) m_1.length true, .i .i64 e_2, .u, .u, .u, .p (some (0, 0)), .i .i64 n_7, .u, .u, .u, .u, .u, .u, .u, .u, .u, .u, .u, .u, .u, .u, .u, .u, .u, .u, .u, .u, .u, .u, .u, .u, .u, .u, .u, .u, .u, .u, .u, .u, .u, .u, .u, .u, .u, .u, .u, .u, .u, .u, .u, .u, .u, .u, .u, .u, .u, .u, .u, .u], ofL [.row [.b false, .s none 0, .i .i64 h0_1] 0 0 true true none], 1, 0⟩) ∧
    (∀ (neg_0 : Bool) (m_1 : List Int) (e_2 : Int) (k_8 : Int) (h0_1 : Int) (r : Bool × (List Int) × Int), dyad_trim.l1 k neg_0 m_1 e_2 k_8 = some r → wk_ E0 (dyad_trim.Q a0 l1 a2 r) (frs (bodyOf Tryd.f26) [1, 1, 1, 1, 1, 1, 0, 0] []) (sub (bodyOf Tryd.f26) [1, 1, 1, 1, 1, 1, 0, 0]) ⟨[.b neg_0, .r (m_1.map (V.i .u32)) m_1.length true, .i .i64 e_2, .u, .u, .u, .p (some (0, 0)), .u, .i .i64 k_8, .u, .u, .u, .u, .u, .u, .u, .u, .u, .u, .u, .u, .u, .u, .u, .u, .u, .u, .u, .u, .u, .u, .u, .u, .u, .u, .u, .u, .u, .u, .u, .u, .u, .u, .u, .u, .u, .u, .u, .u, .u, .u, .u, .u, .u, .u, .u, .u, .u, .u, .u], ofL [.row [.b false, .s none 0, .i .i64 h0_1] 0 0 true true none], 1, 0⟩) := by
  induction k with
  | zero => exact ⟨fun _ _ _ _ _ r h => by simp [dyad_trim.l0] at h, fun _ _ _ _ _ r h => by simp [dyad_trim.j1] at h, fun _ _ _ _ _ r h => by simp [dyad_trim.l1] at h⟩
  | succ k ih =>
    obtain ⟨ih0, ih1, ih2⟩ := ih
    refine ⟨?_, ?_, ?_⟩
    · intro neg_0 m_1 e_2 n_7 h0_1 r H
      unfold dyad_trim.l0 at H
      simp only [bodyOf, Tryd.f26, frs, sub, if_true, if_false, Nat.one_ne_zero]
      refine w_loop ?_
      refine w_seq ?_
      refine w_seq ?_
      refine wR fun K hK => ?_
      refine g_mv rfl rfl (gT ?_)
      refine g_bin rfl rfl rfl rfl rfl (gT ?_)
      refine g_mv rfl rfl (gT ?_)
      rcases its H with ⟨c1, H⟩ | ⟨c1, H⟩
      · have c1b := decide_eq_true c1; try simp only [c1b, nrm]
        refine g_mv rfl rfl (gT ?_)
        refine g_mv rfl rfl (gT ?_)
        refine g_bin rfl rfl rfl rfl rfl (gT ?_)
        obtain ⟨c2, H⟩ := it1 H
        obtain ⟨c3, H⟩ := it1 H
        refine g_ixr rfl rfl Tryd.underlying30 sz57 rfl rfl (by first | assumption | omega) (by first | assumption | omega | (simp only [List.length_set, List.length_replicate] at *; omega)) (gT ?_)
        refine g_ldq rfl rfl ag57 sz57 rfl (by first | assumption | omega) (gT ?_)
        refine g_bin rfl rfl rfl rfl rfl (gT ?_)
        refine g_pick rfl rfl rfl (gT ?_)
        refine g_nil (hK _ _ _ ?_)
        refine k_seq ?_
        rcases its H with ⟨c4, H⟩ | ⟨c4, H⟩
        · have c4b := beq_iff_eq.mpr c4; have c4n := bne_eq_false_iff_eq.mpr c4; try simp only [c4b, c4n, nrm]
          refine w_cond rfl (fun _ => ?_) (fun h => Bool.noConfusion h)
          refine w_skip ?_
          refine k_seq ?_
          refine w_block ?_
          refine wR fun K hK => ?_
          refine g_mv rfl rfl (gT ?_)
          refine g_bin rfl rfl rfl rfl rfl (gT ?_)
          refine g_as rfl rfl (gT ?_)
          refine g_nil (hK _ _ _ ?_)
          refine k_block ?_
          refine k_loop ?_
          refine w_wk (σ := [0]) [0, 0, 0, 3, 0] rfl (by decide) ?_; refine gC ?_
          exact gI (ih0 neg_0 m_1 e_2 (wrap64 (n_7 - 1)) h0_1 r H)
        · have c4b := beq_eq_false_iff_ne.mpr c4; have c4n := bne_iff_ne.mpr c4; try simp only [c4b, c4n, nrm]
          refine w_cond rfl (fun h => Bool.noConfusion h) (fun _ => ?_)
          refine w_exit rfl ?_
          refine k_wk (σ := [0]) [0, 0, 0, 3, 0] rfl (by decide) rfl ?_; refine gC ?_
          exact gI (ih1 neg_0 m_1 e_2 n_7 h0_1 r H)
      · have c1b := decide_eq_false c1; try simp only [c1b, nrm]
        refine g_sk rfl rfl (gT ?_)
        refine g_sk rfl rfl (gT ?_)
        refine g_sk rfl rfl (gT ?_)
        refine g_sk rfl rfl (gT ?_)
        refine g_sk rfl rfl (gT ?_)
        refine g_sk rfl rfl (gT ?_)
        refine g_pick rfl rfl rfl (gT ?_)
        refine g_nil (hK _ _ _ ?_)
        refine k_seq ?_
        refine w_cond rfl (fun h => Bool.noConfusion h) (fun _ => ?_)
        refine w_exit rfl ?_
        refine k_wk (σ := [0]) [0, 0, 0, 3, 0] rfl (by decide) rfl ?_; refine gC ?_
        exact gI (ih1 neg_0 m_1 e_2 n_7 h0_1 r H)
    · intro neg_0 m_1 e_2 n_7 h0_1 r H
      unfold dyad_trim.j1 at H
      simp only [bodyOf, Tryd.f26, frs, sub, if_true, if_false, Nat.one_ne_zero]
      refine k_seq ?_
      refine w_seq ?_
      refine wR fun K hK => ?_
      refine g_mv rfl rfl (gT ?_)
      refine g_mv rfl rfl (gT ?_)
      obtain ⟨c5, H⟩ := it1 H
      obtain ⟨c6, H⟩ := it1 H
      refine g_cth rfl rfl Tryd.underlying30 sz57 rfl rfl rfl (by first | assumption | omega) (by first | assumption | omega) (gT ?_)
      refine g_as rfl rfl (gT ?_)
      refine g_nil (hK _ _ _ ?_)
      refine k_seq ?_
      refine w_seq ?_
      refine w_seq ?_
      refine wR fun K hK => ?_
      refine g_mv rfl rfl (gT ?_)
      refine g_bin rfl rfl rfl rfl rfl (gT ?_)
      refine g_nil (hK _ _ _ ?_)
      refine k_seq ?_
      rcases its H with ⟨c7, H⟩ | ⟨c7, H⟩
      · have c7b := beq_iff_eq.mpr c7; have c7n := bne_eq_false_iff_eq.mpr c7; try simp only [c7b, c7n, nrm]
        refine w_cond rfl (fun _ => ?_) (fun h => Bool.noConfusion h)
        refine w_seq ?_
        refine wR fun K hK => ?_
        refine g_bd rfl rfl zr32 Tryd.underlying32 (pl := [(0, 1), (1, 1), (2, 1)]) (by kernel_rfl) ?_; refine gB ?_
        refine g_st rfl rfl sz32 rfl rfl rfl (by rfl) (Nat.le_of_ble_eq_true rfl) (gU ?_)
        refine g_nil (hK _ _ _ ?_)
        refine k_seq ?_
        refine w_ret ?_
        refine fin_wp (τ := []) rfl (by decide) ?_; rw [← Option.some.inj H]; simp only [Tryd.f26, ag32, sz32, nrm, nrmw, nrmc, nrme, nrmo, nrml, nrmb, nrmx, Nat.reduceEqDiff, Nat.reduceBEq, Nat.zero_add, Nat.add_zero, Nat.mul_one, List.length_cons, List.length_nil, List.length_map, List.length_set, List.length_replicate, List.drop_zero, List.drop_succ_cons, List.drop_nil, List.take_zero, List.take_succ_cons, List.take_nil, Nat.le_refl, if_true, if_false, Option.any_none, Option.any_some, List.contains_nil, Bool.not_false, Bool.or_true, Bool.true_or, Bool.or_false, Bool.false_or, Bool.and_true, Bool.true_and, Bool.and_self, reduceCtorEq, beq_self_eq_true, List.map_cons, List.map_nil, List.append_nil, List.nil_append, List.contains_cons, List.filter_cons, List.filter_nil, List.cons_append, Bool.false_eq_true, true_and, and_true, List.getElem_toArray, List.getElem_cons_zero, List.getElem_cons_succ, Nat.reduceAdd, Nat.reduceMul, Nat.reduceLT, Nat.reduceSub, Nat.reduceLeDiff]; try (first | rfl | exact ⟨rfl, trivial⟩ | exact ⟨rfl, rfl⟩)
      · have c7b := beq_eq_false_iff_ne.mpr c7; have c7n := bne_iff_ne.mpr c7; try simp only [c7b, c7n, nrm]
        refine w_cond rfl (fun h => Bool.noConfusion h) (fun _ => ?_)
        refine w_skip ?_
        refine k_seq ?_
        refine w_seq ?_
        refine wR fun K hK => ?_
        refine g_as rfl rfl (gT ?_)
        refine g_nil (hK _ _ _ ?_)
        refine k_seq ?_
        refine w_seq ?_
        refine w_block ?_
        refine w_wk (σ := [0]) [0, 0, 0, 3, 1] rfl (by decide) ?_; refine gC ?_
        exact gI (ih2 neg_0 (List.take n_7.toNat m_1) e_2 0 h0_1 r H)
    · intro neg_0 m_1 e_2 k_8 h0_1 r H
      unfold dyad_trim.l1 at H
      simp only [bodyOf, Tryd.f26, frs, sub, if_true, if_false, Nat.one_ne_zero]
      refine w_loop ?_
      refine w_seq ?_
      refine w_seq ?_
      refine wR fun K hK => ?_
      refine g_mv rfl rfl (gT ?_)
      refine g_mv rfl rfl (gT ?_)
      obtain ⟨c8, H⟩ := it1 H
      obtain ⟨c9, H⟩ := it1 H
      refine g_ixr rfl rfl Tryd.underlying30 sz57 rfl rfl (by first | assumption | omega) (by first | assumption | omega | (simp only [List.length_set, List.length_replicate] at *; omega)) (gT ?_)
      refine g_ldq rfl rfl ag57 sz57 rfl (by first | assumption | omega) (gT ?_)
      refine g_bin rfl rfl rfl rfl rfl (gT ?_)
      refine g_nil (hK _ _ _ ?_)
      refine k_seq ?_
      rcases its H with ⟨c10, H⟩ | ⟨c10, H⟩
      · have c10b := beq_iff_eq.mpr c10; have c10n := bne_eq_false_iff_eq.mpr c10; try simp only [c10b, c10n, nrm]
        refine w_cond rfl (fun _ => ?_) (fun h => Bool.noConfusion h)
        refine w_skip ?_
        refine k_seq ?_
        refine w_block ?_
        refine wR fun K hK => ?_
        refine g_mv rfl rfl (gT ?_)
        refine g_bin rfl rfl rfl rfl rfl (gT ?_)
        refine g_as rfl rfl (gT ?_)
        refine g_nil (hK _ _ _ ?_)
        refine k_block ?_
        refine k_loop ?_
        refine w_wk (σ := [0]) [0, 0, 0, 3, 1] rfl (by decide) ?_; refine gC ?_
        exact gI (ih2 neg_0 m_1 e_2 (wrap64 (k_8 + 1)) h0_1 r H)
      · have c10b := beq_eq_false_iff_ne.mpr c10; have c10n := bne_iff_ne.mpr c10; try simp only [c10b, c10n, nrm]
        refine w_cond rfl (fun h => Bool.noConfusion h) (fun _ => ?_)
        refine w_exit rfl ?_
        refine k_seq ?_
        refine w_seq ?_
        refine wR fun K hK => ?_
        refine g_mv rfl rfl (gT ?_)
        refine g_mv rfl rfl (gT ?_)
        obtain ⟨c11, H⟩ := it1 H
        refine g_ctl rfl rfl Tryd.underlying30 sz57 rfl rfl rfl (by first | assumption | omega) (by first | assumption | omega) (gT ?_)
        refine g_mv rfl rfl (gT ?_)
        refine g_mv rfl rfl (gT ?_)
        refine g_bin rfl rfl rfl rfl rfl (gT ?_)
        refine g_bin rfl rfl rfl rfl rfl (gT ?_)
        refine g_as rfl rfl (gT ?_)
        refine g_as rfl rfl (gT ?_)
        refine g_nil (hK _ _ _ ?_)
        refine k_seq ?_
        refine w_seq ?_
        refine w_seq ?_
        refine wR fun K hK => ?_
        refine g_mv rfl rfl (gT ?_)
        obtain ⟨c12, H⟩ := it1 H
        refine g_ixr rfl rfl Tryd.underlying30 sz57 rfl rfl (by first | assumption | omega) (by first | assumption | omega | (simp only [List.length_set, List.length_replicate] at *; omega)) (gT ?_)
        refine g_ldq rfl rfl ag57 sz57 rfl (by first | assumption | omega) (gT ?_)
        obtain ⟨q13, hq13, H⟩ := bnd H
        refine g_cs [] rfl rfl (by rfl) Tryd.func44 rfl (by decide) (bits_TrailingZeros32.does hq13) ⟨Nat.le_of_ble_eq_true rfl, Nat.le_of_ble_eq_true rfl⟩ ?_; refine gC ?_
        refine g_as rfl rfl (gT ?_)
        refine g_nil (hK _ _ _ ?_)
        refine k_seq ?_
        refine w_seq ?_
        refine wR fun K hK => ?_
        refine g_mv rfl rfl (gT ?_)
        refine g_bin rfl rfl rfl rfl rfl (gT ?_)
        refine g_nil (hK _ _ _ ?_)
        refine k_seq ?_
        rcases its H with ⟨c14, H⟩ | ⟨c14, H⟩
        · have c14b := decide_eq_true c14; try simp only [c14b, nrm]
          refine w_cond rfl (fun _ => ?_) (fun h => Bool.noConfusion h)
          refine wR fun K hK => ?_
          refine g_mv rfl rfl (gT ?_)
          refine g_mv rfl rfl (gT ?_)
          obtain ⟨q15, hq15, H⟩ := bnd H
          refine g_cs [] rfl rfl (by rfl) Tryd.func45 rfl (by decide) (dyad_down.does hq15) ⟨Nat.le_of_ble_eq_true rfl, Nat.le_of_ble_eq_true rfl⟩ ?_; refine gC ?_
          refine g_mv rfl rfl (gT ?_)
          refine g_mv rfl rfl (gT ?_)
          refine g_bin rfl rfl rfl rfl rfl (gT ?_)
          refine g_as rfl rfl (gT ?_)
          refine g_as rfl rfl (gT ?_)
          refine g_nil (hK _ _ _ ?_)
          refine k_seq ?_
          refine w_seq ?_
          refine wR fun K hK => ?_
          refine g_mv rfl rfl (gT ?_)
          refine g_mv rfl rfl (gT ?_)
          refine g_mv rfl rfl (gT ?_)
          refine g_bd rfl rfl zr32 Tryd.underlying32 (pl := [(0, 1), (1, 1), (2, 1)]) (by kernel_rfl) ?_; refine gB ?_
          refine g_st rfl rfl sz32 rfl rfl rfl (by rfl) (Nat.le_of_ble_eq_true rfl) (gU ?_)
          refine g_nil (hK _ _ _ ?_)
          refine k_seq ?_
          refine w_ret ?_
          refine fin_wp (τ := []) rfl (by decide) ?_; rw [← Option.some.inj H]; simp only [Tryd.f26, ag32, sz32, nrm, nrmw, nrmc, nrme, nrmo, nrml, nrmb, nrmx, Nat.reduceEqDiff, Nat.reduceBEq, Nat.zero_add, Nat.add_zero, Nat.mul_one, List.length_cons, List.length_nil, List.length_map, List.length_set, List.length_replicate, List.drop_zero, List.drop_succ_cons, List.drop_nil, List.take_zero, List.take_succ_cons, List.take_nil, Nat.le_refl, if_true, if_false, Option.any_none, Option.any_some, List.contains_nil, Bool.not_false, Bool.or_true, Bool.true_or, Bool.or_false, Bool.false_or, Bool.and_true, Bool.true_and, Bool.and_self, reduceCtorEq, beq_self_eq_true, List.map_cons, List.map_nil, List.append_nil, List.nil_append, List.contains_cons, List.filter_cons, List.filter_nil, List.cons_append, Bool.false_eq_true, true_and, and_true, List.getElem_toArray, List.getElem_cons_zero, List.getElem_cons_succ, Nat.reduceAdd, Nat.reduceMul, Nat.reduceLT, Nat.reduceSub, Nat.reduceLeDiff]; try (first | rfl | exact ⟨rfl, trivial⟩ | exact ⟨rfl, rfl⟩)
        · have c14b := decide_eq_false c14; try simp only [c14b, nrm]
          refine w_cond rfl (fun h => Bool.noConfusion h) (fun _ => ?_)
          refine w_skip ?_
          refine k_seq ?_
          refine w_seq ?_
          refine wR fun K hK => ?_
          refine g_mv rfl rfl (gT ?_)
          refine g_mv rfl rfl (gT ?_)
          refine g_mv rfl rfl (gT ?_)
          refine g_bd rfl rfl zr32 Tryd.underlying32 (pl := [(0, 1), (1, 1), (2, 1)]) (by kernel_rfl) ?_; refine gB ?_
          refine g_st rfl rfl sz32 rfl rfl rfl (by rfl) (Nat.le_of_ble_eq_true rfl) (gU ?_)
          refine g_nil (hK _ _ _ ?_)
          refine k_seq ?_
          refine w_ret ?_
          refine fin_wp (τ := []) rfl (by decide) ?_; rw [← Option.some.inj H]; simp only [Tryd.f26, ag32, sz32, nrm, nrmw, nrmc, nrme, nrmo, nrml, nrmb, nrmx, Nat.reduceEqDiff, Nat.reduceBEq, Nat.zero_add, Nat.add_zero, Nat.mul_one, List.length_cons, List.length_nil, List.length_map, List.length_set, List.length_replicate, List.drop_zero, List.drop_succ_cons, List.drop_nil, List.take_zero, List.take_succ_cons, List.take_nil, Nat.le_refl, if_true, if_false, Option.any_none, Option.any_some, List.contains_nil, Bool.not_false, Bool.or_true, Bool.true_or, Bool.or_false, Bool.false_or, Bool.and_true, Bool.true_and, Bool.and_self, reduceCtorEq, beq_self_eq_true, List.map_cons, List.map_nil, List.append_nil, List.nil_append, List.contains_cons, List.filter_cons, List.filter_nil, List.cons_append, Bool.false_eq_true, true_and, and_true, List.getElem_toArray, List.getElem_cons_zero, List.getElem_cons_succ, Nat.reduceAdd, Nat.reduceMul, Nat.reduceLT, Nat.reduceSub, Nat.reduceLeDiff]; try (first | rfl | exact ⟨rfl, trivial⟩ | exact ⟨rfl, rfl⟩)
set_option maxHeartbeats 8000000 in
set_option maxRecDepth 100000 in
theorem dyad_trim.does {k : Nat} {a0 : Bool} {l1 : List Int} {a2 : Int} {r : Bool × (List Int) × Int} (H : dyad_trim.f k a0 l1 a2 = some r) : Do E0 (.fn 26 [.b a0, .r (l1.map (V.i .u32)) l1.length true, .i .i64 a2] [] (.a [.b r.1, .r (r.2.1.map (V.i .u32)) r.2.1.length true, .i .i64 r.2.2]) []) := by
  obtain ⟨ih0, ih1, ih2⟩ := dyad_trim.does_l (a0 := a0) (l1 := l1) (a2 := a2) k
  refine fn_wpl Tryd.func26 rfl (Q := (dyad_trim.Q a0 l1 a2 r)) (fun s h => h) ?_
  unfold dyad_trim.f at H
  simp only [Tryd.ntmps26, List.length, List.replicate, Nat.reduceAdd, Nat.reduceSub, List.cons_append, List.nil_append]
  refine w_seq ?_
  refine wR fun K hK => ?_
  refine g_alloc rfl rfl zr32 (gU ?_)
  refine g_nil (hK _ _ _ ?_)
  refine k_seq ?_
  refine w_seq ?_
  refine wR fun K hK => ?_
  refine g_mv rfl rfl (gT ?_)
  refine g_len_r rfl rfl Tryd.underlying30 rfl (gT ?_)
  refine g_as rfl rfl (gT ?_)
  refine g_nil (hK _ _ _ ?_)
  refine k_seq ?_
  refine w_seq ?_
  refine w_block ?_
  refine w_wk (σ := [0]) [0, 0, 0, 3, 0] rfl (by decide) ?_; refine gC ?_
  exact gI (ih0 a0 l1 a2 (l1.length : Int) 0 r H)

set_option maxHeartbeats 8000000 in
set_option maxRecDepth 100000 in
theorem dyad_Of.does {k : Nat} {a0 : Int} {r : Bool × (List Int) × Int × Bool} (H : dyad_Of.f k a0 = some r) : Do E0 (.fn 7 [.i .u64 a0] [] (.t [.a [.b r.1, .r (r.2.1.map (V.i .u32)) r.2.1.length true, .i .i64 r.2.2.1], .b r.2.2.2]) []) := by
  refine fn_wpl Tryd.func7 rfl (Q := (dyad_Of.Q a0 r)) (fun s h => h) ?_
  unfold dyad_Of.f at H
  simp only [Tryd.ntmps7, List.length, List.replicate, Nat.reduceAdd, Nat.reduceSub, List.cons_append, List.nil_append]
  refine w_seq ?_
  refine wR fun K hK => ?_
  refine g_alloc rfl rfl zr32 (gU ?_)
  refine g_as rfl rfl (gT ?_)
  refine g_nil (hK _ _ _ ?_)
  refine k_seq ?_
  refine w_seq ?_
  refine w_seq ?_
  refine wR fun K hK => ?_
  refine g_mv rfl rfl (gT ?_)
  obtain ⟨q1, hq1, H⟩ := bnd H
  refine g_cs [] rfl rfl (by rfl) Tryd.func24 rfl (by decide) (word_Finite.does hq1) ⟨Nat.le_of_ble_eq_true rfl, Nat.le_of_ble_eq_true rfl⟩ ?_; refine gC ?_
  refine g_un rfl rfl rfl rfl (gT ?_)
  refine g_nil (hK _ _ _ ?_)
  refine k_seq ?_
  rcases its H with ⟨c2, H⟩ | ⟨c2, H⟩
  · have c2b : q1 = true := c2; try simp only [c2b, nrm]
    refine w_cond rfl (fun h => Bool.noConfusion h) (fun _ => ?_)
    refine w_skip ?_
    refine k_seq ?_
    refine w_seq ?_
    refine wR fun K hK => ?_
    refine g_mv rfl rfl (gT ?_)
    obtain ⟨q3, hq3, H⟩ := bnd H
    refine g_cs [] rfl rfl (by rfl) Tryd.func25 rfl (by decide) (word_Parts.does hq3) ⟨Nat.le_of_ble_eq_true rfl, Nat.le_of_ble_eq_true rfl⟩ ?_; refine gC ?_
    refine g_mv rfl rfl (gT ?_)
    refine g_ext rfl rfl rfl (Nat.le_of_ble_eq_true rfl) (gT ?_)
    refine g_ext rfl rfl rfl (Nat.le_of_ble_eq_true rfl) (gT ?_)
    refine g_as rfl rfl (gT ?_)
    refine g_as rfl rfl (gT ?_)
    refine g_nil (hK _ _ _ ?_)
    refine k_seq ?_
    refine w_seq ?_
    refine wR fun K hK => ?_
    refine g_mv rfl rfl (gT ?_)
    obtain ⟨q4, hq4, H⟩ := bnd H
    refine g_cs [] rfl rfl (by rfl) Tryd.func27 rfl (by decide) (word_Neg.does hq4) ⟨Nat.le_of_ble_eq_true rfl, Nat.le_of_ble_eq_true rfl⟩ ?_; refine gC ?_
    refine g_mv rfl rfl (gT ?_)
    refine g_conv rfl rfl Tryd.underlying28 Tryd.underlying57 rfl (gT ?_)
    refine g_mv rfl rfl (gT ?_)
    refine g_shrc (p := 4294967296) rfl rfl rfl rfl (by decide) (by rfl) (gT ?_)
    refine g_conv rfl rfl Tryd.underlying28 Tryd.underlying57 rfl (gT ?_)
    refine g_bsl (k := .u32) (xs := [(q3.1 % 4294967296), ((q3.1 / 4294967296) % 4294967296)]) rfl rfl Tryd.underlying30 sz57 zr57 (by decide) rfl rfl rfl (gU ?_)
    refine g_mv rfl rfl (gT ?_)
    obtain ⟨q5, hq5, H⟩ := bnd H
    refine g_cs [] rfl rfl (by rfl) Tryd.func26 rfl (by decide) (dyad_trim.does hq5) ⟨Nat.le_of_ble_eq_true rfl, Nat.le_of_ble_eq_true rfl⟩ ?_; refine gC ?_
    refine g_st rfl rfl sz32 rfl rfl rfl (by rfl) (Nat.le_of_ble_eq_true rfl) (gU ?_)
    refine g_as rfl rfl (gT ?_)
    refine g_nil (hK _ _ _ ?_)
    refine k_seq ?_
    refine w_ret ?_
    refine fin_wp (τ := []) rfl (by decide) ?_; rw [← Option.some.inj H]; simp only [Tryd.f7, ag32, sz32, nrm, nrmw, nrmc, nrme, nrmo, nrml, nrmb, nrmx, Nat.reduceEqDiff, Nat.reduceBEq, Nat.zero_add, Nat.add_zero, Nat.mul_one, List.length_cons, List.length_nil, List.length_map, List.length_set, List.length_replicate, List.drop_zero, List.drop_succ_cons, List.drop_nil, List.take_zero, List.take_succ_cons, List.take_nil, Nat.le_refl, if_true, if_false, Option.any_none, Option.any_some, List.contains_nil, Bool.not_false, Bool.or_true, Bool.true_or, Bool.or_false, Bool.false_or, Bool.and_true, Bool.true_and, Bool.and_self, reduceCtorEq, beq_self_eq_true, List.map_cons, List.map_nil, List.append_nil, List.nil_append, List.contains_cons, List.filter_cons, List.filter_nil, List.cons_append, Bool.false_eq_true, true_and, and_true, List.getElem_toArray, List.getElem_cons_zero, List.getElem_cons_succ, Nat.reduceAdd, Nat.reduceMul, Nat.reduceLT, Nat.reduceSub, Nat.reduceLeDiff]; try (first | rfl | exact ⟨rfl, trivial⟩ | exact ⟨rfl, rfl⟩)
  · have c2b : q1 = false := Bool.eq_false_iff.mpr c2; try simp only [c2b, nrm]
    refine w_cond rfl (fun _ => ?_) (fun h => Bool.noConfusion h)
    refine w_seq ?_
    refine wR fun K hK => ?_
    refine g_bd rfl rfl zr32 Tryd.underlying32 (pl := [(0, 1), (1, 1), (2, 1)]) (by kernel_rfl) ?_; refine gB ?_
    refine g_st rfl rfl sz32 rfl rfl rfl (by rfl) (Nat.le_of_ble_eq_true rfl) (gU ?_)
    refine g_as rfl rfl (gT ?_)
    refine g_nil (hK _ _ _ ?_)
    refine k_seq ?_
    refine w_ret ?_
    refine fin_wp (τ := []) rfl (by decide) ?_; rw [← Option.some.inj H]; simp only [Tryd.f7, ag32, sz32, nrm, nrmw, nrmc, nrme, nrmo, nrml, nrmb, nrmx, Nat.reduceEqDiff, Nat.reduceBEq, Nat.zero_add, Nat.add_zero, Nat.mul_one, List.length_cons, List.length_nil, List.length_map, List.length_set, List.length_replicate, List.drop_zero, List.drop_succ_cons, List.drop_nil, List.take_zero, List.take_succ_cons, List.take_nil, Nat.le_refl, if_true, if_false, Option.any_none, Option.any_some, List.contains_nil, Bool.not_false, Bool.or_true, Bool.true_or, Bool.or_false, Bool.false_or, Bool.and_true, Bool.true_and, Bool.and_self, reduceCtorEq, beq_self_eq_true, List.map_cons, List.map_nil, List.append_nil, List.nil_append, List.contains_cons, List.filter_cons, List.filter_nil, List.cons_append, Bool.false_eq_true, true_and, and_true, List.getElem_toArray, List.getElem_cons_zero, List.getElem_cons_succ, Nat.reduceAdd, Nat.reduceMul, Nat.reduceLT, Nat.reduceSub, Nat.reduceLeDiff]; try (first | rfl | exact ⟨rfl, trivial⟩ | exact ⟨rfl, rfl⟩)

set_option maxHeartbeats 8000000 in
set_option maxRecDepth 100000 in
theorem dyad_Num_Mul.does_l {a0_0 : Bool} {l0_1 : List Int} {a0_2 : Int} {a1_0 : Bool} {l1_1 : List Int} {a1_2 : Int} (k : Nat) : (∀ (t_20 : Bool) (h0_0 : Bool) (h0_1 : List Int) (h0_2 : Int) (h1_0 : Bool) (h1_1 : List Int) (h1_2 : Int) (h2_1 : Int) (r : Bool × (List Int) × Int), dyad_Num_Mul.j0 k t_20 h0_0 h0_1 h0_2 h1_0 h1_1 h1_2 = some r → kont E0 (dyad_Num_Mul.Q a0_0 l0_1 a0_2 a1_0 l1_1 a1_2 r) (frs (bodyOf Tryd.f10) [1, 0, 0] []) .normal ⟨[.u, .u, .p (some (0, 0)), .p (some (1, 0)), .p (some (2, 0)), .u, .u, .u, .u, .u, .u, .u, .u, .u, .u, .u, .u, .u, .u, .u, .b t_20, .u, .u, .u, .u, .u, .u, .u, .u, .u, .u, .u, .u, .u, .u, .u, .u, .u, .u, .u, .u, .u, .u, .u, .u, .u, .u, .u, .u, .u, .u, .u, .u, .u, .u, .u, .u, .u, .u, .u, .u, .u, .u, .u, .u, .u, .u, .u, .u, .u, .u, .u, .u, .u, .u, .u, .u, .u, .u, .u, .u, .u, .u, .u, .u, .u, .u, .u, .u, .u, .u, .u, .u], ofL [.row [.b h0_0, .r (h0_1.map (V.i .u32)) h0_1.length true, .i .i64 h0_2] 0 0 true true none, .row [.b h1_0, .r (h1_1.map (V.i .u32)) h1_1.length true, .i .i64 h1_2] 0 0 true true none, .row [.b false, .s none 0, .i .i64 h2_1] 0 0 true true none], 3, 0⟩) ∧
    (∀ (h3 : List Int) (t_31 : List Int) (t_32 : Int) (t_33 : Int) (h0_0 : Bool) (h0_1 : List Int) (h0_2 : Int) (h1_0 : Bool) (h1_1 : List Int) (h1_2 : Int) (h2_1 : Int) (r : Bool × (List Int) × Int), dyad_Num_Mul.l0 k h3 t_31 t_32 t_33 h0_0 h0_1 h0_2 h1_0 h1_1 h1_2 = some r → wk_ E0 (dyad_Num_Mul.Q a0_0 l0_1 a0_2 a1_0 l1_1 a1_2 r) (frs (bodyOf Tryd.f10) [1, 1, 1, 0, 1, 0] []) (sub (bodyOf Tryd.f10) [1, 1, 1, 0, 1, 0]) ⟨[.u, .u, .p (some (0, 0)), .p (some (1, 0)), .p (some (2, 0)), .s (some (3, 0)) h3.length, .u, .u, .u, .u, .u, .u, .u, .u, .u, .u, .u, .u, .u, .u, .u, .u, .u, .u, .u, .u, .u, .u, .u, .u, .u, .r (t_31.map (V.i .u32)) t_31.length true, .i .i64 t_32, .i .i64 t_33, .u, .u, .u, .u, .u, .u, .u, .u, .u, .u, .u, .u, .u, .u, .u, .u, .u, .u, .u, .u, .u, .u, .u, .u, .u, .u, .u, .u, .u, .u, .u, .u, .u, .u, .u, .u, .u, .u, .u, .u, .u, .u, .u, .u, .u, .u, .u, .u, .u, .u, .u, .u, .u, .u, .u, .u, .u, .u, .u], ofL [.row [.b h0_0, .r (h0_1.map (V.i .u32)) h0_1.length true, .i .i64 h0_2] 0 0 true true none, .row [.b h1_0, .r (h1_1.map (V.i .u32)) h1_1.length true, .i .i64 h1_2] 0 0 true true none, .row [.b false, .s none 0, .i .i64 h2_1] 0 0 true true none, .row (h3.map (V.i .u32)) 2 1 true true none], 4, 0⟩) ∧
    (∀ (h3 : List Int) (i_6 : Int) (x_7 : Int) (c_8 : Int) (t_31 : List Int) (t_32 : Int) (t_33 : Int) (t_39 : List Int) (t_40 : Int) (t_41 : Int) (h0_0 : Bool) (h0_1 : List Int) (h0_2 : Int) (h1_0 : Bool) (h1_1 : List Int) (h1_2 : Int) (h2_1 : Int) (r : Bool × (List Int) × Int), dyad_Num_Mul.l1 k h3 i_6 x_7 c_8 t_31 t_32 t_33 t_39 t_40 t_41 h0_0 h0_1 h0_2 h1_0 h1_1 h1_2 = some r → wk_ E0 (dyad_Num_Mul.Q a0_0 l0_1 a0_2 a1_0 l1_1 a1_2 r) (frs (bodyOf Tryd.f10) [1, 1, 1, 0, 1, 0, 0, 1, 1, 0, 0, 1, 1, 0, 1, 0] []) (sub (bodyOf Tryd.f10) [1, 1, 1, 0, 1, 0, 0, 1, 1, 0, 0, 1, 1, 0, 1, 0]) ⟨[.u, .u, .p (some (0, 0)), .p (some (1, 0)), .p (some (2, 0)), .s (some (3, 0)) h3.length, .i .i64 i_6, .i .u32 x_7, .i .u64 c_8, .u, .u, .u, .u, .u, .u, .u, .u, .u, .u, .u, .u, .u, .u, .u, .u, .u, .u, .u, .u, .u, .u, .r (t_31.map (V.i .u32)) t_31.length true, .i .i64 t_32, .i .i64 t_33, .u, .u, .u, .u, .u, .r (t_39.map (V.i .u32)) t_39.length true, .i .i64 t_40, .i .i64 t_41, .u, .u, .u, .u, .u, .u, .u, .u, .u, .u, .u, .u, .u, .u, .u, .u, .u, .u, .u, .u, .u, .u, .u, .u, .u, .u, .u, .u, .u, .u, .u, .u, .u, .u, .u, .u, .u, .u, .u, .u, .u, .u, .u, .u, .u, .u, .u, .u, .u, .u, .u], ofL [.row [.b h0_0, .r (h0_1.map (V.i .u32)) h0_1.length true, .i .i64 h0_2] 0 0 true true none, .row [.b h1_0, .r (h1_1.map (V.i .u32)) h1_1.length true, .i .i64 h1_2] 0 0 true true none, .row [.b false, .s none 0, .i .i64 h2_1] 0 0 true true none, .row (h3.map (V.i .u32)) 2 1 true true none], 4, 0⟩) := by
  induction k with
  | zero => exact ⟨fun _ _ _ _ _ _ _ _ r h => by simp [dyad_Num_Mul.j0] at h, fun _ _ _ _ _ _ _ _ _ _ _ r h => by simp [dyad_Num_Mul.l0] at h, fun _ _ _ _ _ _ _ _ _ _ _ _ _ _ _ _ _ r h => by simp [dyad_Num_Mul.l1] at h⟩
  | succ k ih =>
    obtain ⟨ih0, ih1, ih2⟩ := ih
    refine ⟨?_, ?_, ?_⟩
    · intro t_20 h0_0 h0_1 h0_2 h1_0 h1_1 h1_2 h2_1 r H
      unfold dyad_Num_Mul.j0 at H
      simp only [bodyOf, Tryd.f10, frs, sub, if_true, if_false, Nat.one_ne_zero]
      refine k_seq ?_
      rcases its H with ⟨c2, H⟩ | ⟨c2, H⟩
      · have c2b : t_20 = true := c2; try simp only [c2b, nrm]
        refine w_cond rfl (fun _ => ?_) (fun h => Bool.noConfusion h)
        refine w_seq ?_
        refine wR fun K hK => ?_
        refine g_bd rfl rfl zr32 Tryd.underlying32 (pl := [(0, 1), (1, 1), (2, 1)]) (by kernel_rfl) ?_; refine gB ?_
        refine g_st rfl rfl sz32 rfl rfl rfl (by rfl) (Nat.le_of_ble_eq_true rfl) (gU ?_)
        refine g_nil (hK _ _ _ ?_)
        refine k_seq ?_
        refine w_ret ?_
        refine fin_wp (τ := []) rfl (by decide) ?_; rw [← Option.some.inj H]; simp only [Tryd.f10, ag32, sz32, nrm, nrmw, nrmc, nrme, nrmo, nrml, nrmb, nrmx, Nat.reduceEqDiff, Nat.reduceBEq, Nat.zero_add, Nat.add_zero, Nat.mul_one, List.length_cons, List.length_nil, List.length_map, List.length_set, List.length_replicate, List.drop_zero, List.drop_succ_cons, List.drop_nil, List.take_zero, List.take_succ_cons, List.take_nil, Nat.le_refl, if_true, if_false, Option.any_none, Option.any_some, List.contains_nil, Bool.not_false, Bool.or_true, Bool.true_or, Bool.or_false, Bool.false_or, Bool.and_true, Bool.true_and, Bool.and_self, reduceCtorEq, beq_self_eq_true, List.map_cons, List.map_nil, List.append_nil, List.nil_append, List.contains_cons, List.filter_cons, List.filter_nil, List.cons_append, Bool.false_eq_true, true_and, and_true, List.getElem_toArray, List.getElem_cons_zero, List.getElem_cons_succ, Nat.reduceAdd, Nat.reduceMul, Nat.reduceLT, Nat.reduceSub, Nat.reduceLeDiff]; try (first | rfl | exact ⟨rfl, trivial⟩ | exact ⟨rfl, rfl⟩)
      · have c2b : t_20 = false := Bool.eq_false_iff.mpr c2; try simp only [c2b, nrm]
        refine w_cond rfl (fun h => Bool.noConfusion h) (fun _ => ?_)
        refine w_skip ?_
        refine k_seq ?_
        refine w_seq ?_
        refine wR fun K hK => ?_
        refine g_fd rfl rfl fa32_1 rfl (gT ?_)
        refine g_ldc rfl rfl ag30 sz30 rfl rfl rfl (gT ?_)
        refine g_len_r rfl rfl Tryd.underlying30 rfl (gT ?_)
        refine g_fd rfl rfl fa32_1 rfl (gT ?_)
        refine g_ldc rfl rfl ag30 sz30 rfl rfl rfl (gT ?_)
        refine g_len_r rfl rfl Tryd.underlying30 rfl (gT ?_)
        refine g_bin rfl rfl rfl rfl rfl (gT ?_)
        obtain ⟨c3, H⟩ := it1 H
        obtain ⟨c4, H⟩ := it1 H
        refine g_mk rfl rfl Tryd.underlying30 sz57 by57 zr57 rfl rfl rfl (by first | assumption | omega) (by omega) (by unfold limit; omega) (by omega) (gU ?_)
        refine g_as rfl rfl (gT ?_)
        refine g_nil (hK _ _ _ ?_)
        refine k_seq ?_
        refine w_seq ?_
        refine w_seq ?_
        refine wR fun K hK => ?_
        refine g_fd rfl rfl fa32_1 rfl (gT ?_)
        refine g_ldc rfl rfl ag30 sz30 rfl rfl rfl (gT ?_)
        refine g_len_r rfl rfl Tryd.underlying30 rfl (gT ?_)
        refine g_mv rfl rfl (gT ?_)
        refine g_nil (hK _ _ _ ?_)
        refine k_seq ?_
        refine w_block ?_
        refine w_wk (σ := [0, 1, 2, 31]) [2, 0, 0, 0, 25, 0, 0] rfl (by decide) ?_; refine gC ?_
        exact gI (ih1 (List.replicate (wrap64 ((h0_1.length : Int) + (h1_1.length : Int))).toNat 0) h0_1 (h0_1.length : Int) 0 h0_0 h0_1 h0_2 h1_0 h1_1 h1_2 h2_1 r H)
    · intro h3 t_31 t_32 t_33 h0_0 h0_1 h0_2 h1_0 h1_1 h1_2 h2_1 r H
      unfold dyad_Num_Mul.l0 at H
      simp only [bodyOf, Tryd.f10, frs, sub, if_true, if_false, Nat.one_ne_zero]
      refine w_loop ?_
      refine w_seq ?_
      refine wR fun K hK => ?_
      refine g_bin rfl rfl rfl rfl rfl (gT ?_)
      refine g_nil (hK _ _ _ ?_)
      refine k_seq ?_
      refine w_seq ?_
      rcases its H with ⟨c5, H⟩ | ⟨c5, H⟩
      · have c5b := decide_eq_true c5; try simp only [c5b, nrm]
        refine w_cond rfl (fun _ => ?_) (fun h => Bool.noConfusion h)
        refine w_skip ?_
        refine k_seq ?_
        refine w_seq ?_
        refine w_block ?_
        refine w_seq ?_
        refine wR fun K hK => ?_
        refine g_mv rfl rfl (gT ?_)
        obtain ⟨c6, H⟩ := it1 H
        obtain ⟨c7, H⟩ := it1 H
        refine g_ixr rfl rfl Tryd.underlying30 sz57 rfl rfl (by first | assumption | omega) (by first | assumption | omega | (simp only [List.length_set, List.length_replicate] at *; omega)) (gT ?_)
        refine g_ldq rfl rfl ag57 sz57 rfl (by first | assumption | omega) (gT ?_)
        refine g_as rfl rfl (gT ?_)
        refine g_as rfl rfl (gT ?_)
        refine g_nil (hK _ _ _ ?_)
        refine k_seq ?_
        refine w_seq ?_
        refine wR fun K hK => ?_
        refine g_as rfl rfl (gT ?_)
        refine g_nil (hK _ _ _ ?_)
        refine k_seq ?_
        refine w_seq ?_
        refine w_seq ?_
        refine wR fun K hK => ?_
        refine g_fd rfl rfl fa32_1 rfl (gT ?_)
        refine g_ldc rfl rfl ag30 sz30 rfl rfl rfl (gT ?_)
        refine g_len_r rfl rfl Tryd.underlying30 rfl (gT ?_)
        refine g_mv rfl rfl (gT ?_)
        refine g_nil (hK _ _ _ ?_)
        refine k_seq ?_
        refine w_block ?_
        refine w_wk (σ := [0, 1, 2, 3]) [2, 0, 0, 0, 0, 0, 0, 22, 0, 0, 5, 0, 0] rfl (by decide) ?_; refine gC ?_
        exact gI (ih2 h3 t_33 (rd t_31 t_33) 0 t_31 t_32 t_33 h1_1 (h1_1.length : Int) 0 h0_0 h0_1 h0_2 h1_0 h1_1 h1_2 h2_1 r H)
      · have c5b := decide_eq_false c5; try simp only [c5b, nrm]
        refine w_cond rfl (fun h => Bool.noConfusion h) (fun _ => ?_)
        refine w_exit rfl ?_
        refine k_seq ?_
        refine w_seq ?_
        refine wR fun K hK => ?_
        refine g_fd rfl rfl fa32_0 rfl (gT ?_)
        refine g_ldc rfl rfl ag4 sz4 rfl rfl rfl (gT ?_)
        refine g_fd rfl rfl fa32_0 rfl (gT ?_)
        refine g_ldc rfl rfl ag4 sz4 rfl rfl rfl (gT ?_)
        refine g_neb rfl rfl Tryd.underlying4 rfl rfl (gT ?_)
        refine g_mv rfl rfl (gT ?_)
        refine g_fd rfl rfl fa32_2 rfl (gT ?_)
        refine g_ldc rfl rfl ag3 sz3 rfl rfl rfl (gT ?_)
        refine g_fd rfl rfl fa32_2 rfl (gT ?_)
        refine g_ldc rfl rfl ag3 sz3 rfl rfl rfl (gT ?_)
        refine g_bin rfl rfl rfl rfl rfl (gT ?_)
        obtain ⟨q8, hq8, H⟩ := bnd H
        refine g_cs [] rfl rfl (by rfl) Tryd.func26 rfl (by decide) (dyad_trim.does hq8) ⟨Nat.le_of_ble_eq_true rfl, Nat.le_of_ble_eq_true rfl⟩ ?_; refine gC ?_
        refine g_st rfl rfl sz32 rfl rfl rfl (by rfl) (Nat.le_of_ble_eq_true rfl) (gU ?_)
        refine g_nil (hK _ _ _ ?_)
        refine k_seq ?_
        refine w_ret ?_
        refine fin_wp (τ := []) rfl (by decide) ?_; rw [← Option.some.inj H]; simp only [Tryd.f10, ag32, sz32, nrm, nrmw, nrmc, nrme, nrmo, nrml, nrmb, nrmx, Nat.reduceEqDiff, Nat.reduceBEq, Nat.zero_add, Nat.add_zero, Nat.mul_one, List.length_cons, List.length_nil, List.length_map, List.length_set, List.length_replicate, List.drop_zero, List.drop_succ_cons, List.drop_nil, List.take_zero, List.take_succ_cons, List.take_nil, Nat.le_refl, if_true, if_false, Option.any_none, Option.any_some, List.contains_nil, Bool.not_false, Bool.or_true, Bool.true_or, Bool.or_false, Bool.false_or, Bool.and_true, Bool.true_and, Bool.and_self, reduceCtorEq, beq_self_eq_true, List.map_cons, List.map_nil, List.append_nil, List.nil_append, List.contains_cons, List.filter_cons, List.filter_nil, List.cons_append, Bool.false_eq_true, true_and, and_true, List.getElem_toArray, List.getElem_cons_zero, List.getElem_cons_succ, Nat.reduceAdd, Nat.reduceMul, Nat.reduceLT, Nat.reduceSub, Nat.reduceLeDiff]; try (first | rfl | exact ⟨rfl, trivial⟩ | exact ⟨rfl, rfl⟩)
    · intro h3 i_6 x_7 c_8 t_31 t_32 t_33 t_39 t_40 t_41 h0_0 h0_1 h0_2 h1_0 h1_1 h1_2 h2_1 r H
      unfold dyad_Num_Mul.l1 at H
      simp only [bodyOf, Tryd.f10, frs, sub, if_true, if_false, Nat.one_ne_zero]
      refine w_loop ?_
      refine w_seq ?_
      refine wR fun K hK => ?_
      refine g_bin rfl rfl rfl rfl rfl (gT ?_)
      refine g_nil (hK _ _ _ ?_)
      refine k_seq ?_
      refine w_seq ?_
      rcases its H with ⟨c9, H⟩ | ⟨c9, H⟩
      · have c9b := decide_eq_true c9; try simp only [c9b, nrm]
        refine w_cond rfl (fun _ => ?_) (fun h => Bool.noConfusion h)
        refine w_skip ?_
        refine k_seq ?_
        refine w_seq ?_
        refine w_block ?_
        refine w_seq ?_
        refine wR fun K hK => ?_
        refine g_mv rfl rfl (gT ?_)
        obtain ⟨c10, H⟩ := it1 H
        obtain ⟨c11, H⟩ := it1 H
        refine g_ixr rfl rfl Tryd.underlying30 sz57 rfl rfl (by first | assumption | omega) (by first | assumption | omega | (simp only [List.length_set, List.length_replicate] at *; omega)) (gT ?_)
        refine g_ldq rfl rfl ag57 sz57 rfl (by first | assumption | omega) (gT ?_)
        refine g_as rfl rfl (gT ?_)
        refine g_as rfl rfl (gT ?_)
        refine g_nil (hK _ _ _ ?_)
        refine k_seq ?_
        refine w_seq ?_
        refine wR fun K hK => ?_
        refine g_mv rfl rfl (gT ?_)
        refine g_mv rfl rfl (gT ?_)
        refine g_mv rfl rfl (gT ?_)
        refine g_mv rfl rfl (gT ?_)
        refine g_bin rfl rfl rfl rfl rfl (gT ?_)
        obtain ⟨c12, H⟩ := it1 H
        obtain ⟨c13, H⟩ := it1 H
        refine g_ixo rfl rfl Tryd.underlying30 sz57 rfl rfl (by first | assumption | omega) (by first | assumption | omega | (simp only [List.length_set, List.length_replicate] at *; omega)) (gT ?_)
        refine g_ldo rfl rfl ag57 sz57 rfl rfl (by first | assumption | omega | (simp only [List.length_set, List.length_replicate] at *; omega)) (gT ?_)
        refine g_conv rfl rfl Tryd.underlying57 Tryd.underlying28 rfl (gT ?_)
        refine g_mv rfl rfl (gT ?_)
        refine g_conv rfl rfl Tryd.underlying57 Tryd.underlying28 rfl (gT ?_)
        refine g_mv rfl rfl (gT ?_)
        refine g_conv rfl rfl Tryd.underlying57 Tryd.underlying28 rfl (gT ?_)
        refine g_bin rfl rfl rfl rfl rfl (gT ?_)
        refine g_bin rfl rfl rfl rfl rfl (gT ?_)
        refine g_bin rfl rfl rfl rfl rfl (gT ?_)
        refine g_as rfl rfl (gT ?_)
        refine g_nil (hK _ _ _ ?_)
        refine k_seq ?_
        refine wR fun K hK => ?_
        refine g_mv rfl rfl (gT ?_)
        refine g_mv rfl rfl (gT ?_)
        refine g_mv rfl rfl (gT ?_)
        refine g_bin rfl rfl rfl rfl rfl (gT ?_)
        refine g_mv rfl rfl (gT ?_)
        refine g_conv rfl rfl Tryd.underlying28 Tryd.underlying57 rfl (gT ?_)
        refine g_mv rfl rfl (gT ?_)
        refine g_shrc (p := 4294967296) rfl rfl rfl rfl (by decide) (by rfl) (gT ?_)
        refine g_ixo rfl rfl Tryd.underlying30 sz57 rfl rfl (by first | assumption | omega) (by first | assumption | omega | (simp only [List.length_set, List.length_replicate] at *; omega)) (gT ?_)
        refine g_st rfl rfl sz57 rfl rfl rfl (by rfl) (by simp only [List.length_map, List.length_set, List.length_replicate]; first | assumption | omega) (gU ?_)
        refine g_as rfl rfl (gT ?_)
        refine g_nil (hK _ _ _ ?_)
        refine k_block ?_
        refine k_seq ?_
        refine wR fun K hK => ?_
        refine g_bin rfl rfl rfl rfl rfl (gT ?_)
        refine g_mv rfl rfl (gT ?_)
        refine g_nil (hK _ _ _ ?_)
        refine k_loop ?_
        refine w_wk (σ := [0, 1, 2, 3]) [2, 0, 0, 0, 0, 0, 0, 22, 0, 0, 5, 0, 0] rfl (by decide) ?_; refine gC ?_
        exact gI (ih2 (h3.set (wrap64 (i_6 + t_41)).toNat ((IntKind.u64.wrap (c_8 + (IntKind.u64.wrap ((IntKind.u64.wrap ((rd h3 (wrap64 (i_6 + t_41))))) + (IntKind.u64.wrap ((IntKind.u64.wrap (x_7)) * (IntKind.u64.wrap ((rd t_39 t_41))))))))) % 4294967296)) i_6 x_7 ((IntKind.u64.wrap (c_8 + (IntKind.u64.wrap ((IntKind.u64.wrap ((rd h3 (wrap64 (i_6 + t_41))))) + (IntKind.u64.wrap ((IntKind.u64.wrap (x_7)) * (IntKind.u64.wrap ((rd t_39 t_41))))))))) / 4294967296) t_31 t_32 t_33 t_39 t_40 (wrap64 (t_41 + 1)) h0_0 h0_1 h0_2 h1_0 h1_1 h1_2 h2_1 r H)
      · have c9b := decide_eq_false c9; try simp only [c9b, nrm]
        refine w_cond rfl (fun h => Bool.noConfusion h) (fun _ => ?_)
        refine w_exit rfl ?_
        refine k_seq ?_
        refine wR fun K hK => ?_
        refine g_mv rfl rfl (gT ?_)
        refine g_mv rfl rfl (gT ?_)
        refine g_fd rfl rfl fa32_1 rfl (gT ?_)
        refine g_ldc rfl rfl ag30 sz30 rfl rfl rfl (gT ?_)
        refine g_len_r rfl rfl Tryd.underlying30 rfl (gT ?_)
        refine g_bin rfl rfl rfl rfl rfl (gT ?_)
        refine g_mv rfl rfl (gT ?_)
        refine g_conv rfl rfl Tryd.underlying28 Tryd.underlying57 rfl (gT ?_)
        obtain ⟨c14, H⟩ := it1 H
        obtain ⟨c15, H⟩ := it1 H
        refine g_ixo rfl rfl Tryd.underlying30 sz57 rfl rfl (by first | assumption | omega) (by first | assumption | omega | (simp only [List.length_set, List.length_replicate] at *; omega)) (gT ?_)
        refine g_st rfl rfl sz57 rfl rfl rfl (by rfl) (by simp only [List.length_map, List.length_set, List.length_replicate]; first | assumption | omega) (gU ?_)
        refine g_nil (hK _ _ _ ?_)
        refine k_block ?_
        refine k_seq ?_
        refine wR fun K hK => ?_
        refine g_bin rfl rfl rfl rfl rfl (gT ?_)
        refine g_mv rfl rfl (gT ?_)
        refine g_nil (hK _ _ _ ?_)
        refine k_loop ?_
        refine w_wk (σ := [0, 1, 2, 3]) [2, 0, 0, 0, 25, 0, 0] rfl (by decide) ?_; refine gC ?_
        exact gI (ih1 (h3.set (wrap64 (i_6 + (h1_1.length : Int))).toNat (c_8 % 4294967296)) t_31 t_32 (wrap64 (t_33 + 1)) h0_0 h0_1 h0_2 h1_0 h1_1 h1_2 h2_1 r H)
set_option maxHeartbeats 8000000 in
set_option maxRecDepth 100000 in
theorem dyad_Num_Mul.does {k : Nat} {a0_0 : Bool} {l0_1 : List Int} {a0_2 : Int} {a1_0 : Bool} {l1_1 : List Int} {a1_2 : Int} {r : Bool × (List Int) × Int} (H : dyad_Num_Mul.f k a0_0 l0_1 a0_2 a1_0 l1_1 a1_2 = some r) : Do E0 (.fn 10 [.a [.b a0_0, .r (l0_1.map (V.i .u32)) l0_1.length true, .i .i64 a0_2], .a [.b a1_0, .r (l1_1.map (V.i .u32)) l1_1.length true, .i .i64 a1_2]] [] (.a [.b r.1, .r (r.2.1.map (V.i .u32)) r.2.1.length true, .i .i64 r.2.2]) []) := by
  obtain ⟨ih0, ih1, ih2⟩ := dyad_Num_Mul.does_l (a0_0 := a0_0) (l0_1 := l0_1) (a0_2 := a0_2) (a1_0 := a1_0) (l1_1 := l1_1) (a1_2 := a1_2) k
  refine fn_wpl Tryd.func10 rfl (Q := (dyad_Num_Mul.Q a0_0 l0_1 a0_2 a1_0 l1_1 a1_2 r)) (fun s h => h) ?_
  unfold dyad_Num_Mul.f at H
  simp only [Tryd.ntmps10, List.length, List.replicate, Nat.reduceAdd, Nat.reduceSub, List.cons_append, List.nil_append]
  refine w_seq ?_
  refine wR fun K hK => ?_
  refine g_box rfl rfl rfl (by rfl) (gU ?_)
  refine g_box rfl rfl rfl (by rfl) (gU ?_)
  refine g_alloc rfl rfl zr32 (gU ?_)
  refine g_nil (hK _ _ _ ?_)
  refine k_seq ?_
  refine w_seq ?_
  refine w_seq ?_
  refine wR fun K hK => ?_
  refine g_fd rfl rfl fa32_1 rfl (gT ?_)
  refine g_ldc rfl rfl ag30 sz30 rfl rfl rfl (gT ?_)
  refine g_len_r rfl rfl Tryd.underlying30 rfl (gT ?_)
  refine g_bin rfl rfl rfl rfl rfl (gT ?_)
  refine g_mv rfl rfl (gT ?_)
  rcases its H with ⟨c1, H⟩ | ⟨c1, H⟩
  · have c1b := beq_iff_eq.mpr c1; have c1n := bne_eq_false_iff_eq.mpr c1; try simp only [c1b, c1n, nrm]
    refine g_sk rfl rfl (gT ?_)
    refine g_sk rfl rfl (gT ?_)
    refine g_sk rfl rfl (gT ?_)
    refine g_sk rfl rfl (gT ?_)
    refine g_pick rfl rfl rfl (gT ?_)
    refine g_nil (hK _ _ _ ?_)
    refine k_wk (σ := [0, 4, 8]) [2, 0, 0, 15] rfl (by decide) rfl ?_; refine gC ?_
    exact gI (ih0 true a0_0 l0_1 a0_2 a1_0 l1_1 a1_2 0 r H)
  · have c1b := beq_eq_false_iff_ne.mpr c1; have c1n := bne_iff_ne.mpr c1; try simp only [c1b, c1n, nrm]
    refine g_fd rfl rfl fa32_1 rfl (gT ?_)
    refine g_ldc rfl rfl ag30 sz30 rfl rfl rfl (gT ?_)
    refine g_len_r rfl rfl Tryd.underlying30 rfl (gT ?_)
    refine g_bin rfl rfl rfl rfl rfl (gT ?_)
    refine g_pick rfl rfl rfl (gT ?_)
    refine g_nil (hK _ _ _ ?_)
    refine k_wk (σ := [0, 4, 8]) [2, 0, 0, 15] rfl (by decide) rfl ?_; refine gC ?_
    exact gI (ih0 ((l1_1.length : Int) == 0) a0_0 l0_1 a0_2 a1_0 l1_1 a1_2 0 r H)

set_option maxHeartbeats 8000000 in
set_option maxRecDepth 100000 in
theorem dyad_cmp.does_l {l0 : List Int} {l1 : List Int} (k : Nat) : (∀ (a_0 : List Int) (b_1 : List Int) (i_5 : Int) (r : Int), dyad_cmp.l0 k a_0 b_1 i_5 = some r → wk_ E0 (dyad_cmp.Q l0 l1 r) (frs (bodyOf Tryd.f31) [1, 1, 0, 1, 0] []) (sub (bodyOf Tryd.f31) [1, 1, 0, 1, 0]) ⟨[.r (a_0.map (V.i .u32)) a_0.length true, .r (b_1.map (V.i .u32)) b_1.length true, .u, .u, .u, .i .i64 i_5, .u, .u, .u, .u, .u, .u, .u, .u, .u, .u, .u, .u, .u, .u, .u, .u, .u, .u, .u, .u, .u, .u, .u, .u, .u, .u, .u, .u, .u, .u, .u, .u, .u, .u, .u], ofL [], 0, 0⟩) := by
  induction k with
  | zero => exact fun _ _ _ r h => by simp [dyad_cmp.l0] at h
  | succ k ih =>
    have ih0 := ih
    refine ?_
    · intro a_0 b_1 i_5 r H
      unfold dyad_cmp.l0 at H
      simp only [bodyOf, Tryd.f31, frs, sub, if_true, if_false, Nat.one_ne_zero]
      refine w_loop ?_
      refine w_seq ?_
      refine w_seq ?_
      refine wR fun K hK => ?_
      refine g_mv rfl rfl (gT ?_)
      refine g_bin rfl rfl rfl rfl rfl (gT ?_)
      refine g_nil (hK _ _ _ ?_)
      refine k_seq ?_
      rcases its H with ⟨c3, H⟩ | ⟨c3, H⟩
      · have c3b := decide_eq_true c3; try simp only [c3b, nrm]
        refine w_cond rfl (fun _ => ?_) (fun h => Bool.noConfusion h)
        refine w_skip ?_
        refine k_seq ?_
        refine w_seq ?_
        refine w_block ?_
        refine w_seq ?_
        refine wD fun K hK => ?_
        refine g_mv rfl rfl (gT ?_)
        refine g_mv rfl rfl (gT ?_)
        obtain ⟨c4, H⟩ := it1 H
        obtain ⟨c5, H⟩ := it1 H
        refine g_ixr rfl rfl Tryd.underlying30 sz57 rfl rfl (by first | assumption | omega) (by first | assumption | omega | (simp only [List.length_set, List.length_replicate] at *; omega)) (gT ?_)
        refine g_ldq rfl rfl ag57 sz57 rfl (by first | assumption | omega) (gT ?_)
        refine g_mv rfl rfl (gT ?_)
        refine g_mv rfl rfl (gT ?_)
        obtain ⟨c6, H⟩ := it1 H
        refine g_ixr rfl rfl Tryd.underlying30 sz57 rfl rfl (by first | assumption | omega) (by first | assumption | omega | (simp only [List.length_set, List.length_replicate] at *; omega)) (gT ?_)
        refine g_ldq rfl rfl ag57 sz57 rfl (by first | assumption | omega) (gT ?_)
        refine g_bin rfl rfl rfl rfl rfl (gT ?_)
        refine g_nil (hK _ _ _ (by kernel_rfl) ?_)
        refine k_seq ?_
        rcases its H with ⟨c7, H⟩ | ⟨c7, H⟩
        · have c7b := beq_iff_eq.mpr c7; have c7n := bne_eq_false_iff_eq.mpr c7; try simp only [c7b, c7n, nrm]
          refine w_cond rfl (fun h => Bool.noConfusion h) (fun _ => ?_)
          refine w_skip ?_
          refine k_block ?_
          refine k_seq ?_
          refine wR fun K hK => ?_
          refine g_mv rfl rfl (gT ?_)
          refine g_bin rfl rfl rfl rfl rfl (gT ?_)
          refine g_as rfl rfl (gT ?_)
          refine g_nil (hK _ _ _ ?_)
          refine k_loop ?_
          refine w_wk (σ := []) [0, 0, 3] rfl (by decide) ?_; refine gC ?_
          exact gI (ih0 a_0 b_1 (wrap64 (i_5 - 1)) r H)
        · have c7b := beq_eq_false_iff_ne.mpr c7; have c7n := bne_iff_ne.mpr c7; try simp only [c7b, c7n, nrm]
          refine w_cond rfl (fun _ => ?_) (fun h => Bool.noConfusion h)
          refine w_seq ?_
          refine w_seq ?_
          refine wD fun K hK => ?_
          refine g_mv rfl rfl (gT ?_)
          refine g_mv rfl rfl (gT ?_)
          refine g_ixr rfl rfl Tryd.underlying30 sz57 rfl rfl (by first | assumption | omega) (by first | assumption | omega | (simp only [List.length_set, List.length_replicate] at *; omega)) (gT ?_)
          refine g_ldq rfl rfl ag57 sz57 rfl (by first | assumption | omega) (gT ?_)
          refine g_mv rfl rfl (gT ?_)
          refine g_mv rfl rfl (gT ?_)
          refine g_ixr rfl rfl Tryd.underlying30 sz57 rfl rfl (by first | assumption | omega) (by first | assumption | omega | (simp only [List.length_set, List.length_replicate] at *; omega)) (gT ?_)
          refine g_ldq rfl rfl ag57 sz57 rfl (by first | assumption | omega) (gT ?_)
          refine g_bin rfl rfl rfl rfl rfl (gT ?_)
          refine g_nil (hK _ _ _ (by kernel_rfl) ?_)
          refine k_seq ?_
          rcases its H with ⟨c8, H⟩ | ⟨c8, H⟩
          · have c8b := decide_eq_true c8; try simp only [c8b, nrm]
            refine w_cond rfl (fun _ => ?_) (fun h => Bool.noConfusion h)
            refine w_seq ?_
            refine wR fun K hK => ?_
            refine g_as rfl rfl (gT ?_)
            refine g_nil (hK _ _ _ ?_)
            refine k_seq ?_
            refine w_ret ?_
            refine fin_wp (τ := []) rfl (by decide) ?_; rw [← Option.some.inj H]; simp only [Tryd.f31]; exact gF
          · have c8b := decide_eq_false c8; try simp only [c8b, nrm]
            refine w_cond rfl (fun h => Bool.noConfusion h) (fun _ => ?_)
            refine w_skip ?_
            refine k_seq ?_
            refine w_seq ?_
            refine wR fun K hK => ?_
            refine g_as rfl rfl (gT ?_)
            refine g_nil (hK _ _ _ ?_)
            refine k_seq ?_
            refine w_ret ?_
            refine fin_wp (τ := []) rfl (by decide) ?_; rw [← Option.some.inj H]; simp only [Tryd.f31]; exact gF
      · have c3b := decide_eq_false c3; try simp only [c3b, nrm]
        refine w_cond rfl (fun h => Bool.noConfusion h) (fun _ => ?_)
        refine w_exit rfl ?_
        refine k_seq ?_
        refine w_seq ?_
        refine wR fun K hK => ?_
        refine g_as rfl rfl (gT ?_)
        refine g_nil (hK _ _ _ ?_)
        refine k_seq ?_
        refine w_ret ?_
        refine fin_wp (τ := []) rfl (by decide) ?_; rw [← Option.some.inj H]; simp only [Tryd.f31]; exact gF
set_option maxHeartbeats 8000000 in
set_option maxRecDepth 100000 in
theorem dyad_cmp.does {k : Nat} {l0 : List Int} {l1 : List Int} {r : Int} (H : dyad_cmp.f k l0 l1 = some r) : Do E0 (.fn 31 [.r (l0.map (V.i .u32)) l0.length true, .r (l1.map (V.i .u32)) l1.length true] [] (.i .i64 r) []) := by
  obtain ih0 := dyad_cmp.does_l (l0 := l0) (l1 := l1) k
  refine fn_wpl Tryd.func31 rfl (Q := (dyad_cmp.Q l0 l1 r)) (fun s h => h) ?_
  unfold dyad_cmp.f at H
  simp only [Tryd.ntmps31, List.length, List.replicate, Nat.reduceAdd, Nat.reduceSub, List.cons_append, List.nil_append]
  refine w_seq ?_
  refine wR fun K hK => ?_
  refine g_as rfl rfl (gT ?_)
  refine g_nil (hK _ _ _ ?_)
  refine k_seq ?_
  refine w_seq ?_
  refine w_seq ?_
  refine wR fun K hK => ?_
  refine g_mv rfl rfl (gT ?_)
  refine g_len_r rfl rfl Tryd.underlying30 rfl (gT ?_)
  refine g_mv rfl rfl (gT ?_)
  refine g_len_r rfl rfl Tryd.underlying30 rfl (gT ?_)
  refine g_bin rfl rfl rfl rfl rfl (gT ?_)
  refine g_nil (hK _ _ _ ?_)
  refine k_seq ?_
  rcases its H with ⟨c1, H⟩ | ⟨c1, H⟩
  · have c1b := beq_iff_eq.mpr c1; have c1n := bne_eq_false_iff_eq.mpr c1; try simp only [c1b, c1n, nrm]
    refine w_cond rfl (fun h => Bool.noConfusion h) (fun _ => ?_)
    refine w_skip ?_
    refine k_seq ?_
    refine w_seq ?_
    refine w_seq ?_
    refine wR fun K hK => ?_
    refine g_mv rfl rfl (gT ?_)
    refine g_len_r rfl rfl Tryd.underlying30 rfl (gT ?_)
    refine g_bin rfl rfl rfl rfl rfl (gT ?_)
    refine g_as rfl rfl (gT ?_)
    refine g_nil (hK _ _ _ ?_)
    refine k_seq ?_
    refine w_block ?_
    refine w_wk (σ := []) [0, 0, 3] rfl (by decide) ?_; refine gC ?_
    exact gI (ih0 l0 l1 (wrap64 ((l0.length : Int) - 1)) r H)
  · have c1b := beq_eq_false_iff_ne.mpr c1; have c1n := bne_iff_ne.mpr c1; try simp only [c1b, c1n, nrm]
    refine w_cond rfl (fun _ => ?_) (fun h => Bool.noConfusion h)
    refine w_seq ?_
    refine w_seq ?_
    refine wR fun K hK => ?_
    refine g_mv rfl rfl (gT ?_)
    refine g_len_r rfl rfl Tryd.underlying30 rfl (gT ?_)
    refine g_mv rfl rfl (gT ?_)
    refine g_len_r rfl rfl Tryd.underlying30 rfl (gT ?_)
    refine g_bin rfl rfl rfl rfl rfl (gT ?_)
    refine g_nil (hK _ _ _ ?_)
    refine k_seq ?_
    rcases its H with ⟨c2, H⟩ | ⟨c2, H⟩
    · have c2b := decide_eq_true c2; try simp only [c2b, nrm]
      refine w_cond rfl (fun _ => ?_) (fun h => Bool.noConfusion h)
      refine w_seq ?_
      refine wR fun K hK => ?_
      refine g_as rfl rfl (gT ?_)
      refine g_nil (hK _ _ _ ?_)
      refine k_seq ?_
      refine w_ret ?_
      refine fin_wp (τ := []) rfl (by decide) ?_; rw [← Option.some.inj H]; simp only [Tryd.f31]; exact gF
    · have c2b := decide_eq_false c2; try simp only [c2b, nrm]
      refine w_cond rfl (fun h => Bool.noConfusion h) (fun _ => ?_)
      refine w_skip ?_
      refine k_seq ?_
      refine w_seq ?_
      refine wR fun K hK => ?_
      refine g_as rfl rfl (gT ?_)
      refine g_nil (hK _ _ _ ?_)
      refine k_seq ?_
      refine w_ret ?_
      refine fin_wp (τ := []) rfl (by decide) ?_; rw [← Option.some.inj H]; simp only [Tryd.f31]; exact gF

set_option maxHeartbeats 8000000 in
set_option maxRecDepth 100000 in
theorem dyad_line_1.does_l {l0 : List Int} (k : Nat) : (∀ (m_0 : List Int) (n_3 : Int) (r : (List Int)), dyad_line_1.l0 k m_0 n_3 = some r → wk_ E0 (dyad_line_1.Q l0 r) (frs (bodyOf Tryd.f46) [1, 1, 0, 0] []) (sub (bodyOf Tryd.f46) [1, 1, 0, 0]) ⟨[.r (m_0.map (V.i .u32)) m_0.length true, .u, .u, .i .i64 n_3, .u, .u, .u, .u, .u, .u, .u, .u, .u, .u, .u, .u, .u, .u, .u, .u, .u], ofL [], 0, 0⟩) := by
  induction k with
  | zero => exact fun _ _ r h => by simp [dyad_line_1.l0] at h
  | succ k ih =>
    have ih0 := ih
    refine ?_
    · intro m_0 n_3 r H
      unfold dyad_line_1.l0 at H
      simp only [bodyOf, Tryd.f46, frs, sub, if_true, if_false, Nat.one_ne_zero]
      refine w_loop ?_
      refine w_seq ?_
      refine w_seq ?_
      refine wR fun K hK => ?_
      refine g_mv rfl rfl (gT ?_)
      refine g_bin rfl rfl rfl rfl rfl (gT ?_)
      refine g_mv rfl rfl (gT ?_)
      rcases its H with ⟨c1, H⟩ | ⟨c1, H⟩
      · have c1b := decide_eq_true c1; try simp only [c1b, nrm]
        refine g_mv rfl rfl (gT ?_)
        refine g_mv rfl rfl (gT ?_)
        refine g_bin rfl rfl rfl rfl rfl (gT ?_)
        obtain ⟨c2, H⟩ := it1 H
        obtain ⟨c3, H⟩ := it1 H
        refine g_ixr rfl rfl Tryd.underlying30 sz57 rfl rfl (by first | assumption | omega) (by first | assumption | omega | (simp only [List.length_set, List.length_replicate] at *; omega)) (gT ?_)
        refine g_ldq rfl rfl ag57 sz57 rfl (by first | assumption | omega) (gT ?_)
        refine g_bin rfl rfl rfl rfl rfl (gT ?_)
        refine g_pick rfl rfl rfl (gT ?_)
        refine g_nil (hK _ _ _ ?_)
        refine k_seq ?_
        rcases its H with ⟨c4, H⟩ | ⟨c4, H⟩
        · have c4b := beq_iff_eq.mpr c4; have c4n := bne_eq_false_iff_eq.mpr c4; try simp only [c4b, c4n, nrm]
          refine w_cond rfl (fun _ => ?_) (fun h => Bool.noConfusion h)
          refine w_skip ?_
          refine k_seq ?_
          refine w_block ?_
          refine wR fun K hK => ?_
          refine g_mv rfl rfl (gT ?_)
          refine g_bin rfl rfl rfl rfl rfl (gT ?_)
          refine g_as rfl rfl (gT ?_)
          refine g_nil (hK _ _ _ ?_)
          refine k_block ?_
          refine k_loop ?_
          refine w_wk (σ := []) [0, 2] rfl (by decide) ?_; refine gC ?_
          exact gI (ih0 m_0 (wrap64 (n_3 - 1)) r H)
        · have c4b := beq_eq_false_iff_ne.mpr c4; have c4n := bne_iff_ne.mpr c4; try simp only [c4b, c4n, nrm]
          refine w_cond rfl (fun h => Bool.noConfusion h) (fun _ => ?_)
          refine w_exit rfl ?_
          refine k_seq ?_
          refine w_seq ?_
          refine wR fun K hK => ?_
          refine g_mv rfl rfl (gT ?_)
          refine g_mv rfl rfl (gT ?_)
          obtain ⟨c5, H⟩ := it1 H
          obtain ⟨c6, H⟩ := it1 H
          refine g_cth rfl rfl Tryd.underlying30 sz57 rfl rfl rfl (by first | assumption | omega) (by first | assumption | omega) (gT ?_)
          refine g_as rfl rfl (gT ?_)
          refine g_nil (hK _ _ _ ?_)
          refine k_seq ?_
          have tk0_ : (List.take n_3.toNat m_0).length = n_3.toNat := by simp only [List.length_take, List.length_set, List.length_replicate, List.length_append]; omega
          refine w_ret ?_
          refine fin_wp (τ := []) rfl (by decide) ?_; rw [← Option.some.inj H]; simp only [Tryd.f46, tk0_]; exact gF
      · have c1b := decide_eq_false c1; try simp only [c1b, nrm]
        refine g_sk rfl rfl (gT ?_)
        refine g_sk rfl rfl (gT ?_)
        refine g_sk rfl rfl (gT ?_)
        refine g_sk rfl rfl (gT ?_)
        refine g_sk rfl rfl (gT ?_)
        refine g_sk rfl rfl (gT ?_)
        refine g_pick rfl rfl rfl (gT ?_)
        refine g_nil (hK _ _ _ ?_)
        refine k_seq ?_
        refine w_cond rfl (fun h => Bool.noConfusion h) (fun _ => ?_)
        refine w_exit rfl ?_
        refine k_seq ?_
        refine w_seq ?_
        refine wR fun K hK => ?_
        refine g_mv rfl rfl (gT ?_)
        refine g_mv rfl rfl (gT ?_)
        obtain ⟨c7, H⟩ := it1 H
        obtain ⟨c8, H⟩ := it1 H
        refine g_cth rfl rfl Tryd.underlying30 sz57 rfl rfl rfl (by first | assumption | omega) (by first | assumption | omega) (gT ?_)
        refine g_as rfl rfl (gT ?_)
        refine g_nil (hK _ _ _ ?_)
        refine k_seq ?_
        have tk0_ : (List.take n_3.toNat m_0).length = n_3.toNat := by simp only [List.length_take, List.length_set, List.length_replicate, List.length_append]; omega
        refine w_ret ?_
        refine fin_wp (τ := []) rfl (by decide) ?_; rw [← Option.some.inj H]; simp only [Tryd.f46, tk0_]; exact gF
set_option maxHeartbeats 8000000 in
set_option maxRecDepth 100000 in
theorem dyad_line_1.does {k : Nat} {l0 : List Int} {r : (List Int)} (H : dyad_line_1.f k l0 = some r) : Do E0 (.fn 46 [.r (l0.map (V.i .u32)) l0.length true] [] (.r (r.map (V.i .u32)) r.length true) []) := by
  obtain ih0 := dyad_line_1.does_l (l0 := l0) k
  refine fn_wpl Tryd.func46 rfl (Q := (dyad_line_1.Q l0 r)) (fun s h => h) ?_
  unfold dyad_line_1.f at H
  simp only [Tryd.ntmps46, List.length, List.replicate, Nat.reduceAdd, Nat.reduceSub, List.cons_append, List.nil_append]
  refine w_seq ?_
  refine wR fun K hK => ?_
  refine g_as rfl rfl (gT ?_)
  refine g_nil (hK _ _ _ ?_)
  refine k_seq ?_
  refine w_seq ?_
  refine wR fun K hK => ?_
  refine g_mv rfl rfl (gT ?_)
  refine g_len_r rfl rfl Tryd.underlying30 rfl (gT ?_)
  refine g_as rfl rfl (gT ?_)
  refine g_nil (hK _ _ _ ?_)
  refine k_seq ?_
  refine w_seq ?_
  refine w_block ?_
  refine w_wk (σ := []) [0, 2] rfl (by decide) ?_; refine gC ?_
  exact gI (ih0 l0 (l0.length : Int) r H)

set_option maxHeartbeats 8000000 in
set_option maxRecDepth 100000 in
theorem dyad_up.does_l {l0 : List Int} {a1 : Int} (k : Nat) : (∀ (h0 : List Int) (s_6 : Int) (c_7 : Int) (t_21 : List Int) (t_22 : Int) (t_23 : Int) (r : (List Int)), dyad_up.l0 k h0 s_6 c_7 t_21 t_22 t_23 = some r → wk_ E0 (dyad_up.Q l0 a1 r) (frs (bodyOf Tryd.f47) [1, 1, 1, 1, 0, 1, 0] []) (sub (bodyOf Tryd.f47) [1, 1, 1, 1, 0, 1, 0]) ⟨[.u, .u, .u, .u, .u, .s (some (0, 0)) h0.length, .i .i64 s_6, .i .u32 c_7, .u, .u, .u, .u, .u, .u, .u, .u, .u, .u, .u, .u, .u, .r (t_21.map (V.i .u32)) t_21.length true, .i .i64 t_22, .i .i64 t_23, .u, .u, .u, .u, .u, .u, .u, .u, .u, .u, .u, .u, .u, .u, .u, .u, .u, .u, .u, .u, .u, .u], ofL [.row (h0.map (V.i .u32)) 2 1 true true none], 1, 0⟩) := by
  induction k with
  | zero => exact fun _ _ _ _ _ _ r h => by simp [dyad_up.l0] at h
  | succ k ih =>
    have ih0 := ih
    refine ?_
    · intro h0 s_6 c_7 t_21 t_22 t_23 r H
      unfold dyad_up.l0 at H
      simp only [bodyOf, Tryd.f47, frs, sub, if_true, if_false, Nat.one_ne_zero]
      refine w_loop ?_
      refine w_seq ?_
      refine wR fun K hK => ?_
      refine g_bin rfl rfl rfl rfl rfl (gT ?_)
      refine g_nil (hK _ _ _ ?_)
      refine k_seq ?_
      refine w_seq ?_
      rcases its H with ⟨c4, H⟩ | ⟨c4, H⟩
      · have c4b := decide_eq_true c4; try simp only [c4b, nrm]
        refine w_cond rfl (fun _ => ?_) (fun h => Bool.noConfusion h)
        refine w_skip ?_
        refine k_seq ?_
        refine w_seq ?_
        refine w_block ?_
        refine w_seq ?_
        refine wR fun K hK => ?_
        obtain ⟨c5, H⟩ := it1 H
        obtain ⟨c6, H⟩ := it1 H
        refine g_ixr rfl rfl Tryd.underlying30 sz57 rfl rfl (by first | assumption | omega) (by first | assumption | omega | (simp only [List.length_set, List.length_replicate] at *; omega)) (gT ?_)
        refine g_ldq rfl rfl ag57 sz57 rfl (by first | assumption | omega) (gT ?_)
        refine g_as rfl rfl (gT ?_)
        refine g_nil (hK _ _ _ ?_)
        refine k_seq ?_
        refine w_seq ?_
        refine wR fun K hK => ?_
        refine g_mv rfl rfl (gT ?_)
        refine g_mv rfl rfl (gT ?_)
        refine g_mv rfl rfl (gT ?_)
        obtain ⟨c7, H⟩ := it1 H
        refine g_shl rfl rfl rfl rfl (by omega) (gT ?_)
        refine g_mv rfl rfl (gT ?_)
        refine g_bin rfl rfl rfl rfl rfl (gT ?_)
        refine g_bsl (k := .u32) (xs := [(Go.bits .or .u32 (shl .u32 (rd t_21 t_23) s_6) c_7)]) rfl rfl Tryd.underlying30 sz57 zr57 (by decide) rfl rfl rfl (gU ?_)
        obtain ⟨c8, H⟩ := it1 H
        refine g_aps rfl rfl Tryd.underlying30 Tryd.underlying30 sz57 by57 zr57 rfl rfl rfl rfl rfl rfl (by unfold limit; omega) (by omega) ?_; refine gN ?_
        refine g_as rfl rfl (gT ?_)
        refine g_nil (hK _ _ _ ?_)
        refine k_seq ?_
        refine wR fun K hK => ?_
        refine g_mv rfl rfl (gT ?_)
        refine g_conv rfl rfl Tryd.underlying57 Tryd.underlying28 rfl (gT ?_)
        refine g_mv rfl rfl (gT ?_)
        refine g_bin rfl rfl rfl rfl rfl (gT ?_)
        obtain ⟨c9, H⟩ := it1 H
        refine g_shr rfl rfl rfl rfl (by omega) (gT ?_)
        refine g_conv rfl rfl Tryd.underlying28 Tryd.underlying57 rfl (gT ?_)
        refine g_as rfl rfl (gT ?_)
        refine g_nil (hK _ _ _ ?_)
        refine k_block ?_
        refine k_seq ?_
        refine wR fun K hK => ?_
        refine g_bin rfl rfl rfl rfl rfl (gT ?_)
        refine g_mv rfl rfl (gT ?_)
        refine g_nil (hK _ _ _ ?_)
        refine k_loop ?_
        refine w_wk (σ := [45]) [5, 0, 0, 13, 0, 0] rfl (by decide) ?_; refine gC ?_
        exact gI (ih0 (h0 ++ ([(Go.bits .or .u32 (shl .u32 (rd t_21 t_23) s_6) c_7)] : List Int)) s_6 ((shr .u64 (IntKind.u64.wrap ((rd t_21 t_23))) (wrap64 (32 - s_6))) % 4294967296) t_21 t_22 (wrap64 (t_23 + 1)) r H)
      · have c4b := decide_eq_false c4; try simp only [c4b, nrm]
        refine w_cond rfl (fun h => Bool.noConfusion h) (fun _ => ?_)
        refine w_exit rfl ?_
        refine k_seq ?_
        refine w_seq ?_
        refine wR fun K hK => ?_
        refine g_mv rfl rfl (gT ?_)
        refine g_mv rfl rfl (gT ?_)
        refine g_bsl (k := .u32) (xs := [c_7]) rfl rfl Tryd.underlying30 sz57 zr57 (by decide) rfl rfl rfl (gU ?_)
        obtain ⟨c10, H⟩ := it1 H
        refine g_aps rfl rfl Tryd.underlying30 Tryd.underlying30 sz57 by57 zr57 rfl rfl rfl rfl rfl rfl (by unfold limit; omega) (by omega) ?_; refine gN ?_
        refine g_as rfl rfl (gT ?_)
        refine g_nil (hK _ _ _ ?_)
        refine k_seq ?_
        refine w_ret ?_
        refine fin_wp (τ := [17]) rfl (by decide) ?_; rw [← Option.some.inj H]; simp only [Tryd.f47]; exact gF
set_option maxHeartbeats 8000000 in
set_option maxRecDepth 100000 in
theorem dyad_up.does {k : Nat} {l0 : List Int} {a1 : Int} {r : (List Int)} (H : dyad_up.f k l0 a1 = some r) : Do E0 (.fn 47 [.r (l0.map (V.i .u32)) l0.length true, .i .i64 a1] [] (.s (some (0, 0)) r.length) [.row (r.map (V.i .u32)) 2 1 true true none]) := by
  obtain ih0 := dyad_up.does_l (l0 := l0) (a1 := a1) k
  refine fn_wpl Tryd.func47 rfl (Q := (dyad_up.Q l0 a1 r)) (fun s h => h) ?_
  unfold dyad_up.f at H
  simp only [Tryd.ntmps47, List.length, List.replicate, Nat.reduceAdd, Nat.reduceSub, List.cons_append, List.nil_append]
  refine w_seq ?_
  refine wR fun K hK => ?_
  refine g_as rfl rfl (gT ?_)
  refine g_nil (hK _ _ _ ?_)
  refine k_seq ?_
  refine w_seq ?_
  refine wR fun K hK => ?_
  refine g_mv rfl rfl (gT ?_)
  refine g_quo rfl rfl rfl rfl (by first | assumption | omega) (gT ?_)
  refine g_mv rfl rfl (gT ?_)
  refine g_quo rfl rfl rfl rfl (by first | assumption | omega) (gT ?_)
  refine g_mv rfl rfl (gT ?_)
  refine g_len_r rfl rfl Tryd.underlying30 rfl (gT ?_)
  refine g_bin rfl rfl rfl rfl rfl (gT ?_)
  refine g_bin rfl rfl rfl rfl rfl (gT ?_)
  obtain ⟨c1, H⟩ := it1 H
  obtain ⟨c2, H⟩ := it1 H
  obtain ⟨c3, H⟩ := it1 H
  refine g_mk rfl rfl Tryd.underlying30 sz57 by57 zr57 rfl rfl rfl (by first | assumption | omega) (by omega) (by unfold limit; omega) (by omega) (gU ?_)
  refine g_as rfl rfl (gT ?_)
  refine g_nil (hK _ _ _ ?_)
  refine k_seq ?_
  refine w_seq ?_
  refine wR fun K hK => ?_
  refine g_mv rfl rfl (gT ?_)
  refine g_rem rfl rfl rfl rfl (by first | assumption | omega) (gT ?_)
  refine g_as rfl rfl (gT ?_)
  refine g_nil (hK _ _ _ ?_)
  refine k_seq ?_
  refine w_seq ?_
  refine wR fun K hK => ?_
  refine g_as rfl rfl (gT ?_)
  refine g_nil (hK _ _ _ ?_)
  refine k_seq ?_
  refine w_seq ?_
  refine w_seq ?_
  refine wR fun K hK => ?_
  refine g_mv rfl rfl (gT ?_)
  refine g_len_r rfl rfl Tryd.underlying30 rfl (gT ?_)
  refine g_mv rfl rfl (gT ?_)
  refine g_nil (hK _ _ _ ?_)
  refine k_seq ?_
  refine w_block ?_
  refine w_wk (σ := [36]) [5, 0, 0, 13, 0, 0] rfl (by decide) ?_; refine gC ?_
  exact gI (ih0 (List.replicate (wrap64 (Int.tdiv a1 32)).toNat 0) (Int.tmod a1 32) 0 l0 (l0.length : Int) 0 r H)

set_option maxHeartbeats 8000000 in
set_option maxRecDepth 100000 in
theorem dyad_line.does {k : Nat} {a0_0 : Bool} {l0_1 : List Int} {a0_2 : Int} {a1_0 : Bool} {l1_1 : List Int} {a1_2 : Int} {r : (List Int) × (List Int) × Int} (H : dyad_line.f k a0_0 l0_1 a0_2 a1_0 l1_1 a1_2 = some r) : Do E0 (.fn 30 [.a [.b a0_0, .r (l0_1.map (V.i .u32)) l0_1.length true, .i .i64 a0_2], .a [.b a1_0, .r (l1_1.map (V.i .u32)) l1_1.length true, .i .i64 a1_2]] [] (.t [.r (r.1.map (V.i .u32)) r.1.length true, .r (r.2.1.map (V.i .u32)) r.2.1.length true, .i .i64 r.2.2]) []) := by
  refine fn_wpl Tryd.func30 rfl (Q := (dyad_line.Q a0_0 l0_1 a0_2 a1_0 l1_1 a1_2 r)) (fun s h => h) ?_
  unfold dyad_line.f at H
  simp only [Tryd.ntmps30, List.length, List.replicate, Nat.reduceAdd, Nat.reduceSub, List.cons_append, List.nil_append]
  refine w_seq ?_
  refine wR fun K hK => ?_
  refine g_box rfl rfl rfl (by rfl) (gU ?_)
  refine g_box rfl rfl rfl (by rfl) (gU ?_)
  refine g_as rfl rfl (gT ?_)
  refine g_as rfl rfl (gT ?_)
  refine g_as rfl rfl (gT ?_)
  refine g_nil (hK _ _ _ ?_)
  refine k_seq ?_
  refine w_seq ?_
  refine wR fun K hK => ?_
  refine g_fd rfl rfl fa32_2 rfl (gT ?_)
  refine g_ldc rfl rfl ag3 sz3 rfl rfl rfl (gT ?_)
  refine g_fd rfl rfl fa32_2 rfl (gT ?_)
  refine g_ldc rfl rfl ag3 sz3 rfl rfl rfl (gT ?_)
  refine g_min rfl rfl rfl rfl (m := mn _ _) rfl (gT ?_)
  refine g_as rfl rfl (gT ?_)
  refine g_nil (hK _ _ _ ?_)
  refine k_seq ?_
  refine w_seq ?_
  refine wR fun K hK => ?_
  refine g_as rfl rfl (gT ?_)
  refine g_nil (hK _ _ _ ?_)
  refine k_seq ?_
  refine w_seq ?_
  refine wD fun K hK => ?_
  refine g_mv rfl rfl (gT ?_)
  refine g_fd rfl rfl fa32_1 rfl (gT ?_)
  refine g_ldc rfl rfl ag30 sz30 rfl rfl rfl (gT ?_)
  refine g_fd rfl rfl fa32_2 rfl (gT ?_)
  refine g_ldc rfl rfl ag3 sz3 rfl rfl rfl (gT ?_)
  refine g_mv rfl rfl (gT ?_)
  refine g_bin rfl rfl rfl rfl rfl (gT ?_)
  obtain ⟨q1, hq1, H⟩ := bnd H
  refine g_cs [] rfl rfl (by rfl) Tryd.func47 rfl (by decide) (dyad_up.does hq1) ⟨Nat.le_of_ble_eq_true rfl, Nat.le_of_ble_eq_true rfl⟩ ?_; refine gC ?_
  obtain ⟨q2, hq2, H⟩ := bnd H
  refine g_cs [] rfl rfl (by rfl) Tryd.func46 rfl (by decide) (dyad_line_1.does hq2) ⟨Nat.le_of_ble_eq_true rfl, Nat.le_of_ble_eq_true rfl⟩ ?_; refine gC ?_
  refine g_mv rfl rfl (gT ?_)
  refine g_fd rfl rfl fa32_1 rfl (gT ?_)
  refine g_ldc rfl rfl ag30 sz30 rfl rfl rfl (gT ?_)
  refine g_fd rfl rfl fa32_2 rfl (gT ?_)
  refine g_ldc rfl rfl ag3 sz3 rfl rfl rfl (gT ?_)
  refine g_mv rfl rfl (gT ?_)
  refine g_bin rfl rfl rfl rfl rfl (gT ?_)
  obtain ⟨q3, hq3, H⟩ := bnd H
  refine g_cs [] rfl rfl (by rfl) Tryd.func47 rfl (by decide) (dyad_up.does hq3) ⟨Nat.le_of_ble_eq_true rfl, Nat.le_of_ble_eq_true rfl⟩ ?_; refine gC ?_
  obtain ⟨q4, hq4, H⟩ := bnd H
  refine g_cs [] rfl rfl (by rfl) Tryd.func46 rfl (by decide) (dyad_line_1.does hq4) ⟨Nat.le_of_ble_eq_true rfl, Nat.le_of_ble_eq_true rfl⟩ ?_; refine gC ?_
  refine g_mv rfl rfl (gT ?_)
  refine g_as rfl rfl (gT ?_)
  refine g_as rfl rfl (gT ?_)
  refine g_as rfl rfl (gT ?_)
  refine g_nil (hK _ _ _ (by kernel_rfl) ?_)
  refine k_seq ?_
  refine w_ret ?_
  refine fin_wp (τ := []) rfl (by decide) ?_; rw [← Option.some.inj H]; simp only [Tryd.f30]; exact gF

set_option maxHeartbeats 8000000 in
set_option maxRecDepth 100000 in
theorem dyad_Num_Add.does_l {a0_0 : Bool} {l0_1 : List Int} {a0_2 : Int} {a1_0 : Bool} {l1_1 : List Int} {a1_2 : Int} (k : Nat) : (∀ (x_5 : List Int) (y_6 : List Int) (e_7 : Int) (h0_0 : Bool) (h0_1 : List Int) (h0_2 : Int) (h1_1 : Int) (r : Bool × (List Int) × Int), dyad_Num_Add.j0 k x_5 y_6 e_7 h0_0 h0_1 h0_2 = some r → kont E0 (dyad_Num_Add.Q a0_0 l0_1 a0_2 a1_0 l1_1 a1_2 r) (frs (bodyOf Tryd.f9) [1, 1, 1, 1, 0, 1, 0, 0, 1] []) .normal ⟨[.u, .u, .p (some (0, 0)), .u, .p (some (1, 0)), .r (x_5.map (V.i .u32)) x_5.length true, .r (y_6.map (V.i .u32)) y_6.length true, .i .i64 e_7, .u, .u, .u, .u, .u, .u, .u, .u, .u, .u, .u, .u, .u, .u, .u, .u, .u, .u, .u, .u, .u, .u, .u, .u, .u, .u, .u, .u, .u, .u, .u, .u, .u, .u, .u, .u, .u, .u, .u, .u, .u, .u, .u, .u, .u, .u, .u, .u, .u, .u, .u, .u, .u, .u, .u, .u, .u, .u, .u, .u, .u, .u, .u, .u, .u, .u, .u, .u, .u, .u, .u, .u, .u, .u, .u, .u, .u, .u, .u, .u, .u, .u, .u, .u, .u, .u, .u, .u, .u, .u, .u, .u, .u, .u, .u, .u, .u, .u, .u, .u, .u, .u, .u, .u, .u, .u, .u, .u, .u, .u, .u, .u, .u, .u, .u, .u, .u, .u, .u, .u, .u, .u, .u, .u, .u, .u, .u, .u, .u, .u, .u, .u], ofL [.row [.b h0_0, .r (h0_1.map (V.i .u32)) h0_1.length true, .i .i64 h0_2] 0 0 true true none, .row [.b false, .s none 0, .i .i64 h1_1] 0 0 true true none], 2, 0⟩) ∧
    (∀ (x_5 : List Int) (y_6 : List Int) (e_7 : Int) (h2 : List Int) (c_9 : Int) (t_49 : Int) (t_50 : Int) (h0_0 : Bool) (h0_1 : List Int) (h0_2 : Int) (h1_1 : Int) (r : Bool × (List Int) × Int), dyad_Num_Add.l0 k x_5 y_6 e_7 h2 c_9 t_49 t_50 h0_0 h0_1 h0_2 = some r → wk_ E0 (dyad_Num_Add.Q a0_0 l0_1 a0_2 a1_0 l1_1 a1_2 r) (frs (bodyOf Tryd.f9) [1, 1, 1, 1, 0, 1, 0, 1, 1, 1, 0, 1, 0] []) (sub (bodyOf Tryd.f9) [1, 1, 1, 1, 0, 1, 0, 1, 1, 1, 0, 1, 0]) ⟨[.u, .u, .p (some (0, 0)), .u, .p (some (1, 0)), .r (x_5.map (V.i .u32)) x_5.length true, .r (y_6.map (V.i .u32)) y_6.length true, .i .i64 e_7, .s (some (2, 0)) h2.length, .i .u64 c_9, .u, .u, .u, .u, .u, .u, .u, .u, .u, .u, .u, .u, .u, .u, .u, .u, .u, .u, .u, .u, .u, .u, .u, .u, .u, .u, .u, .u, .u, .u, .u, .u, .u, .u, .u, .u, .u, .u, .u, .i .i64 t_49, .i .i64 t_50, .u, .u, .u, .u, .u, .u, .u, .u, .u, .u, .u, .u, .u, .u, .u, .u, .u, .u, .u, .u, .u, .u, .u, .u, .u, .u, .u, .u, .u, .u, .u, .u, .u, .u, .u, .u, .u, .u, .u, .u, .u, .u, .u, .u, .u, .u, .u, .u, .u, .u, .u, .u, .u, .u, .u, .u, .u, .u, .u, .u, .u, .u, .u, .u, .u, .u, .u, .u, .u, .u, .u, .u, .u, .u, .u, .u, .u, .u, .u, .u, .u, .u, .u, .u, .u, .u, .u, .u, .u], ofL [.row [.b h0_0, .r (h0_1.map (V.i .u32)) h0_1.length true, .i .i64 h0_2] 0 0 true true none, .row [.b false, .s none 0, .i .i64 h1_1] 0 0 true true none, .row (h2.map (V.i .u32)) 2 1 true true none], 3, 0⟩) ∧
    (∀ (x_5 : List Int) (y_6 : List Int) (e_7 : Int) (neg_11 : Bool) (h0_1 : Int) (r : Bool × (List Int) × Int), dyad_Num_Add.j2 k x_5 y_6 e_7 neg_11 = some r → kont E0 (dyad_Num_Add.Q a0_0 l0_1 a0_2 a1_0 l1_1 a1_2 r) (frs (bodyOf Tryd.f9) [1, 1, 1, 1, 1, 1, 0, 1] []) .normal ⟨[.u, .u, .u, .u, .p (some (0, 0)), .r (x_5.map (V.i .u32)) x_5.length true, .r (y_6.map (V.i .u32)) y_6.length true, .i .i64 e_7, .u, .u, .u, .b neg_11, .u, .u, .u, .u, .u, .u, .u, .u, .u, .u, .u, .u, .u, .u, .u, .u, .u, .u, .u, .u, .u, .u, .u, .u, .u, .u, .u, .u, .u, .u, .u, .u, .u, .u, .u, .u, .u, .u, .u, .u, .u, .u, .u, .u, .u, .u, .u, .u, .u, .u, .u, .u, .u, .u, .u, .u, .u, .u, .u, .u, .u, .u, .u, .u, .u, .u, .u, .u, .u, .u, .u, .u, .u, .u, .u, .u, .u, .u, .u, .u, .u, .u, .u, .u, .u, .u, .u, .u, .u, .u, .u, .u, .u, .u, .u, .u, .u, .u, .u, .u, .u, .u, .u, .u, .u, .u, .u, .u, .u, .u, .u, .u, .u, .u, .u, .u, .u, .u, .u, .u, .u, .u, .u, .u, .u, .u, .u, .u], ofL [.row [.b false, .s none 0, .i .i64 h0_1] 0 0 true true none], 1, 0⟩) ∧
    (∀ (x_5 : List Int) (y_6 : List Int) (e_7 : Int) (neg_11 : Bool) (h1 : List Int) (c_13 : Int) (t_106 : Int) (t_107 : Int) (h0_1 : Int) (r : Bool × (List Int) × Int), dyad_Num_Add.l1 k x_5 y_6 e_7 neg_11 h1 c_13 t_106 t_107 = some r → wk_ E0 (dyad_Num_Add.Q a0_0 l0_1 a0_2 a1_0 l1_1 a1_2 r) (frs (bodyOf Tryd.f9) [1, 1, 1, 1, 1, 1, 1, 1, 1, 0, 1, 0] []) (sub (bodyOf Tryd.f9) [1, 1, 1, 1, 1, 1, 1, 1, 1, 0, 1, 0]) ⟨[.u, .u, .u, .u, .p (some (0, 0)), .r (x_5.map (V.i .u32)) x_5.length true, .r (y_6.map (V.i .u32)) y_6.length true, .i .i64 e_7, .u, .u, .u, .b neg_11, .s (some (1, 0)) h1.length, .i .i64 c_13, .u, .u, .u, .u, .u, .u, .u, .u, .u, .u, .u, .u, .u, .u, .u, .u, .u, .u, .u, .u, .u, .u, .u, .u, .u, .u, .u, .u, .u, .u, .u, .u, .u, .u, .u, .u, .u, .u, .u, .u, .u, .u, .u, .u, .u, .u, .u, .u, .u, .u, .u, .u, .u, .u, .u, .u, .u, .u, .u, .u, .u, .u, .u, .u, .u, .u, .u, .u, .u, .u, .u, .u, .u, .u, .u, .u, .u, .u, .u, .u, .u, .u, .u, .u, .u, .u, .u, .u, .u, .u, .u, .u, .i .i64 t_106, .i .i64 t_107, .u, .u, .u, .u, .u, .u, .u, .u, .u, .u, .u, .u, .u, .u, .u, .u, .u, .u, .u, .u, .u, .u, .u, .u, .u, .u, .u, .u, .u, .u, .u, .u], ofL [.row [.b false, .s none 0, .i .i64 h0_1] 0 0 true true none, .row (h1.map (V.i .u32)) 2 1 true true none], 2, 0⟩) := by
  induction k with
  | zero => exact ⟨fun _ _ _ _ _ _ _ r h => by simp [dyad_Num_Add.j0] at h, fun _ _ _ _ _ _ _ _ _ _ _ r h => by simp [dyad_Num_Add.l0] at h, fun _ _ _ _ _ r h => by simp [dyad_Num_Add.j2] at h, fun _ _ _ _ _ _ _ _ _ r h => by simp [dyad_Num_Add.l1] at h⟩
  | succ k ih =>
    obtain ⟨ih0, ih1, ih2, ih3⟩ := ih
    refine ⟨?_, ?_, ?_, ?_⟩
    · intro x_5 y_6 e_7 h0_0 h0_1 h0_2 h1_1 r H
      unfold dyad_Num_Add.j0 at H
      simp only [bodyOf, Tryd.f9, frs, sub, if_true, if_false, Nat.one_ne_zero]
      refine k_seq ?_
      refine w_seq ?_
      refine wR fun K hK => ?_
      refine g_mv rfl rfl (gT ?_)
      refine g_len_r rfl rfl Tryd.underlying30 rfl (gT ?_)
      refine g_bin rfl rfl rfl rfl rfl (gT ?_)
      obtain ⟨c9, H⟩ := it1 H
      obtain ⟨c10, H⟩ := it1 H
      refine g_mk rfl rfl Tryd.underlying30 sz57 by57 zr57 rfl rfl rfl (by first | assumption | omega) (by omega) (by unfold limit; omega) (by omega) (gU ?_)
      refine g_as rfl rfl (gT ?_)
      refine g_nil (hK _ _ _ ?_)
      refine k_seq ?_
      refine w_seq ?_
      refine wR fun K hK => ?_
      refine g_as rfl rfl (gT ?_)
      refine g_nil (hK _ _ _ ?_)
      refine k_seq ?_
      refine w_seq ?_
      refine w_seq ?_
      refine wR fun K hK => ?_
      refine g_mv rfl rfl (gT ?_)
      refine g_len_r rfl rfl Tryd.underlying30 rfl (gT ?_)
      refine g_mv rfl rfl (gT ?_)
      refine g_nil (hK _ _ _ ?_)
      refine k_seq ?_
      refine w_block ?_
      refine w_wk (σ := [0, 1, 14]) [2, 1, 0, 0, 0, 0, 0, 39, 0] rfl (by decide) ?_; refine gC ?_
      exact gI (ih1 x_5 y_6 e_7 (List.replicate 0 0) 0 (x_5.length : Int) 0 h0_0 h0_1 h0_2 h1_1 r H)
    · intro x_5 y_6 e_7 h2 c_9 t_49 t_50 h0_0 h0_1 h0_2 h1_1 r H
      unfold dyad_Num_Add.l0 at H
      simp only [bodyOf, Tryd.f9, frs, sub, if_true, if_false, Nat.one_ne_zero]
      refine w_loop ?_
      refine w_seq ?_
      refine wR fun K hK => ?_
      refine g_bin rfl rfl rfl rfl rfl (gT ?_)
      refine g_nil (hK _ _ _ ?_)
      refine k_seq ?_
      refine w_seq ?_
      rcases its H with ⟨c13, H⟩ | ⟨c13, H⟩
      · have c13b := decide_eq_true c13; try simp only [c13b, nrm]
        refine w_cond rfl (fun _ => ?_) (fun h => Bool.noConfusion h)
        refine w_skip ?_
        refine k_seq ?_
        refine w_seq ?_
        refine w_block ?_
        refine w_seq ?_
        refine wR fun K hK => ?_
        refine g_mv rfl rfl (gT ?_)
        refine g_as rfl rfl (gT ?_)
        refine g_nil (hK _ _ _ ?_)
        refine k_seq ?_
        refine w_seq ?_
        refine wR fun K hK => ?_
        refine g_mv rfl rfl (gT ?_)
        refine g_mv rfl rfl (gT ?_)
        refine g_mv rfl rfl (gT ?_)
        obtain ⟨c14, H⟩ := it1 H
        obtain ⟨c15, H⟩ := it1 H
        refine g_ixr rfl rfl Tryd.underlying30 sz57 rfl rfl (by first | assumption | omega) (by first | assumption | omega | (simp only [List.length_set, List.length_replicate] at *; omega)) (gT ?_)
        refine g_ldq rfl rfl ag57 sz57 rfl (by first | assumption | omega) (gT ?_)
        refine g_conv rfl rfl Tryd.underlying57 Tryd.underlying28 rfl (gT ?_)
        refine g_bin rfl rfl rfl rfl rfl (gT ?_)
        refine g_as rfl rfl (gT ?_)
        refine g_nil (hK _ _ _ ?_)
        refine k_seq ?_
        refine w_seq ?_
        refine w_seq ?_
        refine wR fun K hK => ?_
        refine g_mv rfl rfl (gT ?_)
        refine g_mv rfl rfl (gT ?_)
        refine g_len_r rfl rfl Tryd.underlying30 rfl (gT ?_)
        refine g_bin rfl rfl rfl rfl rfl (gT ?_)
        refine g_nil (hK _ _ _ ?_)
        refine k_seq ?_
        rcases its H with ⟨c16, H⟩ | ⟨c16, H⟩
        · have c16b := decide_eq_true c16; try simp only [c16b, nrm]
          refine w_cond rfl (fun _ => ?_) (fun h => Bool.noConfusion h)
          refine wR fun K hK => ?_
          refine g_mv rfl rfl (gT ?_)
          refine g_mv rfl rfl (gT ?_)
          refine g_mv rfl rfl (gT ?_)
          refine g_ixr rfl rfl Tryd.underlying30 sz57 rfl rfl (by first | assumption | omega) (by first | assumption | omega | (simp only [List.length_set, List.length_replicate] at *; omega)) (gT ?_)
          refine g_ldq rfl rfl ag57 sz57 rfl (by first | assumption | omega) (gT ?_)
          refine g_conv rfl rfl Tryd.underlying57 Tryd.underlying28 rfl (gT ?_)
          refine g_bin rfl rfl rfl rfl rfl (gT ?_)
          refine g_as rfl rfl (gT ?_)
          refine g_nil (hK _ _ _ ?_)
          refine k_seq ?_
          refine wR fun K hK => ?_
          refine g_mv rfl rfl (gT ?_)
          refine g_mv rfl rfl (gT ?_)
          refine g_conv rfl rfl Tryd.underlying28 Tryd.underlying57 rfl (gT ?_)
          refine g_bsl (k := .u32) (xs := [((IntKind.u64.wrap ((IntKind.u64.wrap (c_9 + (IntKind.u64.wrap ((rd x_5 t_50))))) + (IntKind.u64.wrap ((rd y_6 t_50))))) % 4294967296)]) rfl rfl Tryd.underlying30 sz57 zr57 (by decide) rfl rfl rfl (gU ?_)
          obtain ⟨c17, H⟩ := it1 H
          refine g_aps rfl rfl Tryd.underlying30 Tryd.underlying30 sz57 by57 zr57 rfl rfl rfl rfl rfl rfl (by unfold limit; omega) (by omega) ?_; refine gN ?_
          refine g_mv rfl rfl (gT ?_)
          refine g_shrc (p := 4294967296) rfl rfl rfl rfl (by decide) (by rfl) (gT ?_)
          refine g_as rfl rfl (gT ?_)
          refine g_as rfl rfl (gT ?_)
          refine g_nil (hK _ _ _ ?_)
          refine k_block ?_
          refine k_seq ?_
          refine wR fun K hK => ?_
          refine g_bin rfl rfl rfl rfl rfl (gT ?_)
          refine g_mv rfl rfl (gT ?_)
          refine g_nil (hK _ _ _ ?_)
          refine k_loop ?_
          refine w_wk (σ := [0, 1, 111]) [2, 1, 0, 0, 0, 0, 0, 39, 0] rfl (by decide) ?_; refine gC ?_
          exact gI (ih1 x_5 y_6 e_7 (h2 ++ ([((IntKind.u64.wrap ((IntKind.u64.wrap (c_9 + (IntKind.u64.wrap ((rd x_5 t_50))))) + (IntKind.u64.wrap ((rd y_6 t_50))))) % 4294967296)] : List Int)) ((IntKind.u64.wrap ((IntKind.u64.wrap (c_9 + (IntKind.u64.wrap ((rd x_5 t_50))))) + (IntKind.u64.wrap ((rd y_6 t_50))))) / 4294967296) t_49 (wrap64 (t_50 + 1)) h0_0 h0_1 h0_2 h1_1 r H)
        · have c16b := decide_eq_false c16; try simp only [c16b, nrm]
          refine w_cond rfl (fun h => Bool.noConfusion h) (fun _ => ?_)
          refine w_skip ?_
          refine k_seq ?_
          refine wR fun K hK => ?_
          refine g_mv rfl rfl (gT ?_)
          refine g_mv rfl rfl (gT ?_)
          refine g_conv rfl rfl Tryd.underlying28 Tryd.underlying57 rfl (gT ?_)
          refine g_bsl (k := .u32) (xs := [((IntKind.u64.wrap (c_9 + (IntKind.u64.wrap ((rd x_5 t_50))))) % 4294967296)]) rfl rfl Tryd.underlying30 sz57 zr57 (by decide) rfl rfl rfl (gU ?_)
          obtain ⟨c18, H⟩ := it1 H
          refine g_aps rfl rfl Tryd.underlying30 Tryd.underlying30 sz57 by57 zr57 rfl rfl rfl rfl rfl rfl (by unfold limit; omega) (by omega) ?_; refine gN ?_
          refine g_mv rfl rfl (gT ?_)
          refine g_shrc (p := 4294967296) rfl rfl rfl rfl (by decide) (by rfl) (gT ?_)
          refine g_as rfl rfl (gT ?_)
          refine g_as rfl rfl (gT ?_)
          refine g_nil (hK _ _ _ ?_)
          refine k_block ?_
          refine k_seq ?_
          refine wR fun K hK => ?_
          refine g_bin rfl rfl rfl rfl rfl (gT ?_)
          refine g_mv rfl rfl (gT ?_)
          refine g_nil (hK _ _ _ ?_)
          refine k_loop ?_
          refine w_wk (σ := [0, 1, 79]) [2, 1, 0, 0, 0, 0, 0, 39, 0] rfl (by decide) ?_; refine gC ?_
          exact gI (ih1 x_5 y_6 e_7 (h2 ++ ([((IntKind.u64.wrap (c_9 + (IntKind.u64.wrap ((rd x_5 t_50))))) % 4294967296)] : List Int)) ((IntKind.u64.wrap (c_9 + (IntKind.u64.wrap ((rd x_5 t_50))))) / 4294967296) t_49 (wrap64 (t_50 + 1)) h0_0 h0_1 h0_2 h1_1 r H)
      · have c13b := decide_eq_false c13; try simp only [c13b, nrm]
        refine w_cond rfl (fun h => Bool.noConfusion h) (fun _ => ?_)
        refine w_exit rfl ?_
        refine k_seq ?_
        refine w_seq ?_
        refine wD fun K hK => ?_
        refine g_fd rfl rfl fa32_0 rfl (gT ?_)
        refine g_ldc rfl rfl ag4 sz4 rfl rfl rfl (gT ?_)
        refine g_mv rfl rfl (gT ?_)
        refine g_mv rfl rfl (gT ?_)
        refine g_conv rfl rfl Tryd.underlying28 Tryd.underlying57 rfl (gT ?_)
        refine g_bsl (k := .u32) (xs := [(c_9 % 4294967296)]) rfl rfl Tryd.underlying30 sz57 zr57 (by decide) rfl rfl rfl (gU ?_)
        obtain ⟨c19, H⟩ := it1 H
        refine g_aps rfl rfl Tryd.underlying30 Tryd.underlying30 sz57 by57 zr57 rfl rfl rfl rfl rfl rfl (by unfold limit; omega) (by omega) ?_; refine gN ?_
        refine g_mv rfl rfl (gT ?_)
        obtain ⟨q20, hq20, H⟩ := bnd H
        refine g_cs [] rfl rfl (by rfl) Tryd.func26 rfl (by decide) (dyad_trim.does hq20) ⟨Nat.le_of_ble_eq_true rfl, Nat.le_of_ble_eq_true rfl⟩ ?_; refine gC ?_
        refine g_st rfl rfl sz32 rfl rfl rfl (by rfl) (Nat.le_of_ble_eq_true rfl) (gU ?_)
        refine g_nil (hK _ _ _ (by kernel_rfl) ?_)
        refine k_seq ?_
        refine w_ret ?_
        refine fin_wp (τ := []) rfl (by decide) ?_; rw [← Option.some.inj H]; simp only [Tryd.f9, ag32, sz32, nrm, nrmw, nrmc, nrme, nrmo, nrml, nrmb, nrmx, Nat.reduceEqDiff, Nat.reduceBEq, Nat.zero_add, Nat.add_zero, Nat.mul_one, List.length_cons, List.length_nil, List.length_map, List.length_set, List.length_replicate, List.drop_zero, List.drop_succ_cons, List.drop_nil, List.take_zero, List.take_succ_cons, List.take_nil, Nat.le_refl, if_true, if_false, Option.any_none, Option.any_some, List.contains_nil, Bool.not_false, Bool.or_true, Bool.true_or, Bool.or_false, Bool.false_or, Bool.and_true, Bool.true_and, Bool.and_self, reduceCtorEq, beq_self_eq_true, List.map_cons, List.map_nil, List.append_nil, List.nil_append, List.contains_cons, List.filter_cons, List.filter_nil, List.cons_append, Bool.false_eq_true, true_and, and_true, List.getElem_toArray, List.getElem_cons_zero, List.getElem_cons_succ, Nat.reduceAdd, Nat.reduceMul, Nat.reduceLT, Nat.reduceSub, Nat.reduceLeDiff]; try (first | rfl | exact ⟨rfl, trivial⟩ | exact ⟨rfl, rfl⟩)
    · intro x_5 y_6 e_7 neg_11 h0_1 r H
      unfold dyad_Num_Add.j2 at H
      simp only [bodyOf, Tryd.f9, frs, sub, if_true, if_false, Nat.one_ne_zero]
      refine k_seq ?_
      refine w_seq ?_
      refine wR fun K hK => ?_
      refine g_mv rfl rfl (gT ?_)
      refine g_len_r rfl rfl Tryd.underlying30 rfl (gT ?_)
      obtain ⟨c11, H⟩ := it1 H
      obtain ⟨c12, H⟩ := it1 H
      refine g_mk rfl rfl Tryd.underlying30 sz57 by57 zr57 rfl rfl rfl (by first | assumption | omega) (by omega) (by unfold limit; omega) (by omega) (gU ?_)
      refine g_as rfl rfl (gT ?_)
      refine g_nil (hK _ _ _ ?_)
      refine k_seq ?_
      refine w_seq ?_
      refine wR fun K hK => ?_
      refine g_as rfl rfl (gT ?_)
      refine g_nil (hK _ _ _ ?_)
      refine k_seq ?_
      refine w_seq ?_
      refine w_seq ?_
      refine wR fun K hK => ?_
      refine g_mv rfl rfl (gT ?_)
      refine g_len_r rfl rfl Tryd.underlying30 rfl (gT ?_)
      refine g_mv rfl rfl (gT ?_)
      refine g_nil (hK _ _ _ ?_)
      refine k_seq ?_
      refine w_block ?_
      refine w_wk (σ := [0, 9]) [4, 0, 0, 0, 3, 0, 0, 92, 0] rfl (by decide) ?_; refine gC ?_
      exact gI (ih3 x_5 y_6 e_7 neg_11 (List.replicate 0 0) 0 (x_5.length : Int) 0 h0_1 r H)
    · intro x_5 y_6 e_7 neg_11 h1 c_13 t_106 t_107 h0_1 r H
      unfold dyad_Num_Add.l1 at H
      simp only [bodyOf, Tryd.f9, frs, sub, if_true, if_false, Nat.one_ne_zero]
      refine w_loop ?_
      refine w_seq ?_
      refine wR fun K hK => ?_
      refine g_bin rfl rfl rfl rfl rfl (gT ?_)
      refine g_nil (hK _ _ _ ?_)
      refine k_seq ?_
      refine w_seq ?_
      rcases its H with ⟨c21, H⟩ | ⟨c21, H⟩
      · have c21b := decide_eq_true c21; try simp only [c21b, nrm]
        refine w_cond rfl (fun _ => ?_) (fun h => Bool.noConfusion h)
        refine w_skip ?_
        refine k_seq ?_
        refine w_seq ?_
        refine w_block ?_
        refine w_seq ?_
        refine wR fun K hK => ?_
        refine g_mv rfl rfl (gT ?_)
        refine g_as rfl rfl (gT ?_)
        refine g_nil (hK _ _ _ ?_)
        refine k_seq ?_
        refine w_seq ?_
        refine wR fun K hK => ?_
        refine g_mv rfl rfl (gT ?_)
        refine g_mv rfl rfl (gT ?_)
        refine g_mv rfl rfl (gT ?_)
        obtain ⟨c22, H⟩ := it1 H
        obtain ⟨c23, H⟩ := it1 H
        refine g_ixr rfl rfl Tryd.underlying30 sz57 rfl rfl (by first | assumption | omega) (by first | assumption | omega | (simp only [List.length_set, List.length_replicate] at *; omega)) (gT ?_)
        refine g_ldq rfl rfl ag57 sz57 rfl (by first | assumption | omega) (gT ?_)
        refine g_conv rfl rfl Tryd.underlying57 Tryd.underlying2 rfl (gT ?_)
        refine g_bin rfl rfl rfl rfl rfl (gT ?_)
        refine g_as rfl rfl (gT ?_)
        refine g_nil (hK _ _ _ ?_)
        refine k_seq ?_
        refine w_seq ?_
        refine w_seq ?_
        refine wR fun K hK => ?_
        refine g_mv rfl rfl (gT ?_)
        refine g_mv rfl rfl (gT ?_)
        refine g_len_r rfl rfl Tryd.underlying30 rfl (gT ?_)
        refine g_bin rfl rfl rfl rfl rfl (gT ?_)
        refine g_nil (hK _ _ _ ?_)
        refine k_seq ?_
        rcases its H with ⟨c24, H⟩ | ⟨c24, H⟩
        · have c24b := decide_eq_true c24; try simp only [c24b, nrm]
          refine w_cond rfl (fun _ => ?_) (fun h => Bool.noConfusion h)
          refine wR fun K hK => ?_
          refine g_mv rfl rfl (gT ?_)
          refine g_mv rfl rfl (gT ?_)
          refine g_mv rfl rfl (gT ?_)
          refine g_ixr rfl rfl Tryd.underlying30 sz57 rfl rfl (by first | assumption | omega) (by first | assumption | omega | (simp only [List.length_set, List.length_replicate] at *; omega)) (gT ?_)
          refine g_ldq rfl rfl ag57 sz57 rfl (by first | assumption | omega) (gT ?_)
          refine g_conv rfl rfl Tryd.underlying57 Tryd.underlying2 rfl (gT ?_)
          refine g_bin rfl rfl rfl rfl rfl (gT ?_)
          refine g_as rfl rfl (gT ?_)
          refine g_nil (hK _ _ _ ?_)
          refine k_seq ?_
          refine wR fun K hK => ?_
          refine g_mv rfl rfl (gT ?_)
          refine g_mv rfl rfl (gT ?_)
          refine g_conv rfl rfl Tryd.underlying2 Tryd.underlying57 rfl (gT ?_)
          refine g_bsl (k := .u32) (xs := [((wrap64 ((wrap64 (c_13 + (wrap64 ((rd x_5 t_107))))) - (wrap64 ((rd y_6 t_107))))) % 4294967296)]) rfl rfl Tryd.underlying30 sz57 zr57 (by decide) rfl rfl rfl (gU ?_)
          obtain ⟨c25, H⟩ := it1 H
          refine g_aps rfl rfl Tryd.underlying30 Tryd.underlying30 sz57 by57 zr57 rfl rfl rfl rfl rfl rfl (by unfold limit; omega) (by omega) ?_; refine gN ?_
          refine g_mv rfl rfl (gT ?_)
          refine g_shrc (p := 4294967296) rfl rfl rfl rfl (by decide) (by rfl) (gT ?_)
          refine g_as rfl rfl (gT ?_)
          refine g_as rfl rfl (gT ?_)
          refine g_nil (hK _ _ _ ?_)
          refine k_block ?_
          refine k_seq ?_
          refine wR fun K hK => ?_
          refine g_bin rfl rfl rfl rfl rfl (gT ?_)
          refine g_mv rfl rfl (gT ?_)
          refine g_nil (hK _ _ _ ?_)
          refine k_loop ?_
          refine w_wk (σ := [0, 110]) [4, 0, 0, 0, 3, 0, 0, 92, 0] rfl (by decide) ?_; refine gC ?_
          exact gI (ih3 x_5 y_6 e_7 neg_11 (h1 ++ ([((wrap64 ((wrap64 (c_13 + (wrap64 ((rd x_5 t_107))))) - (wrap64 ((rd y_6 t_107))))) % 4294967296)] : List Int)) ((wrap64 ((wrap64 (c_13 + (wrap64 ((rd x_5 t_107))))) - (wrap64 ((rd y_6 t_107))))) / 4294967296) t_106 (wrap64 (t_107 + 1)) h0_1 r H)
        · have c24b := decide_eq_false c24; try simp only [c24b, nrm]
          refine w_cond rfl (fun h => Bool.noConfusion h) (fun _ => ?_)
          refine w_skip ?_
          refine k_seq ?_
          refine wR fun K hK => ?_
          refine g_mv rfl rfl (gT ?_)
          refine g_mv rfl rfl (gT ?_)
          refine g_conv rfl rfl Tryd.underlying2 Tryd.underlying57 rfl (gT ?_)
          refine g_bsl (k := .u32) (xs := [((wrap64 (c_13 + (wrap64 ((rd x_5 t_107))))) % 4294967296)]) rfl rfl Tryd.underlying30 sz57 zr57 (by decide) rfl rfl rfl (gU ?_)
          obtain ⟨c26, H⟩ := it1 H
          refine g_aps rfl rfl Tryd.underlying30 Tryd.underlying30 sz57 by57 zr57 rfl rfl rfl rfl rfl rfl (by unfold limit; omega) (by omega) ?_; refine gN ?_
          refine g_mv rfl rfl (gT ?_)
          refine g_shrc (p := 4294967296) rfl rfl rfl rfl (by decide) (by rfl) (gT ?_)
          refine g_as rfl rfl (gT ?_)
          refine g_as rfl rfl (gT ?_)
          refine g_nil (hK _ _ _ ?_)
          refine k_block ?_
          refine k_seq ?_
          refine wR fun K hK => ?_
          refine g_bin rfl rfl rfl rfl rfl (gT ?_)
          refine g_mv rfl rfl (gT ?_)
          refine g_nil (hK _ _ _ ?_)
          refine k_loop ?_
          refine w_wk (σ := [0, 78]) [4, 0, 0, 0, 3, 0, 0, 92, 0] rfl (by decide) ?_; refine gC ?_
          exact gI (ih3 x_5 y_6 e_7 neg_11 (h1 ++ ([((wrap64 (c_13 + (wrap64 ((rd x_5 t_107))))) % 4294967296)] : List Int)) ((wrap64 (c_13 + (wrap64 ((rd x_5 t_107))))) / 4294967296) t_106 (wrap64 (t_107 + 1)) h0_1 r H)
      · have c21b := decide_eq_false c21; try simp only [c21b, nrm]
        refine w_cond rfl (fun h => Bool.noConfusion h) (fun _ => ?_)
        refine w_exit rfl ?_
        refine k_seq ?_
        refine w_seq ?_
        refine wR fun K hK => ?_
        refine g_mv rfl rfl (gT ?_)
        refine g_mv rfl rfl (gT ?_)
        refine g_mv rfl rfl (gT ?_)
        obtain ⟨q27, hq27, H⟩ := bnd H
        refine g_cs [] rfl rfl (by rfl) Tryd.func26 rfl (by decide) (dyad_trim.does hq27) ⟨Nat.le_of_ble_eq_true rfl, Nat.le_of_ble_eq_true rfl⟩ ?_; refine gC ?_
        refine g_st rfl rfl sz32 rfl rfl rfl (by rfl) (Nat.le_of_ble_eq_true rfl) (gU ?_)
        refine g_nil (hK _ _ _ ?_)
        refine k_seq ?_
        refine w_ret ?_
        refine fin_wp (τ := []) rfl (by decide) ?_; rw [← Option.some.inj H]; simp only [Tryd.f9, ag32, sz32, nrm, nrmw, nrmc, nrme, nrmo, nrml, nrmb, nrmx, Nat.reduceEqDiff, Nat.reduceBEq, Nat.zero_add, Nat.add_zero, Nat.mul_one, List.length_cons, List.length_nil, List.length_map, List.length_set, List.length_replicate, List.drop_zero, List.drop_succ_cons, List.drop_nil, List.take_zero, List.take_succ_cons, List.take_nil, Nat.le_refl, if_true, if_false, Option.any_none, Option.any_some, List.contains_nil, Bool.not_false, Bool.or_true, Bool.true_or, Bool.or_false, Bool.false_or, Bool.and_true, Bool.true_and, Bool.and_self, reduceCtorEq, beq_self_eq_true, List.map_cons, List.map_nil, List.append_nil, List.nil_append, List.contains_cons, List.filter_cons, List.filter_nil, List.cons_append, Bool.false_eq_true, true_and, and_true, List.getElem_toArray, List.getElem_cons_zero, List.getElem_cons_succ, Nat.reduceAdd, Nat.reduceMul, Nat.reduceLT, Nat.reduceSub, Nat.reduceLeDiff]; try (first | rfl | exact ⟨rfl, trivial⟩ | exact ⟨rfl, rfl⟩)
set_option maxHeartbeats 8000000 in
set_option maxRecDepth 100000 in
theorem dyad_Num_Add.does {k : Nat} {a0_0 : Bool} {l0_1 : List Int} {a0_2 : Int} {a1_0 : Bool} {l1_1 : List Int} {a1_2 : Int} {r : Bool × (List Int) × Int} (H : dyad_Num_Add.f k a0_0 l0_1 a0_2 a1_0 l1_1 a1_2 = some r) : Do E0 (.fn 9 [.a [.b a0_0, .r (l0_1.map (V.i .u32)) l0_1.length true, .i .i64 a0_2], .a [.b a1_0, .r (l1_1.map (V.i .u32)) l1_1.length true, .i .i64 a1_2]] [] (.a [.b r.1, .r (r.2.1.map (V.i .u32)) r.2.1.length true, .i .i64 r.2.2]) []) := by
  obtain ⟨ih0, ih1, ih2, ih3⟩ := dyad_Num_Add.does_l (a0_0 := a0_0) (l0_1 := l0_1) (a0_2 := a0_2) (a1_0 := a1_0) (l1_1 := l1_1) (a1_2 := a1_2) k
  refine fn_wpl Tryd.func9 rfl (Q := (dyad_Num_Add.Q a0_0 l0_1 a0_2 a1_0 l1_1 a1_2 r)) (fun s h => h) ?_
  unfold dyad_Num_Add.f at H
  simp only [Tryd.ntmps9, List.length, List.replicate, Nat.reduceAdd, Nat.reduceSub, List.cons_append, List.nil_append]
  refine w_seq ?_
  refine wR fun K hK => ?_
  refine g_box rfl rfl rfl (by rfl) (gU ?_)
  refine g_box rfl rfl rfl (by rfl) (gU ?_)
  refine g_alloc rfl rfl zr32 (gU ?_)
  refine g_nil (hK _ _ _ ?_)
  refine k_seq ?_
  refine w_seq ?_
  refine w_seq ?_
  refine wR fun K hK => ?_
  refine g_fd rfl rfl fa32_1 rfl (gT ?_)
  refine g_ldc rfl rfl ag30 sz30 rfl rfl rfl (gT ?_)
  refine g_len_r rfl rfl Tryd.underlying30 rfl (gT ?_)
  refine g_bin rfl rfl rfl rfl rfl (gT ?_)
  refine g_nil (hK _ _ _ ?_)
  refine k_seq ?_
  rcases its H with ⟨c1, H⟩ | ⟨c1, H⟩
  · have c1b := beq_iff_eq.mpr c1; have c1n := bne_eq_false_iff_eq.mpr c1; try simp only [c1b, c1n, nrm]
    refine w_cond rfl (fun _ => ?_) (fun h => Bool.noConfusion h)
    refine w_seq ?_
    refine wR fun K hK => ?_
    refine g_lda rfl rfl ag32 sz32 rfl rfl (Nat.le_of_ble_eq_true rfl) (gT ?_)
    refine g_st rfl rfl sz32 rfl rfl rfl (by rfl) (Nat.le_of_ble_eq_true rfl) (gU ?_)
    refine g_nil (hK _ _ _ ?_)
    refine k_seq ?_
    refine w_ret ?_
    refine fin_wp (τ := []) rfl (by decide) ?_; rw [← Option.some.inj H]; simp only [Tryd.f9, ag32, sz32, nrm, nrmw, nrmc, nrme, nrmo, nrml, nrmb, nrmx, Nat.reduceEqDiff, Nat.reduceBEq, Nat.zero_add, Nat.add_zero, Nat.mul_one, List.length_cons, List.length_nil, List.length_map, List.length_set, List.length_replicate, List.drop_zero, List.drop_succ_cons, List.drop_nil, List.take_zero, List.take_succ_cons, List.take_nil, Nat.le_refl, if_true, if_false, Option.any_none, Option.any_some, List.contains_nil, Bool.not_false, Bool.or_true, Bool.true_or, Bool.or_false, Bool.false_or, Bool.and_true, Bool.true_and, Bool.and_self, reduceCtorEq, beq_self_eq_true, List.map_cons, List.map_nil, List.append_nil, List.nil_append, List.contains_cons, List.filter_cons, List.filter_nil, List.cons_append, Bool.false_eq_true, true_and, and_true, List.getElem_toArray, List.getElem_cons_zero, List.getElem_cons_succ, Nat.reduceAdd, Nat.reduceMul, Nat.reduceLT, Nat.reduceSub, Nat.reduceLeDiff]; try (first | rfl | exact ⟨rfl, trivial⟩ | exact ⟨rfl, rfl⟩)
  · have c1b := beq_eq_false_iff_ne.mpr c1; have c1n := bne_iff_ne.mpr c1; try simp only [c1b, c1n, nrm]
    refine w_cond rfl (fun h => Bool.noConfusion h) (fun _ => ?_)
    refine w_skip ?_
    refine k_seq ?_
    refine w_seq ?_
    refine w_seq ?_
    refine wR fun K hK => ?_
    refine g_fd rfl rfl fa32_1 rfl (gT ?_)
    refine g_ldc rfl rfl ag30 sz30 rfl rfl rfl (gT ?_)
    refine g_len_r rfl rfl Tryd.underlying30 rfl (gT ?_)
    refine g_bin rfl rfl rfl rfl rfl (gT ?_)
    refine g_nil (hK _ _ _ ?_)
    refine k_seq ?_
    rcases its H with ⟨c2, H⟩ | ⟨c2, H⟩
    · have c2b := beq_iff_eq.mpr c2; have c2n := bne_eq_false_iff_eq.mpr c2; try simp only [c2b, c2n, nrm]
      refine w_cond rfl (fun _ => ?_) (fun h => Bool.noConfusion h)
      refine w_seq ?_
      refine wR fun K hK => ?_
      refine g_lda rfl rfl ag32 sz32 rfl rfl (Nat.le_of_ble_eq_true rfl) (gT ?_)
      refine g_st rfl rfl sz32 rfl rfl rfl (by rfl) (Nat.le_of_ble_eq_true rfl) (gU ?_)
      refine g_nil (hK _ _ _ ?_)
      refine k_seq ?_
      refine w_ret ?_
      refine fin_wp (τ := []) rfl (by decide) ?_; rw [← Option.some.inj H]; simp only [Tryd.f9, ag32, sz32, nrm, nrmw, nrmc, nrme, nrmo, nrml, nrmb, nrmx, Nat.reduceEqDiff, Nat.reduceBEq, Nat.zero_add, Nat.add_zero, Nat.mul_one, List.length_cons, List.length_nil, List.length_map, List.length_set, List.length_replicate, List.drop_zero, List.drop_succ_cons, List.drop_nil, List.take_zero, List.take_succ_cons, List.take_nil, Nat.le_refl, if_true, if_false, Option.any_none, Option.any_some, List.contains_nil, Bool.not_false, Bool.or_true, Bool.true_or, Bool.or_false, Bool.false_or, Bool.and_true, Bool.true_and, Bool.and_self, reduceCtorEq, beq_self_eq_true, List.map_cons, List.map_nil, List.append_nil, List.nil_append, List.contains_cons, List.filter_cons, List.filter_nil, List.cons_append, Bool.false_eq_true, true_and, and_true, List.getElem_toArray, List.getElem_cons_zero, List.getElem_cons_succ, Nat.reduceAdd, Nat.reduceMul, Nat.reduceLT, Nat.reduceSub, Nat.reduceLeDiff]; try (first | rfl | exact ⟨rfl, trivial⟩ | exact ⟨rfl, rfl⟩)
    · have c2b := beq_eq_false_iff_ne.mpr c2; have c2n := bne_iff_ne.mpr c2; try simp only [c2b, c2n, nrm]
      refine w_cond rfl (fun h => Bool.noConfusion h) (fun _ => ?_)
      refine w_skip ?_
      refine k_seq ?_
      refine w_seq ?_
      refine wR fun K hK => ?_
      refine g_lda rfl rfl ag32 sz32 rfl rfl (Nat.le_of_ble_eq_true rfl) (gT ?_)
      refine g_lda rfl rfl ag32 sz32 rfl rfl (Nat.le_of_ble_eq_true rfl) (gT ?_)
      obtain ⟨q3, hq3, H⟩ := bnd H
      refine g_cs [] rfl rfl (by rfl) Tryd.func30 rfl (by decide) (dyad_line.does hq3) ⟨Nat.le_of_ble_eq_true rfl, Nat.le_of_ble_eq_true rfl⟩ ?_; refine gC ?_
      refine g_mv rfl rfl (gT ?_)
      refine g_ext rfl rfl rfl (Nat.le_of_ble_eq_true rfl) (gT ?_)
      refine g_ext rfl rfl rfl (Nat.le_of_ble_eq_true rfl) (gT ?_)
      refine g_ext rfl rfl rfl (Nat.le_of_ble_eq_true rfl) (gT ?_)
      refine g_as rfl rfl (gT ?_)
      refine g_as rfl rfl (gT ?_)
      refine g_as rfl rfl (gT ?_)
      refine g_nil (hK _ _ _ ?_)
      refine k_seq ?_
      refine w_seq ?_
      refine w_seq ?_
      refine wR fun K hK => ?_
      refine g_fd rfl rfl fa32_0 rfl (gT ?_)
      refine g_ldc rfl rfl ag4 sz4 rfl rfl rfl (gT ?_)
      refine g_fd rfl rfl fa32_0 rfl (gT ?_)
      refine g_ldc rfl rfl ag4 sz4 rfl rfl rfl (gT ?_)
      refine g_eqb rfl rfl Tryd.underlying4 rfl rfl (gT ?_)
      refine g_nil (hK _ _ _ ?_)
      refine k_seq ?_
      rcases its H with ⟨c4, H⟩ | ⟨c4, H⟩
      · have c4b : (a0_0 == a1_0) = true := c4; try simp only [c4b, nrm]
        refine w_cond rfl (fun _ => ?_) (fun h => Bool.noConfusion h)
        refine w_seq ?_
        refine w_seq ?_
        refine wR fun K hK => ?_
        refine g_mv rfl rfl (gT ?_)
        refine g_len_r rfl rfl Tryd.underlying30 rfl (gT ?_)
        refine g_mv rfl rfl (gT ?_)
        refine g_len_r rfl rfl Tryd.underlying30 rfl (gT ?_)
        refine g_bin rfl rfl rfl rfl rfl (gT ?_)
        refine g_nil (hK _ _ _ ?_)
        refine k_seq ?_
        rcases its H with ⟨c5, H⟩ | ⟨c5, H⟩
        · have c5b := decide_eq_true c5; try simp only [c5b, nrm]
          refine w_cond rfl (fun _ => ?_) (fun h => Bool.noConfusion h)
          refine wR fun K hK => ?_
          refine g_mv rfl rfl (gT ?_)
          refine g_mv rfl rfl (gT ?_)
          refine g_as rfl rfl (gT ?_)
          refine g_as rfl rfl (gT ?_)
          refine g_nil (hK _ _ _ ?_)
          refine k_wk (σ := [0, 8]) [2, 1, 0, 0, 0] rfl (by decide) rfl ?_; refine gC ?_
          exact gI (ih0 q3.2.1 q3.1 q3.2.2 a0_0 l0_1 a0_2 0 r H)
        · have c5b := decide_eq_false c5; try simp only [c5b, nrm]
          refine w_cond rfl (fun h => Bool.noConfusion h) (fun _ => ?_)
          refine w_skip ?_
          refine k_wk (σ := [0, 8]) [2, 1, 0, 0, 0] rfl (by decide) rfl ?_; refine gC ?_
          exact gI (ih0 q3.1 q3.2.1 q3.2.2 a0_0 l0_1 a0_2 0 r H)
      · have c4b : (a0_0 == a1_0) = false := Bool.eq_false_iff.mpr c4; try simp only [c4b, nrm]
        refine w_cond rfl (fun h => Bool.noConfusion h) (fun _ => ?_)
        refine w_skip ?_
        refine k_seq ?_
        refine w_seq ?_
        refine wR fun K hK => ?_
        refine g_fd rfl rfl fa32_0 rfl (gT ?_)
        refine g_ldc rfl rfl ag4 sz4 rfl rfl rfl (gT ?_)
        refine g_as rfl rfl (gT ?_)
        refine g_nil (hK _ _ _ ?_)
        refine k_seq ?_
        refine w_seq ?_
        refine w_seq ?_
        refine wR fun K hK => ?_
        refine g_mv rfl rfl (gT ?_)
        refine g_mv rfl rfl (gT ?_)
        obtain ⟨q6, hq6, H⟩ := bnd H
        refine g_cs [] rfl rfl (by rfl) Tryd.func31 rfl (by decide) (dyad_cmp.does hq6) ⟨Nat.le_of_ble_eq_true rfl, Nat.le_of_ble_eq_true rfl⟩ ?_; refine gC ?_
        refine g_nil (hK _ _ _ ?_)
        refine k_seq ?_
        refine w_block ?_
        refine w_seq ?_
        refine wR fun K hK => ?_
        refine g_bin rfl rfl rfl rfl rfl (gT ?_)
        refine g_as rfl rfl (gT ?_)
        refine g_nil (hK _ _ _ ?_)
        refine k_seq ?_
        rcases its H with ⟨c7, H⟩ | ⟨c7, H⟩
        · have c7b := beq_iff_eq.mpr c7; have c7n := bne_eq_false_iff_eq.mpr c7; try simp only [c7b, c7n, nrm]
          refine w_cond rfl (fun _ => ?_) (fun h => Bool.noConfusion h)
          refine w_seq ?_
          refine wR fun K hK => ?_
          refine g_bd rfl rfl zr32 Tryd.underlying32 (pl := [(0, 1), (1, 1), (2, 1)]) (by kernel_rfl) ?_; refine gB ?_
          refine g_st rfl rfl sz32 rfl rfl rfl (by rfl) (Nat.le_of_ble_eq_true rfl) (gU ?_)
          refine g_nil (hK _ _ _ ?_)
          refine k_seq ?_
          refine w_ret ?_
          refine fin_wp (τ := []) rfl (by decide) ?_; rw [← Option.some.inj H]; simp only [Tryd.f9, ag32, sz32, nrm, nrmw, nrmc, nrme, nrmo, nrml, nrmb, nrmx, Nat.reduceEqDiff, Nat.reduceBEq, Nat.zero_add, Nat.add_zero, Nat.mul_one, List.length_cons, List.length_nil, List.length_map, List.length_set, List.length_replicate, List.drop_zero, List.drop_succ_cons, List.drop_nil, List.take_zero, List.take_succ_cons, List.take_nil, Nat.le_refl, if_true, if_false, Option.any_none, Option.any_some, List.contains_nil, Bool.not_false, Bool.or_true, Bool.true_or, Bool.or_false, Bool.false_or, Bool.and_true, Bool.true_and, Bool.and_self, reduceCtorEq, beq_self_eq_true, List.map_cons, List.map_nil, List.append_nil, List.nil_append, List.contains_cons, List.filter_cons, List.filter_nil, List.cons_append, Bool.false_eq_true, true_and, and_true, List.getElem_toArray, List.getElem_cons_zero, List.getElem_cons_succ, Nat.reduceAdd, Nat.reduceMul, Nat.reduceLT, Nat.reduceSub, Nat.reduceLeDiff]; try (first | rfl | exact ⟨rfl, trivial⟩ | exact ⟨rfl, rfl⟩)
        · have c7b := beq_eq_false_iff_ne.mpr c7; have c7n := bne_iff_ne.mpr c7; try simp only [c7b, c7n, nrm]
          refine w_cond rfl (fun h => Bool.noConfusion h) (fun _ => ?_)
          refine w_seq ?_
          refine wR fun K hK => ?_
          refine g_bin rfl rfl rfl rfl rfl (gT ?_)
          refine g_as rfl rfl (gT ?_)
          refine g_nil (hK _ _ _ ?_)
          refine k_seq ?_
          rcases its H with ⟨c8, H⟩ | ⟨c8, H⟩
          · have c8b := beq_iff_eq.mpr c8; have c8n := bne_eq_false_iff_eq.mpr c8; try simp only [c8b, c8n, nrm]
            refine w_cond rfl (fun _ => ?_) (fun h => Bool.noConfusion h)
            refine wD fun K hK => ?_
            refine g_mv rfl rfl (gT ?_)
            refine g_mv rfl rfl (gT ?_)
            refine g_fd rfl rfl fa32_0 rfl (gT ?_)
            refine g_ldc rfl rfl ag4 sz4 rfl rfl rfl (gT ?_)
            refine g_as rfl rfl (gT ?_)
            refine g_as rfl rfl (gT ?_)
            refine g_as rfl rfl (gT ?_)
            refine g_nil (hK _ _ _ (by kernel_rfl) ?_)
            refine k_block ?_
            refine k_wk (σ := [8]) [4, 0, 0, 0, 3] rfl (by decide) rfl ?_; refine gC ?_
            exact gI (ih2 q3.2.1 q3.1 q3.2.2 a1_0 0 r H)
          · have c8b := beq_eq_false_iff_ne.mpr c8; have c8n := bne_iff_ne.mpr c8; try simp only [c8b, c8n, nrm]
            refine w_cond rfl (fun h => Bool.noConfusion h) (fun _ => ?_)
            refine w_skip ?_
            refine k_block ?_
            refine k_wk (σ := [8]) [4, 0, 0, 0, 3] rfl (by decide) rfl ?_; refine gC ?_
            exact gI (ih2 q3.1 q3.2.1 q3.2.2 a0_0 0 r H)

set_option maxHeartbeats 8000000 in
set_option maxRecDepth 100000 in
theorem dyad_Int.does {k : Nat} {a0 : Int} {r : Bool × (List Int) × Int} (H : dyad_Int.f k a0 = some r) : Do E0 (.fn 11 [.i .i64 a0] [] (.a [.b r.1, .r (r.2.1.map (V.i .u32)) r.2.1.length true, .i .i64 r.2.2]) []) := by
  refine fn_wpl Tryd.func11 rfl (Q := (dyad_Int.Q a0 r)) (fun s h => h) ?_
  unfold dyad_Int.f at H
  simp only [Tryd.ntmps11, List.length, List.replicate, Nat.reduceAdd, Nat.reduceSub, List.cons_append, List.nil_append]
  refine w_seq ?_
  refine wR fun K hK => ?_
  refine g_alloc rfl rfl zr32 (gU ?_)
  refine g_nil (hK _ _ _ ?_)
  refine k_seq ?_
  refine w_seq ?_
  refine wR fun K hK => ?_
  refine g_mv rfl rfl (gT ?_)
  refine g_conv rfl rfl Tryd.underlying3 Tryd.underlying28 rfl (gT ?_)
  refine g_as rfl rfl (gT ?_)
  refine g_nil (hK _ _ _ ?_)
  refine k_seq ?_
  refine w_seq ?_
  refine w_seq ?_
  refine wR fun K hK => ?_
  refine g_mv rfl rfl (gT ?_)
  refine g_bin rfl rfl rfl rfl rfl (gT ?_)
  refine g_nil (hK _ _ _ ?_)
  refine k_seq ?_
  rcases its H with ⟨c1, H⟩ | ⟨c1, H⟩
  · have c1b := decide_eq_true c1; try simp only [c1b, nrm]
    refine w_cond rfl (fun _ => ?_) (fun h => Bool.noConfusion h)
    refine wR fun K hK => ?_
    refine g_mv rfl rfl (gT ?_)
    refine g_un rfl rfl rfl rfl (gT ?_)
    refine g_as rfl rfl (gT ?_)
    refine g_nil (hK _ _ _ ?_)
    refine k_seq ?_
    refine w_seq ?_
    refine wR fun K hK => ?_
    refine g_mv rfl rfl (gT ?_)
    refine g_bin rfl rfl rfl rfl rfl (gT ?_)
    refine g_mv rfl rfl (gT ?_)
    refine g_conv rfl rfl Tryd.underlying28 Tryd.underlying57 rfl (gT ?_)
    refine g_mv rfl rfl (gT ?_)
    refine g_shrc (p := 4294967296) rfl rfl rfl rfl (by decide) (by rfl) (gT ?_)
    refine g_conv rfl rfl Tryd.underlying28 Tryd.underlying57 rfl (gT ?_)
    refine g_bsl (k := .u32) (xs := [((IntKind.u64.wrap (-(IntKind.u64.wrap (a0)))) % 4294967296), (((IntKind.u64.wrap (-(IntKind.u64.wrap (a0)))) / 4294967296) % 4294967296)]) rfl rfl Tryd.underlying30 sz57 zr57 (by decide) rfl rfl rfl (gU ?_)
    obtain ⟨q2, hq2, H⟩ := bnd H
    refine g_cs [] rfl rfl (by rfl) Tryd.func26 rfl (by decide) (dyad_trim.does hq2) ⟨Nat.le_of_ble_eq_true rfl, Nat.le_of_ble_eq_true rfl⟩ ?_; refine gC ?_
    refine g_st rfl rfl sz32 rfl rfl rfl (by rfl) (Nat.le_of_ble_eq_true rfl) (gU ?_)
    refine g_nil (hK _ _ _ ?_)
    refine k_seq ?_
    refine w_ret ?_
    refine fin_wp (τ := []) rfl (by decide) ?_; rw [← Option.some.inj H]; simp only [Tryd.f11, ag32, sz32, nrm, nrmw, nrmc, nrme, nrmo, nrml, nrmb, nrmx, Nat.reduceEqDiff, Nat.reduceBEq, Nat.zero_add, Nat.add_zero, Nat.mul_one, List.length_cons, List.length_nil, List.length_map, List.length_set, List.length_replicate, List.drop_zero, List.drop_succ_cons, List.drop_nil, List.take_zero, List.take_succ_cons, List.take_nil, Nat.le_refl, if_true, if_false, Option.any_none, Option.any_some, List.contains_nil, Bool.not_false, Bool.or_true, Bool.true_or, Bool.or_false, Bool.false_or, Bool.and_true, Bool.true_and, Bool.and_self, reduceCtorEq, beq_self_eq_true, List.map_cons, List.map_nil, List.append_nil, List.nil_append, List.contains_cons, List.filter_cons, List.filter_nil, List.cons_append, Bool.false_eq_true, true_and, and_true, List.getElem_toArray, List.getElem_cons_zero, List.getElem_cons_succ, Nat.reduceAdd, Nat.reduceMul, Nat.reduceLT, Nat.reduceSub, Nat.reduceLeDiff]; try (first | rfl | exact ⟨rfl, trivial⟩ | exact ⟨rfl, rfl⟩)
  · have c1b := decide_eq_false c1; try simp only [c1b, nrm]
    refine w_cond rfl (fun h => Bool.noConfusion h) (fun _ => ?_)
    refine w_skip ?_
    refine k_seq ?_
    refine w_seq ?_
    refine wR fun K hK => ?_
    refine g_mv rfl rfl (gT ?_)
    refine g_bin rfl rfl rfl rfl rfl (gT ?_)
    refine g_mv rfl rfl (gT ?_)
    refine g_conv rfl rfl Tryd.underlying28 Tryd.underlying57 rfl (gT ?_)
    refine g_mv rfl rfl (gT ?_)
    refine g_shrc (p := 4294967296) rfl rfl rfl rfl (by decide) (by rfl) (gT ?_)
    refine g_conv rfl rfl Tryd.underlying28 Tryd.underlying57 rfl (gT ?_)
    refine g_bsl (k := .u32) (xs := [((IntKind.u64.wrap (a0)) % 4294967296), (((IntKind.u64.wrap (a0)) / 4294967296) % 4294967296)]) rfl rfl Tryd.underlying30 sz57 zr57 (by decide) rfl rfl rfl (gU ?_)
    obtain ⟨q3, hq3, H⟩ := bnd H
    refine g_cs [] rfl rfl (by rfl) Tryd.func26 rfl (by decide) (dyad_trim.does hq3) ⟨Nat.le_of_ble_eq_true rfl, Nat.le_of_ble_eq_true rfl⟩ ?_; refine gC ?_
    refine g_st rfl rfl sz32 rfl rfl rfl (by rfl) (Nat.le_of_ble_eq_true rfl) (gU ?_)
    refine g_nil (hK _ _ _ ?_)
    refine k_seq ?_
    refine w_ret ?_
    refine fin_wp (τ := []) rfl (by decide) ?_; rw [← Option.some.inj H]; simp only [Tryd.f11, ag32, sz32, nrm, nrmw, nrmc, nrme, nrmo, nrml, nrmb, nrmx, Nat.reduceEqDiff, Nat.reduceBEq, Nat.zero_add, Nat.add_zero, Nat.mul_one, List.length_cons, List.length_nil, List.length_map, List.length_set, List.length_replicate, List.drop_zero, List.drop_succ_cons, List.drop_nil, List.take_zero, List.take_succ_cons, List.take_nil, Nat.le_refl, if_true, if_false, Option.any_none, Option.any_some, List.contains_nil, Bool.not_false, Bool.or_true, Bool.true_or, Bool.or_false, Bool.false_or, Bool.and_true, Bool.true_and, Bool.and_self, reduceCtorEq, beq_self_eq_true, List.map_cons, List.map_nil, List.append_nil, List.nil_append, List.contains_cons, List.filter_cons, List.filter_nil, List.cons_append, Bool.false_eq_true, true_and, and_true, List.getElem_toArray, List.getElem_cons_zero, List.getElem_cons_succ, Nat.reduceAdd, Nat.reduceMul, Nat.reduceLT, Nat.reduceSub, Nat.reduceLeDiff]; try (first | rfl | exact ⟨rfl, trivial⟩ | exact ⟨rfl, rfl⟩)

set_option maxHeartbeats 8000000 in
set_option maxRecDepth 100000 in
theorem dyad_Two.does {a0 : Int} {r : Bool × (List Int) × Int} (H : dyad_Two.f a0 = some r) : Do E0 (.fn 12 [.i .i64 a0] [] (.a [.b r.1, .s (some (0, 0)) r.2.1.length, .i .i64 r.2.2]) [.row (r.2.1.map (V.i .u32)) 2 1 true true none]) := by
  refine fn_wpl Tryd.func12 rfl (Q := (dyad_Two.Q a0 r)) (fun s h => h) ?_
  unfold dyad_Two.f at H
  simp only [Tryd.ntmps12, List.length, List.replicate, Nat.reduceAdd, Nat.reduceSub, List.cons_append, List.nil_append]
  refine w_seq ?_
  refine wR fun K hK => ?_
  refine g_alloc rfl rfl zr32 (gU ?_)
  refine g_nil (hK _ _ _ ?_)
  refine k_seq ?_
  refine w_seq ?_
  refine wR fun K hK => ?_
  refine g_bsl (k := .u32) (xs := [1]) rfl rfl Tryd.underlying30 sz57 zr57 (by decide) rfl rfl rfl (gU ?_)
  refine g_mv rfl rfl (gT ?_)
  refine g_min rfl rfl rfl rfl (m := mn _ _) rfl (gT ?_)
  refine g_max rfl rfl rfl rfl (m := mx _ _) rfl (gT ?_)
  refine g_bd rfl rfl zr32 Tryd.underlying32 (pl := [(0, 1), (1, 1), (2, 1)]) (by kernel_rfl) ?_; refine gB ?_
  refine g_st rfl rfl sz32 rfl rfl rfl (by rfl) (Nat.le_of_ble_eq_true rfl) (gU ?_)
  refine g_nil (hK _ _ _ ?_)
  refine k_seq ?_
  refine w_ret ?_
  refine fin_wp (τ := [4]) rfl (by decide) ?_; rw [← Option.some.inj H]; simp only [Tryd.f12, ag32, sz32, nrm, nrmw, nrmc, nrme, nrmo, nrml, nrmb, nrmx, Nat.reduceEqDiff, Nat.reduceBEq, Nat.zero_add, Nat.add_zero, Nat.mul_one, List.length_cons, List.length_nil, List.length_map, List.length_set, List.length_replicate, List.drop_zero, List.drop_succ_cons, List.drop_nil, List.take_zero, List.take_succ_cons, List.take_nil, Nat.le_refl, if_true, if_false, Option.any_none, Option.any_some, List.contains_nil, Bool.not_false, Bool.or_true, Bool.true_or, Bool.or_false, Bool.false_or, Bool.and_true, Bool.true_and, Bool.and_self, reduceCtorEq, beq_self_eq_true, List.map_cons, List.map_nil, List.append_nil, List.nil_append, List.contains_cons, List.filter_cons, List.filter_nil, List.cons_append, Bool.false_eq_true, true_and, and_true, List.getElem_toArray, List.getElem_cons_zero, List.getElem_cons_succ, Nat.reduceAdd, Nat.reduceMul, Nat.reduceLT, Nat.reduceSub, Nat.reduceLeDiff]; try (first | rfl | exact ⟨rfl, trivial⟩ | exact ⟨rfl, rfl⟩)

set_option maxHeartbeats 8000000 in
set_option maxRecDepth 100000 in
theorem dyad_Num_Neg.does {a0_0 : Bool} {l0_1 : List Int} {a0_2 : Int} {r : Bool × (List Int) × Int} (H : dyad_Num_Neg.f a0_0 l0_1 a0_2 = some r) : Do E0 (.fn 32 [.a [.b a0_0, .r (l0_1.map (V.i .u32)) l0_1.length true, .i .i64 a0_2]] [] (.a [.b r.1, .r (r.2.1.map (V.i .u32)) r.2.1.length true, .i .i64 r.2.2]) []) := by
  refine fn_wpl Tryd.func32 rfl (Q := (dyad_Num_Neg.Q a0_0 l0_1 a0_2 r)) (fun s h => h) ?_
  unfold dyad_Num_Neg.f at H
  simp only [Tryd.ntmps32, List.length, List.replicate, Nat.reduceAdd, Nat.reduceSub, List.cons_append, List.nil_append]
  refine w_seq ?_
  refine wR fun K hK => ?_
  refine g_box rfl rfl rfl (by rfl) (gU ?_)
  refine g_alloc rfl rfl zr32 (gU ?_)
  refine g_nil (hK _ _ _ ?_)
  refine k_seq ?_
  refine w_seq ?_
  refine wR fun K hK => ?_
  refine g_fd rfl rfl fa32_1 rfl (gT ?_)
  refine g_ldc rfl rfl ag30 sz30 rfl rfl rfl (gT ?_)
  refine g_len_r rfl rfl Tryd.underlying30 rfl (gT ?_)
  refine g_bin rfl rfl rfl rfl rfl (gT ?_)
  refine g_mv rfl rfl (gT ?_)
  rcases its H with ⟨c1, H⟩ | ⟨c1, H⟩
  · have c1b := decide_eq_true c1; try simp only [c1b, nrm]
    refine g_fd rfl rfl fa32_0 rfl (gT ?_)
    refine g_ldc rfl rfl ag4 sz4 rfl rfl rfl (gT ?_)
    refine g_un rfl rfl rfl rfl (gT ?_)
    refine g_pick rfl rfl rfl (gT ?_)
    refine g_fd rfl rfl fa32_0 rfl (gT ?_)
    refine g_st rfl rfl sz4 rfl rfl rfl (by rfl) (Nat.le_of_ble_eq_true rfl) (gU ?_)
    refine g_nil (hK _ _ _ ?_)
    refine k_seq ?_
    refine w_seq ?_
    refine wR fun K hK => ?_
    refine g_lda rfl rfl ag32 sz32 rfl rfl (Nat.le_of_ble_eq_true rfl) (gT ?_)
    refine g_st rfl rfl sz32 rfl rfl rfl (by rfl) (Nat.le_of_ble_eq_true rfl) (gU ?_)
    refine g_nil (hK _ _ _ ?_)
    refine k_seq ?_
    refine w_ret ?_
    refine fin_wp (τ := []) rfl (by decide) ?_; rw [← Option.some.inj H]; simp only [Tryd.f32, ag32, sz32, nrm, nrmw, nrmc, nrme, nrmo, nrml, nrmb, nrmx, Nat.reduceEqDiff, Nat.reduceBEq, Nat.zero_add, Nat.add_zero, Nat.mul_one, List.length_cons, List.length_nil, List.length_map, List.length_set, List.length_replicate, List.drop_zero, List.drop_succ_cons, List.drop_nil, List.take_zero, List.take_succ_cons, List.take_nil, Nat.le_refl, if_true, if_false, Option.any_none, Option.any_some, List.contains_nil, Bool.not_false, Bool.or_true, Bool.true_or, Bool.or_false, Bool.false_or, Bool.and_true, Bool.true_and, Bool.and_self, reduceCtorEq, beq_self_eq_true, List.map_cons, List.map_nil, List.append_nil, List.nil_append, List.contains_cons, List.filter_cons, List.filter_nil, List.cons_append, Bool.false_eq_true, true_and, and_true, List.getElem_toArray, List.getElem_cons_zero, List.getElem_cons_succ, Nat.reduceAdd, Nat.reduceMul, Nat.reduceLT, Nat.reduceSub, Nat.reduceLeDiff]; try (first | rfl | exact ⟨rfl, trivial⟩ | exact ⟨rfl, rfl⟩)
  · have c1b := decide_eq_false c1; try simp only [c1b, nrm]
    refine g_sk rfl rfl (gT ?_)
    refine g_sk rfl rfl (gT ?_)
    refine g_sk rfl rfl (gT ?_)
    refine g_pick rfl rfl rfl (gT ?_)
    refine g_fd rfl rfl fa32_0 rfl (gT ?_)
    refine g_st rfl rfl sz4 rfl rfl rfl (by rfl) (Nat.le_of_ble_eq_true rfl) (gU ?_)
    refine g_nil (hK _ _ _ ?_)
    refine k_seq ?_
    refine w_seq ?_
    refine wR fun K hK => ?_
    refine g_lda rfl rfl ag32 sz32 rfl rfl (Nat.le_of_ble_eq_true rfl) (gT ?_)
    refine g_st rfl rfl sz32 rfl rfl rfl (by rfl) (Nat.le_of_ble_eq_true rfl) (gU ?_)
    refine g_nil (hK _ _ _ ?_)
    refine k_seq ?_
    refine w_ret ?_
    refine fin_wp (τ := []) rfl (by decide) ?_; rw [← Option.some.inj H]; simp only [Tryd.f32, ag32, sz32, nrm, nrmw, nrmc, nrme, nrmo, nrml, nrmb, nrmx, Nat.reduceEqDiff, Nat.reduceBEq, Nat.zero_add, Nat.add_zero, Nat.mul_one, List.length_cons, List.length_nil, List.length_map, List.length_set, List.length_replicate, List.drop_zero, List.drop_succ_cons, List.drop_nil, List.take_zero, List.take_succ_cons, List.take_nil, Nat.le_refl, if_true, if_false, Option.any_none, Option.any_some, List.contains_nil, Bool.not_false, Bool.or_true, Bool.true_or, Bool.or_false, Bool.false_or, Bool.and_true, Bool.true_and, Bool.and_self, reduceCtorEq, beq_self_eq_true, List.map_cons, List.map_nil, List.append_nil, List.nil_append, List.contains_cons, List.filter_cons, List.filter_nil, List.cons_append, Bool.false_eq_true, true_and, and_true, List.getElem_toArray, List.getElem_cons_zero, List.getElem_cons_succ, Nat.reduceAdd, Nat.reduceMul, Nat.reduceLT, Nat.reduceSub, Nat.reduceLeDiff]; try (first | rfl | exact ⟨rfl, trivial⟩ | exact ⟨rfl, rfl⟩)

set_option maxHeartbeats 8000000 in
set_option maxRecDepth 100000 in
theorem dyad_Num_Sub.does {k : Nat} {a0_0 : Bool} {l0_1 : List Int} {a0_2 : Int} {a1_0 : Bool} {l1_1 : List Int} {a1_2 : Int} {r : Bool × (List Int) × Int} (H : dyad_Num_Sub.f k a0_0 l0_1 a0_2 a1_0 l1_1 a1_2 = some r) : Do E0 (.fn 13 [.a [.b a0_0, .r (l0_1.map (V.i .u32)) l0_1.length true, .i .i64 a0_2], .a [.b a1_0, .r (l1_1.map (V.i .u32)) l1_1.length true, .i .i64 a1_2]] [] (.a [.b r.1, .r (r.2.1.map (V.i .u32)) r.2.1.length true, .i .i64 r.2.2]) []) := by
  refine fn_wpl Tryd.func13 rfl (Q := (dyad_Num_Sub.Q a0_0 l0_1 a0_2 a1_0 l1_1 a1_2 r)) (fun s h => h) ?_
  unfold dyad_Num_Sub.f at H
  simp only [Tryd.ntmps13, List.length, List.replicate, Nat.reduceAdd, Nat.reduceSub, List.cons_append, List.nil_append]
  refine w_seq ?_
  refine wR fun K hK => ?_
  refine g_box rfl rfl rfl (by rfl) (gU ?_)
  refine g_box rfl rfl rfl (by rfl) (gU ?_)
  refine g_alloc rfl rfl zr32 (gU ?_)
  refine g_nil (hK _ _ _ ?_)
  refine k_seq ?_
  refine w_seq ?_
  refine wD fun K hK => ?_
  refine g_lda rfl rfl ag32 sz32 rfl rfl (Nat.le_of_ble_eq_true rfl) (gT ?_)
  refine g_lda rfl rfl ag32 sz32 rfl rfl (Nat.le_of_ble_eq_true rfl) (gT ?_)
  obtain ⟨q1, hq1, H⟩ := bnd H
  refine g_cs [] rfl rfl (by rfl) Tryd.func32 rfl (by decide) (dyad_Num_Neg.does hq1) ⟨Nat.le_of_ble_eq_true rfl, Nat.le_of_ble_eq_true rfl⟩ ?_; refine gC ?_
  obtain ⟨q2, hq2, H⟩ := bnd H
  refine g_cs [] rfl rfl (by rfl) Tryd.func9 rfl (by decide) (dyad_Num_Add.does hq2) ⟨Nat.le_of_ble_eq_true rfl, Nat.le_of_ble_eq_true rfl⟩ ?_; refine gC ?_
  refine g_st rfl rfl sz32 rfl rfl rfl (by rfl) (Nat.le_of_ble_eq_true rfl) (gU ?_)
  refine g_nil (hK _ _ _ (by kernel_rfl) ?_)
  refine k_seq ?_
  refine w_ret ?_
  refine fin_wp (τ := []) rfl (by decide) ?_; rw [← Option.some.inj H]; simp only [Tryd.f13, ag32, sz32, nrm, nrmw, nrmc, nrme, nrmo, nrml, nrmb, nrmx, Nat.reduceEqDiff, Nat.reduceBEq, Nat.zero_add, Nat.add_zero, Nat.mul_one, List.length_cons, List.length_nil, List.length_map, List.length_set, List.length_replicate, List.drop_zero, List.drop_succ_cons, List.drop_nil, List.take_zero, List.take_succ_cons, List.take_nil, Nat.le_refl, if_true, if_false, Option.any_none, Option.any_some, List.contains_nil, Bool.not_false, Bool.or_true, Bool.true_or, Bool.or_false, Bool.false_or, Bool.and_true, Bool.true_and, Bool.and_self, reduceCtorEq, beq_self_eq_true, List.map_cons, List.map_nil, List.append_nil, List.nil_append, List.contains_cons, List.filter_cons, List.filter_nil, List.cons_append, Bool.false_eq_true, true_and, and_true, List.getElem_toArray, List.getElem_cons_zero, List.getElem_cons_succ, Nat.reduceAdd, Nat.reduceMul, Nat.reduceLT, Nat.reduceSub, Nat.reduceLeDiff]; try (first | rfl | exact ⟨rfl, trivial⟩ | exact ⟨rfl, rfl⟩)

set_option maxHeartbeats 8000000 in
set_option maxRecDepth 100000 in
theorem dyad_Num_Sign.does {a0_0 : Bool} {l0_1 : List Int} {a0_2 : Int} {r : Int} (H : dyad_Num_Sign.f a0_0 l0_1 a0_2 = some r) : Do E0 (.fn 33 [.a [.b a0_0, .r (l0_1.map (V.i .u32)) l0_1.length true, .i .i64 a0_2]] [] (.i .i64 r) []) := by
  refine fn_wpl Tryd.func33 rfl (Q := (dyad_Num_Sign.Q a0_0 l0_1 a0_2 r)) (fun s h => h) ?_
  unfold dyad_Num_Sign.f at H
  simp only [Tryd.ntmps33, List.length, List.replicate, Nat.reduceAdd, Nat.reduceSub, List.cons_append, List.nil_append]
  refine w_seq ?_
  refine wR fun K hK => ?_
  refine g_box rfl rfl rfl (by rfl) (gU ?_)
  refine g_as rfl rfl (gT ?_)
  refine g_nil (hK _ _ _ ?_)
  refine k_seq ?_
  refine w_seq ?_
  refine w_block ?_
  refine w_seq ?_
  refine wR fun K hK => ?_
  refine g_fd rfl rfl fa32_1 rfl (gT ?_)
  refine g_ldc rfl rfl ag30 sz30 rfl rfl rfl (gT ?_)
  refine g_len_r rfl rfl Tryd.underlying30 rfl (gT ?_)
  refine g_bin rfl rfl rfl rfl rfl (gT ?_)
  refine g_as rfl rfl (gT ?_)
  refine g_nil (hK _ _ _ ?_)
  refine k_seq ?_
  rcases its H with ⟨c1, H⟩ | ⟨c1, H⟩
  · have c1b := beq_iff_eq.mpr c1; have c1n := bne_eq_false_iff_eq.mpr c1; try simp only [c1b, c1n, nrm]
    refine w_cond rfl (fun _ => ?_) (fun h => Bool.noConfusion h)
    refine w_seq ?_
    refine wR fun K hK => ?_
    refine g_as rfl rfl (gT ?_)
    refine g_nil (hK _ _ _ ?_)
    refine k_seq ?_
    refine w_ret ?_
    refine fin_wp (τ := []) rfl (by decide) ?_; rw [← Option.some.inj H]; simp only [Tryd.f33]; exact gF
  · have c1b := beq_eq_false_iff_ne.mpr c1; have c1n := bne_iff_ne.mpr c1; try simp only [c1b, c1n, nrm]
    refine w_cond rfl (fun h => Bool.noConfusion h) (fun _ => ?_)
    refine w_seq ?_
    refine wR fun K hK => ?_
    refine g_fd rfl rfl fa32_0 rfl (gT ?_)
    refine g_ldc rfl rfl ag4 sz4 rfl rfl rfl (gT ?_)
    refine g_as rfl rfl (gT ?_)
    refine g_nil (hK _ _ _ ?_)
    refine k_seq ?_
    rcases its H with ⟨c2, H⟩ | ⟨c2, H⟩
    · have c2b : a0_0 = true := c2; try simp only [c2b, nrm]
      refine w_cond rfl (fun _ => ?_) (fun h => Bool.noConfusion h)
      refine w_seq ?_
      refine wR fun K hK => ?_
      refine g_as rfl rfl (gT ?_)
      refine g_nil (hK _ _ _ ?_)
      refine k_seq ?_
      refine w_ret ?_
      refine fin_wp (τ := []) rfl (by decide) ?_; rw [← Option.some.inj H]; simp only [Tryd.f33]; exact gF
    · have c2b : a0_0 = false := Bool.eq_false_iff.mpr c2; try simp only [c2b, nrm]
      refine w_cond rfl (fun h => Bool.noConfusion h) (fun _ => ?_)
      refine w_skip ?_
      refine k_block ?_
      refine k_seq ?_
      refine w_seq ?_
      refine wR fun K hK => ?_
      refine g_as rfl rfl (gT ?_)
      refine g_nil (hK _ _ _ ?_)
      refine k_seq ?_
      refine w_ret ?_
      refine fin_wp (τ := []) rfl (by decide) ?_; rw [← Option.some.inj H]; simp only [Tryd.f33]; exact gF

set_option maxHeartbeats 8000000 in
set_option maxRecDepth 100000 in
theorem dyad_Num_Cmp.does {k : Nat} {a0_0 : Bool} {l0_1 : List Int} {a0_2 : Int} {a1_0 : Bool} {l1_1 : List Int} {a1_2 : Int} {r : Int} (H : dyad_Num_Cmp.f k a0_0 l0_1 a0_2 a1_0 l1_1 a1_2 = some r) : Do E0 (.fn 14 [.a [.b a0_0, .r (l0_1.map (V.i .u32)) l0_1.length true, .i .i64 a0_2], .a [.b a1_0, .r (l1_1.map (V.i .u32)) l1_1.length true, .i .i64 a1_2]] [] (.i .i64 r) []) := by
  refine fn_wpl Tryd.func14 rfl (Q := (dyad_Num_Cmp.Q a0_0 l0_1 a0_2 a1_0 l1_1 a1_2 r)) (fun s h => h) ?_
  unfold dyad_Num_Cmp.f at H
  simp only [Tryd.ntmps14, List.length, List.replicate, Nat.reduceAdd, Nat.reduceSub, List.cons_append, List.nil_append]
  refine w_seq ?_
  refine wR fun K hK => ?_
  refine g_box rfl rfl rfl (by rfl) (gU ?_)
  refine g_box rfl rfl rfl (by rfl) (gU ?_)
  refine g_as rfl rfl (gT ?_)
  refine g_nil (hK _ _ _ ?_)
  refine k_seq ?_
  refine w_seq ?_
  refine wR fun K hK => ?_
  refine g_lda rfl rfl ag32 sz32 rfl rfl (Nat.le_of_ble_eq_true rfl) (gT ?_)
  refine g_lda rfl rfl ag32 sz32 rfl rfl (Nat.le_of_ble_eq_true rfl) (gT ?_)
  obtain ⟨q1, hq1, H⟩ := bnd H
  refine g_cs [] rfl rfl (by rfl) Tryd.func13 rfl (by decide) (dyad_Num_Sub.does hq1) ⟨Nat.le_of_ble_eq_true rfl, Nat.le_of_ble_eq_true rfl⟩ ?_; refine gC ?_
  obtain ⟨q2, hq2, H⟩ := bnd H
  refine g_cs [] rfl rfl (by rfl) Tryd.func33 rfl (by decide) (dyad_Num_Sign.does hq2) ⟨Nat.le_of_ble_eq_true rfl, Nat.le_of_ble_eq_true rfl⟩ ?_; refine gC ?_
  refine g_as rfl rfl (gT ?_)
  refine g_nil (hK _ _ _ ?_)
  refine k_seq ?_
  refine w_ret ?_
  refine fin_wp (τ := []) rfl (by decide) ?_; rw [← Option.some.inj H]; simp only [Tryd.f14]; exact gF

set_option maxHeartbeats 8000000 in
set_option maxRecDepth 100000 in
theorem gimballaw10_VecNorms.does_l {l0 : List Int} (k : Nat) : (∀ (x_0 : List Int) (r_4 : Int) (t_30 : Int) (t_31 : Int) (h0 : Int) (h1_0 : Bool) (h1_1 : List Int) (h1_2 : Int) (r : Bool), gimballaw10_VecNorms.l0 k x_0 r_4 t_30 t_31 h0 h1_0 h1_1 h1_2 = some r → wk_ E0 (gimballaw10_VecNorms.Q l0 r) (frs (bodyOf Tryd.f3) [1, 1, 1, 1, 1, 1, 0, 1, 0] []) (sub (bodyOf Tryd.f3) [1, 1, 1, 1, 1, 1, 0, 1, 0]) ⟨[.r (x_0.map (V.i .u64)) x_0.length true, .u, .u, .p (some (0, 0)), .i .u64 r_4, .p (some (1, 0)), .u, .u, .u, .u, .u, .u, .u, .u, .u, .u, .u, .u, .u, .u, .u, .u, .u, .u, .u, .u, .u, .u, .u, .r (x_0.map (V.i .u64)) x_0.length true, .i .i64 t_30, .i .i64 t_31, .u, .u, .u, .u, .u, .u, .u, .u, .u, .u, .u, .u, .u, .u, .u, .u, .u, .u, .u, .u, .u, .u, .u, .u, .u, .u, .u, .u, .u, .u, .u, .u, .u, .u, .u, .u, .u, .u, .u, .u, .u, .u, .u, .u, .u, .u, .u, .u, .u, .u, .u, .u, .u, .u, .u, .u, .u, .u, .u, .u, .u, .u, .u, .u, .u, .u, .u, .u, .u, .u, .u, .u, .u, .u, .u, .u, .u], ofL [.row [.i .u8 h0] 0 0 true true none, .row [.b h1_0, .r (h1_1.map (V.i .u32)) h1_1.length true, .i .i64 h1_2] 0 0 true true none], 2, 0⟩) := by
  induction k with
  | zero => exact fun _ _ _ _ _ _ _ _ r h => by simp [gimballaw10_VecNorms.l0] at h
  | succ k ih =>
    have ih0 := ih
    refine ?_
    · intro x_0 r_4 t_30 t_31 h0 h1_0 h1_1 h1_2 r H
      unfold gimballaw10_VecNorms.l0 at H
      simp only [bodyOf, Tryd.f3, frs, sub, if_true, if_false, Nat.one_ne_zero]
      refine w_loop ?_
      refine w_seq ?_
      refine wR fun K hK => ?_
      refine g_bin rfl rfl rfl rfl rfl (gT ?_)
      refine g_nil (hK _ _ _ ?_)
      refine k_seq ?_
      refine w_seq ?_
      rcases its H with ⟨c4, H⟩ | ⟨c4, H⟩
      · have c4b := decide_eq_true c4; try simp only [c4b, nrm]
        refine w_cond rfl (fun _ => ?_) (fun h => Bool.noConfusion h)
        refine w_skip ?_
        refine k_seq ?_
        refine w_seq ?_
        refine w_block ?_
        refine w_seq ?_
        refine wR fun K hK => ?_
        obtain ⟨c5, H⟩ := it1 H
        obtain ⟨c6, H⟩ := it1 H
        refine g_ixr rfl rfl Tryd.underlying22 sz28 rfl rfl (by first | assumption | omega) (by first | assumption | omega | (simp only [List.length_set, List.length_replicate] at *; omega)) (gT ?_)
        refine g_ldq rfl rfl ag28 sz28 rfl (by first | assumption | omega) (gT ?_)
        refine g_as rfl rfl (gT ?_)
        refine g_nil (hK _ _ _ ?_)
        refine k_seq ?_
        refine w_seq ?_
        refine wR fun K hK => ?_
        refine g_mv rfl rfl (gT ?_)
        obtain ⟨q7, hq7, H⟩ := bnd H
        refine g_cs [] rfl rfl (by rfl) Tryd.func7 rfl (by decide) (dyad_Of.does hq7) ⟨Nat.le_of_ble_eq_true rfl, Nat.le_of_ble_eq_true rfl⟩ ?_; refine gC ?_
        refine g_mv rfl rfl (gT ?_)
        refine g_ext rfl rfl rfl (Nat.le_of_ble_eq_true rfl) (gT ?_)
        refine g_ext rfl rfl rfl (Nat.le_of_ble_eq_true rfl) (gT ?_)
        refine g_alloc rfl rfl zr32 (gU ?_)
        refine g_st rfl rfl sz32 rfl rfl rfl (by rfl) (Nat.le_of_ble_eq_true rfl) (gU ?_)
        refine g_as rfl rfl (gT ?_)
        refine g_nil (hK _ _ _ ?_)
        refine k_seq ?_
        refine w_seq ?_
        refine w_seq ?_
        refine wR fun K hK => ?_
        refine g_mv rfl rfl (gT ?_)
        refine g_un rfl rfl rfl rfl (gT ?_)
        refine g_nil (hK _ _ _ ?_)
        refine k_seq ?_
        rcases its H with ⟨c8, H⟩ | ⟨c8, H⟩
        · have c8b : q7.2.2.2 = true := c8; try simp only [c8b, nrm]
          refine w_cond rfl (fun h => Bool.noConfusion h) (fun _ => ?_)
          refine w_skip ?_
          refine k_seq ?_
          refine wD fun K hK => ?_
          refine g_lda rfl rfl ag32 sz32 rfl rfl (Nat.le_of_ble_eq_true rfl) (gT ?_)
          refine g_lda rfl rfl ag32 sz32 rfl rfl (Nat.le_of_ble_eq_true rfl) (gT ?_)
          refine g_lda rfl rfl ag32 sz32 rfl rfl (Nat.le_of_ble_eq_true rfl) (gT ?_)
          obtain ⟨q9, hq9, H⟩ := bnd H
          refine g_cs [] rfl rfl (by rfl) Tryd.func10 rfl (by decide) (dyad_Num_Mul.does hq9) ⟨Nat.le_of_ble_eq_true rfl, Nat.le_of_ble_eq_true rfl⟩ ?_; refine gC ?_
          obtain ⟨q10, hq10, H⟩ := bnd H
          refine g_cs [] rfl rfl (by rfl) Tryd.func9 rfl (by decide) (dyad_Num_Add.does hq10) ⟨Nat.le_of_ble_eq_true rfl, Nat.le_of_ble_eq_true rfl⟩ ?_; refine gC ?_
          refine g_st rfl rfl sz32 rfl rfl rfl (by rfl) (Nat.le_of_ble_eq_true rfl) (gU ?_)
          refine g_nil (hK _ _ _ (by kernel_rfl) ?_)
          refine k_block ?_
          refine k_seq ?_
          refine wR fun K hK => ?_
          refine g_bin rfl rfl rfl rfl rfl (gT ?_)
          refine g_mv rfl rfl (gT ?_)
          refine g_nil (hK _ _ _ ?_)
          refine k_loop ?_
          refine w_wk (σ := [0, 1]) [0, 2, 0, 0, 23, 0, 0] rfl (by decide) ?_; refine gC ?_
          exact gI (ih0 x_0 r_4 t_30 (wrap64 (t_31 + 1)) h0 q10.1 q10.2.1 q10.2.2 r H)
        · have c8b : q7.2.2.2 = false := Bool.eq_false_iff.mpr c8; try simp only [c8b, nrm]
          refine w_cond rfl (fun _ => ?_) (fun h => Bool.noConfusion h)
          refine w_seq ?_
          refine wR fun K hK => ?_
          refine g_mv rfl rfl (gT ?_)
          obtain ⟨q11, hq11, H⟩ := bnd H
          refine g_cs [] rfl rfl (by rfl) Tryd.func8 rfl (by decide) (order_Greatest.does hq11) ⟨Nat.le_of_ble_eq_true rfl, Nat.le_of_ble_eq_true rfl⟩ ?_; refine gC ?_
          refine g_mv rfl rfl (gT ?_)
          refine g_ext rfl rfl rfl (Nat.le_of_ble_eq_true rfl) (gT ?_)
          refine g_ext rfl rfl rfl (Nat.le_of_ble_eq_true rfl) (gT ?_)
          refine g_as rfl rfl (gT ?_)
          refine g_as rfl rfl (gT ?_)
          refine g_nil (hK _ _ _ ?_)
          refine k_seq ?_
          refine w_seq ?_
          refine wR fun K hK => ?_
          refine g_mv rfl rfl (gT ?_)
          refine g_mv rfl rfl (gT ?_)
          refine g_bin rfl rfl rfl rfl rfl (gT ?_)
          refine g_mv rfl rfl (gT ?_)
          rcases its H with ⟨c12, H⟩ | ⟨c12, H⟩
          · have c12b := beq_iff_eq.mpr c12; have c12n := bne_eq_false_iff_eq.mpr c12; try simp only [c12b, c12n, nrm]
            refine g_mv rfl rfl (gT ?_)
            refine g_nc rfl rfl rfl (gT ?_)
            refine g_fd rfl rfl fa27_0 rfl (gT ?_)
            refine g_ldc rfl rfl ag25 sz25 rfl rfl rfl (gT ?_)
            refine g_bin rfl rfl rfl rfl rfl (gT ?_)
            refine g_pick rfl rfl rfl (gT ?_)
            refine g_as rfl rfl (gT ?_)
            refine g_nil (hK _ _ _ ?_)
            refine k_seq ?_
            refine w_ret ?_
            refine fin_wp (τ := []) rfl (by decide) ?_; rw [← Option.some.inj H]; simp only [Tryd.f3]; exact gF
          · have c12b := beq_eq_false_iff_ne.mpr c12; have c12n := bne_iff_ne.mpr c12; try simp only [c12b, c12n, nrm]
            refine g_sk rfl rfl (gT ?_)
            refine g_sk rfl rfl (gT ?_)
            refine g_sk rfl rfl (gT ?_)
            refine g_sk rfl rfl (gT ?_)
            refine g_sk rfl rfl (gT ?_)
            refine g_pick rfl rfl rfl (gT ?_)
            refine g_as rfl rfl (gT ?_)
            refine g_nil (hK _ _ _ ?_)
            refine k_seq ?_
            refine w_ret ?_
            refine fin_wp (τ := []) rfl (by decide) ?_; rw [← Option.some.inj H]; simp only [Tryd.f3]; exact gF
      · have c4b := decide_eq_false c4; try simp only [c4b, nrm]
        refine w_cond rfl (fun h => Bool.noConfusion h) (fun _ => ?_)
        refine w_exit rfl ?_
        refine k_seq ?_
        refine w_seq ?_
        refine w_seq ?_
        refine wR fun K hK => ?_
        refine g_mv rfl rfl (gT ?_)
        refine g_nc rfl rfl rfl (gT ?_)
        refine g_fd rfl rfl fa27_0 rfl (gT ?_)
        refine g_ldc rfl rfl ag25 sz25 rfl rfl rfl (gT ?_)
        refine g_bin rfl rfl rfl rfl rfl (gT ?_)
        refine g_bin rfl rfl rfl rfl rfl (gT ?_)
        refine g_nil (hK _ _ _ ?_)
        refine k_seq ?_
        rcases its H with ⟨c13, H⟩ | ⟨c13, H⟩
        · have c13b := beq_iff_eq.mpr c13; have c13n := bne_eq_false_iff_eq.mpr c13; try simp only [c13b, c13n, nrm]
          refine w_cond rfl (fun h => Bool.noConfusion h) (fun _ => ?_)
          refine w_skip ?_
          refine k_seq ?_
          refine w_seq ?_
          refine wR fun K hK => ?_
          refine g_mv rfl rfl (gT ?_)
          obtain ⟨q14, hq14, H⟩ := bnd H
          refine g_cs [] rfl rfl (by rfl) Tryd.func7 rfl (by decide) (dyad_Of.does hq14) ⟨Nat.le_of_ble_eq_true rfl, Nat.le_of_ble_eq_true rfl⟩ ?_; refine gC ?_
          refine g_mv rfl rfl (gT ?_)
          refine g_ext rfl rfl rfl (Nat.le_of_ble_eq_true rfl) (gT ?_)
          refine g_ext rfl rfl rfl (Nat.le_of_ble_eq_true rfl) (gT ?_)
          refine g_alloc rfl rfl zr32 (gU ?_)
          refine g_st rfl rfl sz32 rfl rfl rfl (by rfl) (Nat.le_of_ble_eq_true rfl) (gU ?_)
          refine g_as rfl rfl (gT ?_)
          refine g_nil (hK _ _ _ ?_)
          refine k_seq ?_
          refine w_seq ?_
          refine w_seq ?_
          refine wR fun K hK => ?_
          refine g_mv rfl rfl (gT ?_)
          refine g_un rfl rfl rfl rfl (gT ?_)
          refine g_nil (hK _ _ _ ?_)
          refine k_seq ?_
          rcases its H with ⟨c15, H⟩ | ⟨c15, H⟩
          · have c15b : q14.2.2.2 = true := c15; try simp only [c15b, nrm]
            refine w_cond rfl (fun h => Bool.noConfusion h) (fun _ => ?_)
            refine w_skip ?_
            refine k_seq ?_
            refine w_seq ?_
            refine wR fun K hK => ?_
            refine g_mv rfl rfl (gT ?_)
            refine g_len_r rfl rfl Tryd.underlying22 rfl (gT ?_)
            refine g_bin rfl rfl rfl rfl rfl (gT ?_)
            obtain ⟨q16, hq16, H⟩ := bnd H
            refine g_cs [] rfl rfl (by rfl) Tryd.func11 rfl (by decide) (dyad_Int.does hq16) ⟨Nat.le_of_ble_eq_true rfl, Nat.le_of_ble_eq_true rfl⟩ ?_; refine gC ?_
            obtain ⟨q17, hq17, H⟩ := bnd H
            refine g_cs [] rfl rfl (by rfl) Tryd.func12 rfl (by decide) (dyad_Two.does hq17) ⟨Nat.le_of_ble_eq_true rfl, Nat.le_of_ble_eq_true rfl⟩ ?_; refine gC ?_
            obtain ⟨q18, hq18, H⟩ := bnd H
            refine g_cs [] rfl rfl (by rfl) Tryd.func10 rfl (by decide) (dyad_Num_Mul.does hq18) ⟨Nat.le_of_ble_eq_true rfl, Nat.le_of_ble_eq_true rfl⟩ ?_; refine gC ?_
            refine g_alloc rfl rfl zr32 (gU ?_)
            refine g_st rfl rfl sz32 rfl rfl rfl (by rfl) (Nat.le_of_ble_eq_true rfl) (gU ?_)
            refine g_nil (hK _ _ _ ?_)
            refine k_seq ?_
            refine w_seq ?_
            refine wD fun K hK => ?_
            obtain ⟨q19, hq19, H⟩ := bnd H
            refine g_cs [] rfl rfl (by rfl) Tryd.func11 rfl (by decide) (dyad_Int.does hq19) ⟨Nat.le_of_ble_eq_true rfl, Nat.le_of_ble_eq_true rfl⟩ ?_; refine gC ?_
            refine g_lda rfl rfl ag32 sz32 rfl rfl (Nat.le_of_ble_eq_true rfl) (gT ?_)
            obtain ⟨q20, hq20, H⟩ := bnd H
            refine g_cs [] rfl rfl (by rfl) Tryd.func13 rfl (by decide) (dyad_Num_Sub.does hq20) ⟨Nat.le_of_ble_eq_true rfl, Nat.le_of_ble_eq_true rfl⟩ ?_; refine gC ?_
            refine g_alloc rfl rfl zr32 (gU ?_)
            refine g_st rfl rfl sz32 rfl rfl rfl (by rfl) (Nat.le_of_ble_eq_true rfl) (gU ?_)
            refine g_nil (hK _ _ _ (by kernel_rfl) ?_)
            refine k_seq ?_
            refine w_seq ?_
            refine wD fun K hK => ?_
            obtain ⟨q21, hq21, H⟩ := bnd H
            refine g_cs [] rfl rfl (by rfl) Tryd.func11 rfl (by decide) (dyad_Int.does hq21) ⟨Nat.le_of_ble_eq_true rfl, Nat.le_of_ble_eq_true rfl⟩ ?_; refine gC ?_
            refine g_lda rfl rfl ag32 sz32 rfl rfl (Nat.le_of_ble_eq_true rfl) (gT ?_)
            obtain ⟨q22, hq22, H⟩ := bnd H
            refine g_cs [] rfl rfl (by rfl) Tryd.func9 rfl (by decide) (dyad_Num_Add.does hq22) ⟨Nat.le_of_ble_eq_true rfl, Nat.le_of_ble_eq_true rfl⟩ ?_; refine gC ?_
            refine g_alloc rfl rfl zr32 (gU ?_)
            refine g_st rfl rfl sz32 rfl rfl rfl (by rfl) (Nat.le_of_ble_eq_true rfl) (gU ?_)
            refine g_nil (hK _ _ _ (by kernel_rfl) ?_)
            refine k_seq ?_
            refine w_seq ?_
            refine wR fun K hK => ?_
            refine g_lda rfl rfl ag32 sz32 rfl rfl (Nat.le_of_ble_eq_true rfl) (gT ?_)
            refine g_lda rfl rfl ag32 sz32 rfl rfl (Nat.le_of_ble_eq_true rfl) (gT ?_)
            obtain ⟨q23, hq23, H⟩ := bnd H
            refine g_cs [] rfl rfl (by rfl) Tryd.func10 rfl (by decide) (dyad_Num_Mul.does hq23) ⟨Nat.le_of_ble_eq_true rfl, Nat.le_of_ble_eq_true rfl⟩ ?_; refine gC ?_
            refine g_alloc rfl rfl zr32 (gU ?_)
            refine g_st rfl rfl sz32 rfl rfl rfl (by rfl) (Nat.le_of_ble_eq_true rfl) (gU ?_)
            refine g_nil (hK _ _ _ ?_)
            refine k_seq ?_
            refine w_seq ?_
            refine wD fun K hK => ?_
            refine g_lda rfl rfl ag32 sz32 rfl rfl (Nat.le_of_ble_eq_true rfl) (gT ?_)
            refine g_lda rfl rfl ag32 sz32 rfl rfl (Nat.le_of_ble_eq_true rfl) (gT ?_)
            refine g_lda rfl rfl ag32 sz32 rfl rfl (Nat.le_of_ble_eq_true rfl) (gT ?_)
            obtain ⟨q24, hq24, H⟩ := bnd H
            refine g_cs [] rfl rfl (by rfl) Tryd.func10 rfl (by decide) (dyad_Num_Mul.does hq24) ⟨Nat.le_of_ble_eq_true rfl, Nat.le_of_ble_eq_true rfl⟩ ?_; refine gC ?_
            refine g_lda rfl rfl ag32 sz32 rfl rfl (Nat.le_of_ble_eq_true rfl) (gT ?_)
            obtain ⟨q25, hq25, H⟩ := bnd H
            refine g_cs [] rfl rfl (by rfl) Tryd.func10 rfl (by decide) (dyad_Num_Mul.does hq25) ⟨Nat.le_of_ble_eq_true rfl, Nat.le_of_ble_eq_true rfl⟩ ?_; refine gC ?_
            obtain ⟨q26, hq26, H⟩ := bnd H
            refine g_cs [] rfl rfl (by rfl) Tryd.func14 rfl (by decide) (dyad_Num_Cmp.does hq26) ⟨Nat.le_of_ble_eq_true rfl, Nat.le_of_ble_eq_true rfl⟩ ?_; refine gC ?_
            refine g_bin rfl rfl rfl rfl rfl (gT ?_)
            refine g_mv rfl rfl (gT ?_)
            rcases its H with ⟨c27, H⟩ | ⟨c27, H⟩
            · have c27b := decide_eq_true c27; try simp only [c27b, nrm]
              refine g_lda rfl rfl ag32 sz32 rfl rfl (Nat.le_of_ble_eq_true rfl) (gT ?_)
              refine g_lda rfl rfl ag32 sz32 rfl rfl (Nat.le_of_ble_eq_true rfl) (gT ?_)
              refine g_lda rfl rfl ag32 sz32 rfl rfl (Nat.le_of_ble_eq_true rfl) (gT ?_)
              obtain ⟨q28, hq28, H⟩ := bnd H
              refine g_cs [] rfl rfl (by rfl) Tryd.func10 rfl (by decide) (dyad_Num_Mul.does hq28) ⟨Nat.le_of_ble_eq_true rfl, Nat.le_of_ble_eq_true rfl⟩ ?_; refine gC ?_
              refine g_lda rfl rfl ag32 sz32 rfl rfl (Nat.le_of_ble_eq_true rfl) (gT ?_)
              obtain ⟨q29, hq29, H⟩ := bnd H
              refine g_cs [] rfl rfl (by rfl) Tryd.func10 rfl (by decide) (dyad_Num_Mul.does hq29) ⟨Nat.le_of_ble_eq_true rfl, Nat.le_of_ble_eq_true rfl⟩ ?_; refine gC ?_
              obtain ⟨q30, hq30, H⟩ := bnd H
              refine g_cs [] rfl rfl (by rfl) Tryd.func14 rfl (by decide) (dyad_Num_Cmp.does hq30) ⟨Nat.le_of_ble_eq_true rfl, Nat.le_of_ble_eq_true rfl⟩ ?_; refine gC ?_
              refine g_bin rfl rfl rfl rfl rfl (gT ?_)
              refine g_pick rfl rfl rfl (gT ?_)
              refine g_as rfl rfl (gT ?_)
              refine g_nil (hK _ _ _ (by kernel_rfl) ?_)
              refine k_seq ?_
              refine w_ret ?_
              refine fin_wp (τ := []) rfl (by decide) ?_; rw [← Option.some.inj H]; simp only [Tryd.f3]; exact gF
            · have c27b := decide_eq_false c27; try simp only [c27b, nrm]
              refine g_sk rfl rfl (gT ?_)
              refine g_sk rfl rfl (gT ?_)
              refine g_sk rfl rfl (gT ?_)
              refine g_sk rfl rfl (gT ?_)
              refine g_sk rfl rfl (gT ?_)
              refine g_sk rfl rfl (gT ?_)
              refine g_sk rfl rfl (gT ?_)
              refine g_sk rfl rfl (gT ?_)
              refine g_pick rfl rfl rfl (gT ?_)
              refine g_as rfl rfl (gT ?_)
              refine g_nil (hK _ _ _ (by kernel_rfl) ?_)
              refine k_seq ?_
              refine w_ret ?_
              refine fin_wp (τ := []) rfl (by decide) ?_; rw [← Option.some.inj H]; simp only [Tryd.f3]; exact gF
          · have c15b : q14.2.2.2 = false := Bool.eq_false_iff.mpr c15; try simp only [c15b, nrm]
            refine w_cond rfl (fun _ => ?_) (fun h => Bool.noConfusion h)
            refine w_seq ?_
            refine wR fun K hK => ?_
            refine g_as rfl rfl (gT ?_)
            refine g_nil (hK _ _ _ ?_)
            refine k_seq ?_
            refine w_ret ?_
            refine fin_wp (τ := []) rfl (by decide) ?_; rw [← Option.some.inj H]; simp only [Tryd.f3]; exact gF
        · have c13b := beq_eq_false_iff_ne.mpr c13; have c13n := bne_iff_ne.mpr c13; try simp only [c13b, c13n, nrm]
          refine w_cond rfl (fun _ => ?_) (fun h => Bool.noConfusion h)
          refine w_seq ?_
          refine wR fun K hK => ?_
          refine g_as rfl rfl (gT ?_)
          refine g_nil (hK _ _ _ ?_)
          refine k_seq ?_
          refine w_ret ?_
          refine fin_wp (τ := []) rfl (by decide) ?_; rw [← Option.some.inj H]; simp only [Tryd.f3]; exact gF
set_option maxHeartbeats 8000000 in
set_option maxRecDepth 100000 in
theorem gimballaw10_VecNorms.does {k : Nat} {l0 : List Int} {r : Bool} (H : gimballaw10_VecNorms.f k l0 = some r) : Do E0 (.fn 3 [.r (l0.map (V.i .u64)) l0.length true] [] (.b r) []) := by
  obtain ih0 := gimballaw10_VecNorms.does_l (l0 := l0) k
  refine fn_wpl Tryd.func3 rfl (Q := (gimballaw10_VecNorms.Q l0 r)) (fun s h => h) ?_
  unfold gimballaw10_VecNorms.f at H
  simp only [Tryd.ntmps3, List.length, List.replicate, Nat.reduceAdd, Nat.reduceSub, List.cons_append, List.nil_append]
  refine w_seq ?_
  refine wR fun K hK => ?_
  refine g_as rfl rfl (gT ?_)
  refine g_nil (hK _ _ _ ?_)
  refine k_seq ?_
  refine w_seq ?_
  refine w_seq ?_
  refine wR fun K hK => ?_
  obtain ⟨q1, hq1, H⟩ := bnd H
  refine g_cs [] rfl rfl (by rfl) Tryd.func5 rfl (by decide) (gimballaw10_head_ok.does hq1) ⟨Nat.le_of_ble_eq_true rfl, Nat.le_of_ble_eq_true rfl⟩ ?_; refine gC ?_
  refine g_un rfl rfl rfl rfl (gT ?_)
  refine g_nil (hK _ _ _ ?_)
  refine k_seq ?_
  refine w_cond rfl (fun h => Bool.noConfusion h) (fun _ => ?_)
  refine w_skip ?_
  refine k_seq ?_
  refine w_seq ?_
  refine w_seq ?_
  refine wR fun K hK => ?_
  refine g_mv rfl rfl (gT ?_)
  refine g_len_r rfl rfl Tryd.underlying22 rfl (gT ?_)
  refine g_bin rfl rfl rfl rfl rfl (gT ?_)
  refine g_nil (hK _ _ _ ?_)
  refine k_seq ?_
  rcases its H with ⟨c2, H⟩ | ⟨c2, H⟩
  · have c2b := decide_eq_true c2; try simp only [c2b, nrm]
    refine w_cond rfl (fun _ => ?_) (fun h => Bool.noConfusion h)
    refine w_seq ?_
    refine wR fun K hK => ?_
    refine g_as rfl rfl (gT ?_)
    refine g_nil (hK _ _ _ ?_)
    refine k_seq ?_
    refine w_ret ?_
    refine fin_wp (τ := []) rfl (by decide) ?_; rw [← Option.some.inj H]; simp only [Tryd.f3]; exact gF
  · have c2b := decide_eq_false c2; try simp only [c2b, nrm]
    refine w_cond rfl (fun h => Bool.noConfusion h) (fun _ => ?_)
    refine w_skip ?_
    refine k_seq ?_
    refine w_seq ?_
    refine wR fun K hK => ?_
    refine g_bd rfl rfl zr27 Tryd.underlying27 (pl := [(0, 1)]) (by kernel_rfl) ?_; refine gB ?_
    refine g_box rfl rfl rfl (by rfl) (gU ?_)
    refine g_as rfl rfl (gT ?_)
    refine g_nil (hK _ _ _ ?_)
    refine k_seq ?_
    refine w_seq ?_
    refine wR fun K hK => ?_
    refine g_mv rfl rfl (gT ?_)
    refine g_mv rfl rfl (gT ?_)
    obtain ⟨q3, hq3, H⟩ := bnd H
    refine g_cs [28] rfl rfl (by rfl) Tryd.func6 rfl (by decide) (vec_Nrm2.does hq3) ⟨Nat.le_of_ble_eq_true rfl, Nat.le_of_ble_eq_true rfl⟩ ?_; refine gC ?_
    refine g_as rfl rfl (gT ?_)
    refine g_nil (hK _ _ _ ?_)
    refine k_seq ?_
    refine w_seq ?_
    refine wR fun K hK => ?_
    refine g_bd rfl rfl zr32 Tryd.underlying32 (pl := [(0, 1), (1, 1), (2, 1)]) (by kernel_rfl) ?_; refine gB ?_
    refine g_alloc rfl rfl zr32 (gU ?_)
    refine g_st rfl rfl sz32 rfl rfl rfl (by rfl) (Nat.le_of_ble_eq_true rfl) (gU ?_)
    refine g_nil (hK _ _ _ ?_)
    refine k_seq ?_
    refine w_seq ?_
    refine w_seq ?_
    refine wR fun K hK => ?_
    refine g_mv rfl rfl (gT ?_)
    refine g_len_r rfl rfl Tryd.underlying22 rfl (gT ?_)
    refine g_mv rfl rfl (gT ?_)
    refine g_nil (hK _ _ _ ?_)
    refine k_seq ?_
    refine w_block ?_
    refine w_less (.roc 56 1 rfl rfl) ?_; simp only [nrmx, nrm, List.set_cons_zero, List.set_cons_succ, Nat.reduceAdd]
    refine w_wk (σ := [28, 56]) [0, 2, 0, 0, 23, 0, 0] rfl (by decide) ?_; refine gC ?_
    exact gI (ih0 l0 q3.1 (l0.length : Int) 0 q3.2 false [] 0 r H)

end Go.Proofs.YtkkfghecmhmdpaaDoor.F
namespace Go.Proofs.YtkkfghecmhmdpaaDoor.F
open Go Go.RowKit Go.Proofs.YtkkfghecmhmdpaaDoorW.PrintWords
open Go.Rk hiding Rd
set_option linter.unusedVariables false
set_option maxRecDepth 100000
def sub64Entry_ : Array Value → Sem Value := fun args => do
  let (x, y, b) ← Extern.MathBitsCarry.three "Sub64" args
  pure (Extern.MathBitsCarry.pair ((x + Extern.MathBitsCarry.m64 - y - b) % Extern.MathBitsCarry.m64) (if x < y + b then 1 else 0))
theorem run_sub64_ {P : Program} (x y b : Nat) (hb : b ≤ 1) (w : World) :
    (sub64Entry_ #[.int .u64 x, .int .u64 y, .int .u64 b]).run P w =
      .ok (.tuple #[.int .u64 (((x + 18446744073709551616 - y - b) % 18446744073709551616 : Nat) : Int), .int .u64 ((if x < y + b then 1 else 0 : Nat) : Int)]) w := by
  have : b = 0 ∨ b = 1 := by omega
  rcases this with rfl | rfl <;> rfl
theorem vs3 {ι : Io} {μ : Mu} {k k' k'' : IntKind} {x y c : Int} {args' : List Value} (h : Vs ι μ [.i k x, .i k' y, .i k'' c] args') : args' = [.int k x, .int k' y, .int k'' c] := by
  obtain ⟨a, l, rfl, ha, h⟩ := h.head
  obtain ⟨b, l, rfl, hb, h⟩ := h.head
  obtain ⟨d, l, rfl, hd, h⟩ := h.head
  rw [h.nil', ha.i_inv, hb.i_inv, hd.i_inv]
theorem vr2 {ι : Io} {μ : Mu} {x y : Int} : VR ι μ (.t [.i .u64 x, .i .u64 y]) (.tuple #[.int .u64 x, .int .u64 y]) :=
  .t (cs := [.int .u64 x, .int .u64 y]) rfl fun j hj => by
    match j, hj with
    | 0, _ => exact .c .i
    | 1, _ => exact .c .i
theorem envOk : EnvOk E0 where
  mixed := by kernel_rfl
  noNG := by
    intro f fn h
    have h0 : (Tryd.prog.funcs.toList.all fun fn => !(fn.name == "runtime.NumGoroutine")) = true := by kernel_rfl
    have h1 : fn ∈ Tryd.prog.funcs.toList := by
      have h : Tryd.prog.funcs[f]? = some fn := h
      exact Array.mem_toList_iff.2 (Array.mem_of_getElem? h)
    have := List.all_eq_true.1 h0 fn h1
    simpa using this
  ext := by
    intro f fn args args' ι μ w v hf hb he hv
    simp only [E0] at he
    split at he
    · rename_i e; subst e
      unfold addX at he
      split at he
      · split at he
        · rename_i hc
          cases he
          obtain ⟨c1, c2, c3, c4⟩ := hc
          rw [vs3 hv]
          refine ⟨_, ?_, vr2⟩
          show (callFunc 58 #[_, _, _]).run Tryd.prog w = _
          rw [run_callFunc_extern Tryd.func58 (by kernel_rfl) (by kernel_rfl) (by kernel_rfl) (e := add64Entry) (by kernel_rfl), run_add64 _ _ _ c1 c2 c3 c4]
          rfl
        · cases he
      · cases he
    · split at he
      · rename_i e; subst e
        unfold subX at he
        split at he
        · split at he
          · rename_i x y c hc
            cases he
            obtain ⟨c1, c2, c5, c3, c4⟩ := hc
            rw [vs3 hv]
            obtain ⟨x, rfl⟩ := Int.eq_ofNat_of_zero_le c1
            obtain ⟨y, rfl⟩ := Int.eq_ofNat_of_zero_le c2
            obtain ⟨b, rfl⟩ := Int.eq_ofNat_of_zero_le c3
            have e1 : (((x + 18446744073709551616 - y - b) % 18446744073709551616 : Nat) : Int) = ((x : Int) - y - b) % 18446744073709551616 := by omega
            have e2 : ((if x < y + b then 1 else 0 : Nat) : Int) = if (x : Int) < y + b then 1 else 0 := by split <;> split <;> omega
            rw [← e1, ← e2]
            refine ⟨_, ?_, vr2⟩
            show (callFunc 59 #[_, _, _]).run Tryd.prog w = _
            rw [run_callFunc_extern Tryd.func59 (by kernel_rfl) (by kernel_rfl) (by kernel_rfl) (e := sub64Entry_) (by kernel_rfl), run_sub64_ x y b (by omega)]
            rfl
          · cases he
        · cases he
      · cases he
end Go.Proofs.YtkkfghecmhmdpaaDoor.F
