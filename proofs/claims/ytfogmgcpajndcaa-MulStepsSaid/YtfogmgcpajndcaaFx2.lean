-- Written by a program of this seat's session (mkprint), out of the translation.
import Derived.Test.YtfogmgcpajndcaaShort
import Derived.Test.YtfogmgcpajndcaaFx0
namespace Go.Proofs.Ytfogmgcpajndcaa.F
open Go.RowKit Go.Proofs.YtfogmgcpajndcaaW.PrintWords Go.Proofs.YtfogmgcpajndcaaW.PrintLast Go.Proofs.YtfogmgcpajndcaaW.PrintMore
attribute [local go_sem] max2_int min2_int max_two min_two max_three min_three max_four min_four   -- for this text's walks alone
set_option linter.unusedVariables false
set_option linter.unusedSimpArgs false

/-! ### mat_New: function 20 -/
def mat_New.f (a0 : Int) (a1 : Int) : Option (Int × Int × Int × List Int) := if a0 < 0 then (some (0, 0, 0, ([] : List Int))) else (if a1 < 0 then (some (0, 0, 0, ([] : List Int))) else (if a0 > 4096 then (some (0, 0, 0, ([] : List Int))) else (if a1 > 4096 then (some (0, 0, 0, ([] : List Int))) else (if 0 ≤ (wrap64 (a0 * a1)) then (if (wrap64 (a0 * a1) : Int).toNat ≤ 35184372088832 then (some (a0, a1, a1, (List.replicate (wrap64 (a0 * a1) : Int).toNat 0))) else (none)) else (none)))))
set_option maxHeartbeats 8000000 in
set_option maxRecDepth 100000 in
theorem mat_New.calls (a0 : Int) (a1 : Int) (r1 : Int) (r2 : Int) (r3 : Int) (r4 : List Int) (w : World) (h : mat_New.f a0 a1 = some (r1, r2, r3, r4)) :
  Calls Try.prog 20 #[.int .i64 a0, .int .i64 a1] w fun e w' => ∃ v3_ : Value, e = .returned (.agg #[.int .i64 r1, .int .i64 r2, .int .i64 r3, v3_]) ∧ Kd.R (Kd.int .u64) 33 w' w.heap.size (fun _ => True) v3_ r4 ∧ Below w.heap.size w w' := by
 have hu25 := Try.underlying25
 have HB := Aside0.mk (Below.refl w.heap.size w)
 have H : (if a0 < 0 then (some (0, 0, 0, ([] : List Int))) else (if a1 < 0 then (some (0, 0, 0, ([] : List Int))) else (if a0 > 4096 then (some (0, 0, 0, ([] : List Int))) else (if a1 > 4096 then (some (0, 0, 0, ([] : List Int))) else (if 0 ≤ (wrap64 (a0 * a1)) then (if (wrap64 (a0 * a1) : Int).toNat ≤ 35184372088832 then (some (a0, a1, a1, (List.replicate (wrap64 (a0 * a1) : Int).toNat 0))) else (none)) else (none)))))) = some (r1, r2, r3, r4) := h
 clear h
 by_cases c3 : a0 < 0
 ·
  rw [if_pos c3] at H
  have c3b0 : decide (a0 < 0) = true := decide_eq_true c3
  clear c3
  simp only [Option.some.injEq, Prod.mk.injEq] at H
  obtain ⟨rfl, rfl, rfl, rfl⟩ := H
  go_enter Try.func20, Try.ntmps20
  go_wp2_with (first | ((with_reducible refine gate_dst (N := 4) rfl ?_); refine gbox (N := 4) (cs := #[.int .i64 0, .int .i64 0, .int .i64 0, .slice none 0 0]) (t := 25) ?_; intro gb101 hg w4 hbox hb; refine ax4 (below_step bel hb) hbox ((ge hg : w.heap.size ≤ gb101)) ((ge hg : w.heap.size ≤ gb101)) ?_; clear HB; intro HB BK101 GW101 GE101; clear hb hbox hg; have hcz5_0 := bc BK101 0 rfl; have hcz5_1 := bc BK101 1 rfl; have hcz5_2 := bc BK101 2 rfl; have hcz5_3 := bc BK101 3 rfl; have hfz5_0 := blk_frozen BK101.out 0; have hfz5_1 := blk_frozen BK101.out 1; have hfz5_2 := blk_frozen BK101.out 2; have hfz5_3 := blk_frozen BK101.out 3))
  refine bodyPost_ret (results_cell_row rfl _ _ gb101 25 #[.int .i64 0, .int .i64 0, .int .i64 0, .slice none 0 0] (0, 0) _ rfl (bp BK101) Try.underlying25 rfl (by kernel_rfl)) rfl ?_
  exact ⟨_, er, by first | exact Kd.R_nil _ _ _ _ _ | exact Kd.N_nil _ _ _ _ _ | exact Kd.V_nil _ _ _ _ _ | exact Kd.Q_nil _ _ _ _ _ | exact Kd.S_nil _ _ _ _ _, bes⟩
 ·
  rw [if_neg c3] at H
  have c3b0 : decide (a0 < 0) = false := decide_eq_false c3
  clear c3
  by_cases c6 : a1 < 0
  ·
   rw [if_pos c6] at H
   have c6b0 : decide (a1 < 0) = true := decide_eq_true c6
   clear c6
   simp only [Option.some.injEq, Prod.mk.injEq] at H
   obtain ⟨rfl, rfl, rfl, rfl⟩ := H
   go_enter Try.func20, Try.ntmps20
   go_wp2_with (first | ((with_reducible refine gate_dst (N := 4) rfl ?_); refine gbox (N := 4) (cs := #[.int .i64 0, .int .i64 0, .int .i64 0, .slice none 0 0]) (t := 25) ?_; intro gb101 hg w7 hbox hb; refine ax4 (below_step bel hb) hbox ((ge hg : w.heap.size ≤ gb101)) ((ge hg : w.heap.size ≤ gb101)) ?_; clear HB; intro HB BK101 GW101 GE101; clear hb hbox hg; have hcz8_0 := bc BK101 0 rfl; have hcz8_1 := bc BK101 1 rfl; have hcz8_2 := bc BK101 2 rfl; have hcz8_3 := bc BK101 3 rfl; have hfz8_0 := blk_frozen BK101.out 0; have hfz8_1 := blk_frozen BK101.out 1; have hfz8_2 := blk_frozen BK101.out 2; have hfz8_3 := blk_frozen BK101.out 3))
   refine bodyPost_ret (results_cell_row rfl _ _ gb101 25 #[.int .i64 0, .int .i64 0, .int .i64 0, .slice none 0 0] (0, 0) _ rfl (bp BK101) Try.underlying25 rfl (by kernel_rfl)) rfl ?_
   exact ⟨_, er, by first | exact Kd.R_nil _ _ _ _ _ | exact Kd.N_nil _ _ _ _ _ | exact Kd.V_nil _ _ _ _ _ | exact Kd.Q_nil _ _ _ _ _ | exact Kd.S_nil _ _ _ _ _, bes⟩
  ·
   rw [if_neg c6] at H
   have c6b0 : decide (a1 < 0) = false := decide_eq_false c6
   clear c6
   by_cases c9 : a0 > 4096
   ·
    rw [if_pos c9] at H
    have c9b0 : decide (4096 < a0) = true := decide_eq_true c9
    clear c9
    simp only [Option.some.injEq, Prod.mk.injEq] at H
    obtain ⟨rfl, rfl, rfl, rfl⟩ := H
    go_enter Try.func20, Try.ntmps20
    go_wp2_with (first | ((with_reducible refine gate_dst (N := 4) rfl ?_); refine gbox (N := 4) (cs := #[.int .i64 0, .int .i64 0, .int .i64 0, .slice none 0 0]) (t := 25) ?_; intro gb101 hg w10 hbox hb; refine ax4 (below_step bel hb) hbox ((ge hg : w.heap.size ≤ gb101)) ((ge hg : w.heap.size ≤ gb101)) ?_; clear HB; intro HB BK101 GW101 GE101; clear hb hbox hg; have hcz11_0 := bc BK101 0 rfl; have hcz11_1 := bc BK101 1 rfl; have hcz11_2 := bc BK101 2 rfl; have hcz11_3 := bc BK101 3 rfl; have hfz11_0 := blk_frozen BK101.out 0; have hfz11_1 := blk_frozen BK101.out 1; have hfz11_2 := blk_frozen BK101.out 2; have hfz11_3 := blk_frozen BK101.out 3))
    refine bodyPost_ret (results_cell_row rfl _ _ gb101 25 #[.int .i64 0, .int .i64 0, .int .i64 0, .slice none 0 0] (0, 0) _ rfl (bp BK101) Try.underlying25 rfl (by kernel_rfl)) rfl ?_
    exact ⟨_, er, by first | exact Kd.R_nil _ _ _ _ _ | exact Kd.N_nil _ _ _ _ _ | exact Kd.V_nil _ _ _ _ _ | exact Kd.Q_nil _ _ _ _ _ | exact Kd.S_nil _ _ _ _ _, bes⟩
   ·
    rw [if_neg c9] at H
    have c9b0 : decide (4096 < a0) = false := decide_eq_false c9
    clear c9
    by_cases c12 : a1 > 4096
    ·
     rw [if_pos c12] at H
     have c12b0 : decide (4096 < a1) = true := decide_eq_true c12
     clear c12
     simp only [Option.some.injEq, Prod.mk.injEq] at H
     obtain ⟨rfl, rfl, rfl, rfl⟩ := H
     go_enter Try.func20, Try.ntmps20
     go_wp2_with (first | ((with_reducible refine gate_dst (N := 4) rfl ?_); refine gbox (N := 4) (cs := #[.int .i64 0, .int .i64 0, .int .i64 0, .slice none 0 0]) (t := 25) ?_; intro gb101 hg w13 hbox hb; refine ax4 (below_step bel hb) hbox ((ge hg : w.heap.size ≤ gb101)) ((ge hg : w.heap.size ≤ gb101)) ?_; clear HB; intro HB BK101 GW101 GE101; clear hb hbox hg; have hcz14_0 := bc BK101 0 rfl; have hcz14_1 := bc BK101 1 rfl; have hcz14_2 := bc BK101 2 rfl; have hcz14_3 := bc BK101 3 rfl; have hfz14_0 := blk_frozen BK101.out 0; have hfz14_1 := blk_frozen BK101.out 1; have hfz14_2 := blk_frozen BK101.out 2; have hfz14_3 := blk_frozen BK101.out 3))
     refine bodyPost_ret (results_cell_row rfl _ _ gb101 25 #[.int .i64 0, .int .i64 0, .int .i64 0, .slice none 0 0] (0, 0) _ rfl (bp BK101) Try.underlying25 rfl (by kernel_rfl)) rfl ?_
     exact ⟨_, er, by first | exact Kd.R_nil _ _ _ _ _ | exact Kd.N_nil _ _ _ _ _ | exact Kd.V_nil _ _ _ _ _ | exact Kd.Q_nil _ _ _ _ _ | exact Kd.S_nil _ _ _ _ _, bes⟩
    ·
     rw [if_neg c12] at H
     have c12b0 : decide (4096 < a1) = false := decide_eq_false c12
     clear c12
     obtain ⟨ji15, hji15⟩ : ∃ j_ : Int, (wrap64 (a0 * a1)) = j_ := ⟨_, rfl⟩
     replace H : (if 0 ≤ (ji15) then (if (ji15 : Int).toNat ≤ 35184372088832 then (some (a0, a1, a1, (List.replicate (ji15 : Int).toNat 0))) else (none)) else (none)) = some (r1, r2, r3, r4) := by first | (rw [hji15] at H; exact H) | (simp only [hji15] at H ⊢; exact H)
     have hji15w : (IntKind.i64.wrap (a0 * a1)) = ji15 := (i64_w _).trans hji15
     by_cases c16 : 0 ≤ (ji15)
     rotate_left
     ·
      rw [if_neg c16] at H
      exact absurd H (by simp)

     rw [if_pos c16] at H
     have c16b0 := eq_true c16
     have c16b1 : decide (0 ≤ (ji15)) = true := decide_eq_true c16
     clear c16
     by_cases c17 : (ji15 : Int).toNat ≤ 35184372088832
     rotate_left
     ·
      rw [if_neg c17] at H
      exact absurd H (by simp)
     rw [if_pos c17] at H
     have c17b0 := eq_true c17
     have c17b1 : decide ((ji15 : Int).toNat ≤ 35184372088832) = true := decide_eq_true c17
     clear c17
     obtain ⟨y102, hy102⟩ : ∃ y_ : List Int, y_ = (List.replicate (ji15 : Int).toNat 0) := ⟨_, rfl⟩
     replace H : (some (a0, a1, a1, y102)) = some (r1, r2, r3, r4) := by first | (rw [hy102]; with_reducible exact H) | (have H2_ := (Option.bind_some _ _).symm.trans H; rw [hy102]; with_reducible exact H2_) | (have H2_ := (Option.bind_some _ _).symm.trans H; with_reducible exact H2_) | with_reducible exact H | (rw [hy102]; exact H) | exact H
     have Ny102 := Aside0.mk hy102
     clear hy102
     simp only [Option.some.injEq, Prod.mk.injEq] at H
     obtain ⟨rfl, rfl, rfl, rfl⟩ := H
     go_enter Try.func20, Try.ntmps20
     go_wp2_with (first | ((with_reducible refine gate_dst (N := 4) rfl ?_); refine gbox (N := 4) (cs := #[.int .i64 0, .int .i64 0, .int .i64 0, .slice none 0 0]) (t := 25) ?_; intro gb101 hg w18 hbox hb; refine ax4 (below_step bel hb) hbox ((ge hg : w.heap.size ≤ gb101)) ((ge hg : w.heap.size ≤ gb101)) ?_; clear HB; intro HB BK101 GW101 GE101; clear hb hbox hg) | ((with_reducible refine gate_dst (N := 26) rfl ?_); refine Kd.R_make (Kd.int .u64) _ 33 rfl (N := 26) rfl 22 _ _ rfl ji15 rfl rfl Try.underlying22 (.int .u64 0) 8 info33 rfl (by decide) (by omega) 0 (ok := fun _ => True) (okp := fun _ => True) rfl (fun _ hk => hk) trivial (of_decide_eq_true (by first | (with_reducible assumption) | assumption)) (Nat.le_trans (Nat.mul_le_mul_right _ (of_decide_eq_true (by first | (with_reducible assumption) | assumption) : ji15.toNat ≤ 35184372088832)) (by omega)) (Below.refl _ _) (Nat.le_refl _) ?_; intro v103 w19 ho20 hb hg_ hnew_; clear hg_ hnew_; (first | rw [← Ny102.out] at ho20 | (simp only [Int.reduceToNat] at ho20; rw [← Ny102.out] at ho20)); refine ax3 (Kd.R_lower ho20 (below_size bes)) (bb BK101 hb) (below_step bes hb) ?_; clear BK101; clear HB; intro HO104 BK101 HB; clear hb ho20; obtain ⟨Ao21, co21, eo21⟩ := Kd.R_slice HO104.out; subst eo21; have hcz22_0 := bc BK101 0 rfl; have hcz22_1 := bc BK101 1 rfl; have hcz22_2 := bc BK101 2 rfl; have hcz22_3 := bc BK101 3 rfl; have hfz22_0 := blk_frozen BK101.out 0; have hfz22_1 := blk_frozen BK101.out 1; have hfz22_2 := blk_frozen BK101.out 2; have hfz22_3 := blk_frozen BK101.out 3))
     refine bodyPost_ret (results_cell_row rfl _ _ gb101 25 #[.int .i64 a0, .int .i64 a1, .int .i64 a1, .slice Ao21 y102.length co21] (0, 0) _ rfl (bp BK101) Try.underlying25 rfl (by kernel_rfl)) rfl ?_
     exact ⟨_, by first | rfl | (simp [errW_none, errW_some] <;> rfl) | (simp only [← hji15]; first | rfl | (simp [errW_none, errW_some] <;> rfl)) | (simp [*, errW_none, errW_some] <;> rfl), by (with_reducible repeat (first | apply Kd.R_alloc | apply Kd.R_drewN | apply Kd.R_drew)); exact Kd.R_mono (Kd.R_far (p := ⟨gb101, 3, none⟩) (Kd.R_far (p := ⟨gb101, 2, none⟩) (Kd.R_far (p := ⟨gb101, 1, none⟩) (Kd.R_far (p := ⟨gb101, 0, none⟩) (Kd.R_types HO104.out BK101.out (by decide)) (fun _ hk => hk.2) (.int .i64 a0)) (fun _ hk => hk.2) (.int .i64 a1)) (fun _ hk => hk.2) (.int .i64 a1)) (fun _ hk => hk.2) (.slice Ao21 y102.length co21)) (fun _ hk => trivial), bes⟩
/-! ### mat_Matrix_in: function 27 -/
def mat_Matrix_in.f (a0_0 : Int) (a0_1 : Int) (a0_2 : Int) (l0_3 : List Int) (a1 : Int) (a2 : Int) : Option (Bool) := if a1 ≥ 0 then (if a1 < a0_0 then (if a2 ≥ 0 then (if a2 < a0_1 then (if a0_2 ≥ 0 then (some (decide ((wrap64 ((wrap64 (a1 * a0_2)) + a2)) < (l0_3.length : Int)))) else (some false)) else (some false)) else (some false)) else (some false)) else (some false)
set_option maxHeartbeats 8000000 in
set_option maxRecDepth 100000 in
theorem mat_Matrix_in.calls (a0_0 : Int) (a0_1 : Int) (a0_2 : Int) (A0_3 : Option Addr) (c0_3 : Nat) (l0_3 : List Int) (a1 : Int) (a2 : Int) (r : Bool) (w : World) (hr0_3 : Kd.C (Kd.int .u64) w A0_3 l0_3.length l0_3) (hc0_3 : l0_3.length ≤ c0_3) (h : mat_Matrix_in.f a0_0 a0_1 a0_2 l0_3 a1 a2 = some r) :
  Calls Try.prog 27 #[.agg #[.int .i64 a0_0, .int .i64 a0_1, .int .i64 a0_2, .slice A0_3 l0_3.length c0_3], .int .i64 a1, .int .i64 a2] w fun e w' => e = .returned (.bool r) ∧ Below w.heap.size w w' := by
 have hu25 := Try.underlying25
 have HR0_3 := Aside0.mk hr0_3
 have HC0_3 := Aside0.mk hc0_3
 clear hr0_3 hc0_3
 have HB := Aside0.mk (Below.refl w.heap.size w)
 have H : (if a1 ≥ 0 then (if a1 < a0_0 then (if a2 ≥ 0 then (if a2 < a0_1 then (if a0_2 ≥ 0 then (some (decide ((wrap64 ((wrap64 (a1 * a0_2)) + a2)) < (l0_3.length : Int)))) else (some false)) else (some false)) else (some false)) else (some false)) else (some false)) = some r := h
 clear h
 by_cases c4 : a1 ≥ 0
 rotate_left
 ·
  rw [if_neg c4] at H
  have c4b0 : decide (0 ≤ a1) = false := decide_eq_false c4
  clear c4
  obtain rfl := Option.some.inj H
  go_enter Try.func27, Try.ntmps27
  go_wp2_with (first | ((with_reducible refine gate_dst (N := 3) rfl ?_); refine gbox (N := 3) (cs := #[.int .i64 a0_0, .int .i64 a0_1, .int .i64 a0_2, .slice A0_3 l0_3.length c0_3]) (t := 25) ?_; intro gb105 hg w19 hbox hb; refine ax4 (below_step bel hb) hbox ((ge hg : w.heap.size ≤ gb105)) ((ge hg : w.heap.size ≤ gb105)) ?_; clear HB; intro HB BK105 GW105 GE105; clear hb hbox hg))
  go_ret
  exact ⟨er, bes⟩

 rw [if_pos c4] at H
 have c4b0 : decide (0 ≤ a1) = true := decide_eq_true c4
 clear c4
 by_cases c5 : a1 < a0_0
 rotate_left
 ·
  rw [if_neg c5] at H
  have c5b0 : decide (a1 < a0_0) = false := decide_eq_false c5
  clear c5
  obtain rfl := Option.some.inj H
  go_enter Try.func27, Try.ntmps27
  go_wp2_with (first | ((with_reducible refine gate_dst (N := 3) rfl ?_); refine gbox (N := 3) (cs := #[.int .i64 a0_0, .int .i64 a0_1, .int .i64 a0_2, .slice A0_3 l0_3.length c0_3]) (t := 25) ?_; intro gb105 hg w17 hbox hb; refine ax4 (below_step bel hb) hbox ((ge hg : w.heap.size ≤ gb105)) ((ge hg : w.heap.size ≤ gb105)) ?_; clear HB; intro HB BK105 GW105 GE105; clear hb hbox hg; have hcz18_0 := bc BK105 0 rfl; have hcz18_1 := bc BK105 1 rfl; have hcz18_2 := bc BK105 2 rfl; have hcz18_3 := bc BK105 3 rfl; have hfz18_0 := blk_frozen BK105.out 0; have hfz18_1 := blk_frozen BK105.out 1; have hfz18_2 := blk_frozen BK105.out 2; have hfz18_3 := blk_frozen BK105.out 3))
  go_ret
  exact ⟨er, bes⟩
 rw [if_pos c5] at H
 have c5b0 : decide (a1 < a0_0) = true := decide_eq_true c5
 clear c5
 by_cases c6 : a2 ≥ 0
 rotate_left
 ·
  rw [if_neg c6] at H
  have c6b0 : decide (0 ≤ a2) = false := decide_eq_false c6
  clear c6
  obtain rfl := Option.some.inj H
  go_enter Try.func27, Try.ntmps27
  go_wp2_with (first | ((with_reducible refine gate_dst (N := 3) rfl ?_); refine gbox (N := 3) (cs := #[.int .i64 a0_0, .int .i64 a0_1, .int .i64 a0_2, .slice A0_3 l0_3.length c0_3]) (t := 25) ?_; intro gb105 hg w15 hbox hb; refine ax4 (below_step bel hb) hbox ((ge hg : w.heap.size ≤ gb105)) ((ge hg : w.heap.size ≤ gb105)) ?_; clear HB; intro HB BK105 GW105 GE105; clear hb hbox hg; have hcz16_0 := bc BK105 0 rfl; have hcz16_1 := bc BK105 1 rfl; have hcz16_2 := bc BK105 2 rfl; have hcz16_3 := bc BK105 3 rfl; have hfz16_0 := blk_frozen BK105.out 0; have hfz16_1 := blk_frozen BK105.out 1; have hfz16_2 := blk_frozen BK105.out 2; have hfz16_3 := blk_frozen BK105.out 3))
  go_ret
  exact ⟨er, bes⟩
 rw [if_pos c6] at H
 have c6b0 : decide (0 ≤ a2) = true := decide_eq_true c6
 clear c6
 by_cases c7 : a2 < a0_1
 rotate_left
 ·
  rw [if_neg c7] at H
  have c7b0 : decide (a2 < a0_1) = false := decide_eq_false c7
  clear c7
  obtain rfl := Option.some.inj H
  go_enter Try.func27, Try.ntmps27
  go_wp2_with (first | ((with_reducible refine gate_dst (N := 3) rfl ?_); refine gbox (N := 3) (cs := #[.int .i64 a0_0, .int .i64 a0_1, .int .i64 a0_2, .slice A0_3 l0_3.length c0_3]) (t := 25) ?_; intro gb105 hg w13 hbox hb; refine ax4 (below_step bel hb) hbox ((ge hg : w.heap.size ≤ gb105)) ((ge hg : w.heap.size ≤ gb105)) ?_; clear HB; intro HB BK105 GW105 GE105; clear hb hbox hg; have hcz14_0 := bc BK105 0 rfl; have hcz14_1 := bc BK105 1 rfl; have hcz14_2 := bc BK105 2 rfl; have hcz14_3 := bc BK105 3 rfl; have hfz14_0 := blk_frozen BK105.out 0; have hfz14_1 := blk_frozen BK105.out 1; have hfz14_2 := blk_frozen BK105.out 2; have hfz14_3 := blk_frozen BK105.out 3))
  go_ret
  exact ⟨er, bes⟩
 rw [if_pos c7] at H
 have c7b0 : decide (a2 < a0_1) = true := decide_eq_true c7
 clear c7
 by_cases c8 : a0_2 ≥ 0
 rotate_left
 ·
  rw [if_neg c8] at H
  have c8b0 : decide (0 ≤ a0_2) = false := decide_eq_false c8
  clear c8
  obtain rfl := Option.some.inj H
  go_enter Try.func27, Try.ntmps27
  go_wp2_with (first | ((with_reducible refine gate_dst (N := 3) rfl ?_); refine gbox (N := 3) (cs := #[.int .i64 a0_0, .int .i64 a0_1, .int .i64 a0_2, .slice A0_3 l0_3.length c0_3]) (t := 25) ?_; intro gb105 hg w11 hbox hb; refine ax4 (below_step bel hb) hbox ((ge hg : w.heap.size ≤ gb105)) ((ge hg : w.heap.size ≤ gb105)) ?_; clear HB; intro HB BK105 GW105 GE105; clear hb hbox hg; have hcz12_0 := bc BK105 0 rfl; have hcz12_1 := bc BK105 1 rfl; have hcz12_2 := bc BK105 2 rfl; have hcz12_3 := bc BK105 3 rfl; have hfz12_0 := blk_frozen BK105.out 0; have hfz12_1 := blk_frozen BK105.out 1; have hfz12_2 := blk_frozen BK105.out 2; have hfz12_3 := blk_frozen BK105.out 3))
  go_ret
  exact ⟨er, bes⟩
 rw [if_pos c8] at H
 have c8b0 : decide (0 ≤ a0_2) = true := decide_eq_true c8
 clear c8
 obtain rfl := Option.some.inj H
 go_enter Try.func27, Try.ntmps27
 go_wp2_with (first | ((with_reducible refine gate_dst (N := 3) rfl ?_); refine gbox (N := 3) (cs := #[.int .i64 a0_0, .int .i64 a0_1, .int .i64 a0_2, .slice A0_3 l0_3.length c0_3]) (t := 25) ?_; intro gb105 hg w9 hbox hb; refine ax4 (below_step bel hb) hbox ((ge hg : w.heap.size ≤ gb105)) ((ge hg : w.heap.size ≤ gb105)) ?_; clear HB; intro HB BK105 GW105 GE105; clear hb hbox hg; have hcz10_0 := bc BK105 0 rfl; have hcz10_1 := bc BK105 1 rfl; have hcz10_2 := bc BK105 2 rfl; have hcz10_3 := bc BK105 3 rfl; have hfz10_0 := blk_frozen BK105.out 0; have hfz10_1 := blk_frozen BK105.out 1; have hfz10_2 := blk_frozen BK105.out 2; have hfz10_3 := blk_frozen BK105.out 3))
 go_ret
 exact ⟨er, bes⟩
/-! ### mat_Matrix_Set: function 21 -/
def mat_Matrix_Set.f (a0_0 : Int) (a0_1 : Int) (a0_2 : Int) (l0_3 : List Int) (a1 : Int) (a2 : Int) (a3 : Int) : Option (List Int) := (mat_Matrix_in.f a0_0 a0_1 a0_2 l0_3 a1 a2).bind fun t107 => (if t107 = true then (if 0 ≤ (wrap64 ((wrap64 (a1 * a0_2)) + a2)) then (if (wrap64 ((wrap64 (a1 * a0_2)) + a2)) < (l0_3.length : Int) then (some (l0_3.set ((wrap64 ((wrap64 (a1 * a0_2)) + a2)) : Int).toNat a3)) else (none)) else (none)) else (some l0_3))
set_option maxHeartbeats 8000000 in
set_option maxRecDepth 100000 in
theorem mat_Matrix_Set.calls (a0_0 : Int) (a0_1 : Int) (a0_2 : Int) (P0_3_ : Nat → Prop) (u9000_ : Value) (l0_3 : List Int) (a1 : Int) (a2 : Int) (a3 : Int) (r : List Int) (w0 w : World) (hB : Below w0.heap.size w0 w) (ho0_3 : Kd.R (Kd.int .u64) 33 w w0.heap.size P0_3_ u9000_ l0_3) (h : mat_Matrix_Set.f a0_0 a0_1 a0_2 l0_3 a1 a2 a3 = some r) :
  Calls Try.prog 21 #[.agg #[.int .i64 a0_0, .int .i64 a0_1, .int .i64 a0_2, u9000_], .int .i64 a1, .int .i64 a2, .int .u64 a3] w fun e w' => e = .returned (.tuple #[]) ∧ Kd.R (Kd.int .u64) 33 w' w0.heap.size (fun k_ => (P0_3_ k_ ∨ w.heap.size ≤ k_)) u9000_ r ∧ Below w0.heap.size w0 w' ∧ Kept w w' (fun k_ => P0_3_ k_) := by
 have hu25 := Try.underlying25
 have HO0_3 := Aside0.mk (show Kd.R (Kd.int .u64) 33 w w0.heap.size (fun k_ => (P0_3_ k_ ∨ w.heap.size ≤ k_)) u9000_ l0_3 from Kd.R_mono ho0_3 (fun k_ hk => (.inl hk)))
 have HK := Aside0.mk (Kept.refl w (fun k_ => P0_3_ k_))
 have HW0 := Aside0.mk hB.size
 have HB := Aside0.mk hB
 clear hB
 have H : ((mat_Matrix_in.f a0_0 a0_1 a0_2 l0_3 a1 a2).bind fun t107 => (if t107 = true then (if 0 ≤ (wrap64 ((wrap64 (a1 * a0_2)) + a2)) then (if (wrap64 ((wrap64 (a1 * a0_2)) + a2)) < (l0_3.length : Int) then (some (l0_3.set ((wrap64 ((wrap64 (a1 * a0_2)) + a2)) : Int).toNat a3)) else (none)) else (none)) else (some l0_3))) = some r := h
 clear h
 obtain ⟨t107, A50, H⟩ := Option.bind_eq_some_iff.mp H
 (try dsimp -simprocs only at H)
 have A5 := Aside0.mk A50
 clear A50
 by_cases c6 : t107 = true
 rotate_left
 ·
  replace c6 := Bool.eq_false_iff.mpr c6
  subst c6
  rw [if_neg (show ¬ (false = true) by decide)] at H
  obtain rfl := Option.some.inj H
  obtain ⟨Ao18, co18, eo18⟩ := Kd.R_slice HO0_3.out
  subst eo18
  go_enter Try.func21, Try.ntmps21
  go_wp2_with (first | ((with_reducible refine gate_dst (N := 4) rfl ?_); refine gbox (N := 4) (cs := #[.int .i64 a0_0, .int .i64 a0_1, .int .i64 a0_2, .slice Ao18 l0_3.length co18]) (t := 25) ?_; intro gb106 hg w19 hbox hb; refine ax6 (Kd.R_below (kr HO0_3) hb) (Kept.below (S := (fun k_ => P0_3_ k_)) (by repeat (first | (with_reducible first | exact HK.out | apply Kept.alloc | apply Kept.drewN | apply Kept.drew) | exact HK.out)) hb) (below_step bel hb) hbox ((by rw [hg]; exact (by first | exact HK.out.1 | exact (show Kept w _ (fun k_ => P0_3_ k_) from by repeat (first | (with_reducible first | exact HK.out | apply Kept.alloc | apply Kept.drewN | apply Kept.drew) | exact HK.out)).1) : w.heap.size ≤ gb106)) ((ge hg : w0.heap.size ≤ gb106)) ?_; clear HO0_3; clear HK; clear HB; intro HO0_3 HK HB BK106 GW106 GE106; clear hb hbox hg; have hcz20_0 := bc BK106 0 rfl; have hcz20_1 := bc BK106 1 rfl; have hcz20_2 := bc BK106 2 rfl; have hcz20_3 := bc BK106 3 rfl; have hfz20_0 := blk_frozen BK106.out 0; have hfz20_1 := blk_frozen BK106.out 1; have hfz20_2 := blk_frozen BK106.out 2; have hfz20_3 := blk_frozen BK106.out 3) | ((with_reducible refine gate_callee (f := 27) rfl ?_); refine goesL_ (some 11) rfl rfl Try.func27 (by kernel_rfl) rfl #[.agg #[.int .i64 a0_0, .int .i64 a0_1, .int .i64 a0_2, .slice Ao18 l0_3.length co18], .int .i64 a1, .int .i64 a2] rfl ga ?_; (with_reducible refine (mat_Matrix_in.calls a0_0 a0_1 a0_2 _ _ l0_3 a1 a2 false _ ?side1 ?side2 A5.out).mono ?_); (case side1 => exact ks HO0_3); (case side2 => exact (Kd.R_reads' HO0_3.out).2.1); rintro e w21 ⟨rfl, hb⟩; refine ⟨_, rfl, ?_⟩; refine ax4 (Kd.R_below (kr HO0_3) hb) (bb BK106 hb) (Kept.below (S := (fun k_ => P0_3_ k_)) (by repeat (first | (with_reducible first | exact HK.out | apply Kept.alloc | apply Kept.drewN | apply Kept.drew | refine Kept.setCell ?_ (.inr GW106.out) _) | exact HK.out)) hb) (below_step bes hb) ?_; clear HO0_3; clear BK106; clear HK; clear HB; intro HO0_3 BK106 HK HB; (try clear hb)))
  first | go_end0 | ((try simp only [Exit.inBlock, Exit.then]); refine bodyPost_ret (results_none rfl _ _ _) rfl ?_)
  exact ⟨er, kr HO0_3, bes, by repeat (first | (with_reducible first | exact HK.out | apply Kept.alloc | apply Kept.drewN | apply Kept.drew | refine Kept.setCell ?_ (.inr GW106.out) _) | exact HK.out)⟩

 subst c6
 rw [if_pos rfl] at H
 obtain ⟨ji7, hji7⟩ : ∃ j_ : Int, (wrap64 ((wrap64 (a1 * a0_2)) + a2)) = j_ := ⟨_, rfl⟩
 replace H : (if 0 ≤ (ji7) then (if (ji7) < (l0_3.length : Int) then (some (l0_3.set ((ji7) : Int).toNat a3)) else (none)) else (none)) = some r := by first | (rw [hji7] at H; exact H) | (simp only [hji7] at H ⊢; exact H)
 (try rw [hji7] at A5)
 have hji7w : (IntKind.i64.wrap ((wrap64 (a1 * a0_2)) + a2)) = ji7 := (i64_w _).trans hji7
 by_cases c8 : 0 ≤ (ji7)
 rotate_left
 ·
  rw [if_neg c8] at H
  exact absurd H (by simp)
 rw [if_pos c8] at H
 have c8b0 : decide (0 ≤ (ji7)) = true := decide_eq_true c8
 clear c8
 by_cases c9 : (ji7) < (l0_3.length : Int)
 rotate_left
 ·
  rw [if_neg c9] at H
  exact absurd H (by simp)
 rw [if_pos c9] at H
 have c9b0 : decide ((ji7) < (l0_3.length : Int)) = true := decide_eq_true c9
 clear c9
 obtain ⟨y108, hy108⟩ : ∃ y_ : List Int, y_ = (l0_3.set ((ji7) : Int).toNat a3) := ⟨_, rfl⟩
 replace H : (some y108) = some r := by first | (rw [hy108]; with_reducible exact H) | (have H2_ := (Option.bind_some _ _).symm.trans H; rw [hy108]; with_reducible exact H2_) | (have H2_ := (Option.bind_some _ _).symm.trans H; with_reducible exact H2_) | with_reducible exact H | (rw [hy108]; exact H) | exact H
 have Ny108 := Aside0.mk hy108
 clear hy108
 obtain rfl := Option.some.inj H
 obtain ⟨Ao11, co11, eo11⟩ := Kd.R_slice HO0_3.out
 subst eo11
 go_enter Try.func21, Try.ntmps21
 go_wp2_with (first | ((with_reducible refine gate_dst (N := 4) rfl ?_); refine gbox (N := 4) (cs := #[.int .i64 a0_0, .int .i64 a0_1, .int .i64 a0_2, .slice Ao11 l0_3.length co11]) (t := 25) ?_; intro gb106 hg w12 hbox hb; refine ax6 (Kd.R_below (kr HO0_3) hb) (Kept.below (S := (fun k_ => P0_3_ k_)) (by repeat (first | (with_reducible first | exact HK.out | apply Kept.alloc | apply Kept.drewN | apply Kept.drew) | exact HK.out)) hb) (below_step bel hb) hbox ((by rw [hg]; exact (by first | exact HK.out.1 | exact (show Kept w _ (fun k_ => P0_3_ k_) from by repeat (first | (with_reducible first | exact HK.out | apply Kept.alloc | apply Kept.drewN | apply Kept.drew) | exact HK.out)).1) : w.heap.size ≤ gb106)) ((ge hg : w0.heap.size ≤ gb106)) ?_; clear HO0_3; clear HK; clear HB; intro HO0_3 HK HB BK106 GW106 GE106; clear hb hbox hg; have hcz13_0 := bc BK106 0 rfl; have hcz13_1 := bc BK106 1 rfl; have hcz13_2 := bc BK106 2 rfl; have hcz13_3 := bc BK106 3 rfl; have hfz13_0 := blk_frozen BK106.out 0; have hfz13_1 := blk_frozen BK106.out 1; have hfz13_2 := blk_frozen BK106.out 2; have hfz13_3 := blk_frozen BK106.out 3) | ((with_reducible refine gate_callee (f := 27) rfl ?_); refine goesL_ (some 11) rfl rfl Try.func27 (by kernel_rfl) rfl #[.agg #[.int .i64 a0_0, .int .i64 a0_1, .int .i64 a0_2, .slice Ao11 l0_3.length co11], .int .i64 a1, .int .i64 a2] rfl ga ?_; (with_reducible refine (mat_Matrix_in.calls a0_0 a0_1 a0_2 _ _ l0_3 a1 a2 true _ ?side1 ?side2 A5.out).mono ?_); (case side1 => exact ks HO0_3); (case side2 => exact (Kd.R_reads' HO0_3.out).2.1); rintro e w14 ⟨rfl, hb⟩; refine ⟨_, rfl, ?_⟩; refine ax4 (Kd.R_below (kr HO0_3) hb) (bb BK106 hb) (Kept.below (S := (fun k_ => P0_3_ k_)) (by repeat (first | (with_reducible first | exact HK.out | apply Kept.alloc | apply Kept.drewN | apply Kept.drew | refine Kept.setCell ?_ (.inr GW106.out) _) | exact HK.out)) hb) (below_step bes hb) ?_; clear HO0_3; clear BK106; clear HK; clear HB; intro HO0_3 BK106 HK HB; (try clear hb); have hcz15_0 := bc BK106 0 rfl; have hcz15_1 := bc BK106 1 rfl; have hcz15_2 := bc BK106 2 rfl; have hcz15_3 := bc BK106 3 rfl; have hfz15_0 := blk_frozen BK106.out 0; have hfz15_1 := blk_frozen BK106.out 1; have hfz15_2 := blk_frozen BK106.out 2; have hfz15_3 := blk_frozen BK106.out 3; have p10 : 0 ≤ ((ji7) : Int) := of_decide_eq_true (by first | (with_reducible assumption) | assumption); have q10 : ((ji7) : Int) < ((l0_3.length : Int) : Int) := of_decide_eq_true (by first | (with_reducible assumption) | assumption); obtain ⟨go10, co10, eo10, gb10, gl10, cl10, HG10⟩ := Kd.R_form HO0_3.out (by omega); (first | cases eo10 | (injection eo10 with ea_ en_ ec_; (first | subst ea_ | (injection ea_ with ea_; subst ea_)); subst ec_; clear en_)); have GB10 := Aside0.mk gb10; have GG10 := Aside0.mk HG10; clear gb10 gl10 HG10; have HMgo10 := Aside0.mk (show (P0_3_ go10 ∨ w.heap.size ≤ go10) from (HO0_3.out.1 _ rfl)); obtain ⟨hx10_0, hf10_0⟩ := Kd.R_celln 0 HO0_3.out ((ji7) : Int) p10 q10; replace p10 := eq_true p10; replace q10 := eq_true q10; obtain ⟨hy16_, hz16_⟩ := Kd.R_celln 0 HO0_3.out ((ji7) : Int) (of_decide_eq_true (by first | (with_reducible assumption) | assumption)) (of_decide_eq_true (by first | (with_reducible assumption) | assumption)); have HP16 := Kd.R_putg HO0_3.out ((ji7) : Int) a3) | ((with_reducible refine gate_store (t := 33) (p := 21) rfl ?_); refine store_event (t := 33) (p := 21) (v := ?vo_w17) (w1 := (w14.setCell ⟨go10, ((ji7) : Int).toNat, none⟩ (.int .u64 a3))) ?hg ?ho ?hn ?hr ?_; (case ho => rfl); (case hg => rfl); (case hn => rfl); (case hr => first | (go_simp; done) | (go_simp; rfl)); intro w17 hw; have hg : w14.grownBy w17 (some go10) := (by rw [hw]; exact HP16.2); have hp_ : Kd.R (Kd.int .u64) 33 w17 w0.heap.size (fun k_ => (P0_3_ k_ ∨ w.heap.size ≤ k_)) (.slice (some ⟨go10, 0, none⟩) l0_3.length co11) y108 := (by rw [hw, Ny108.out]; exact HP16.1); clear HP16; refine ax4 hp_ (blk_grown (g := gb106) (o := .cells #[.int .i64 a0_0, .int .i64 a0_1, .int .i64 a0_2, .slice (some ⟨go10, 0, none⟩) l0_3.length co11] 25 (0, 0)) (kb BK106) hg (Kd.R_ne HO0_3.out BK106.out (by decide))) ((by rw [hw]; exact below_set (HB.out) GB10.out : Below w0.heap.size w0 w17)) (Kept.of_grown (S := (fun k_ => P0_3_ k_)) hg (by repeat (first | (with_reducible first | exact HK.out | apply Kept.alloc | apply Kept.drewN | apply Kept.drew | refine Kept.setCell ?_ (.inr GW106.out) _) | exact HK.out)) (fun k_ e_ => (HO0_3.out.1 k_ e_))) ?_; clear HO0_3; clear BK106; clear HB; clear HK; intro HO0_3 BK106 HB HK; clear hg hw hp_))
 first | go_end0 | ((try simp only [Exit.inBlock, Exit.then]); refine bodyPost_ret (results_none rfl _ _ _) rfl ?_)
 exact ⟨by first | rfl | (simp [errW_none, errW_some] <;> rfl) | (simp only [← hji7]; first | rfl | (simp [errW_none, errW_some] <;> rfl)) | (simp [*, errW_none, errW_some] <;> rfl), kr HO0_3, bes, by repeat (first | (with_reducible first | exact HK.out | apply Kept.alloc | apply Kept.drewN | apply Kept.drew | refine Kept.setCell ?_ (.inr GW106.out) _) | exact HK.out)⟩
/-! ### mat_Matrix_At: function 17 -/
def mat_Matrix_At.f (a0_0 : Int) (a0_1 : Int) (a0_2 : Int) (l0_3 : List Int) (a1 : Int) (a2 : Int) : Option (Int) := (mat_Matrix_in.f a0_0 a0_1 a0_2 l0_3 a1 a2).bind fun t110 => (if t110 = true then (if 0 ≤ (wrap64 ((wrap64 (a1 * a0_2)) + a2)) then (if (wrap64 ((wrap64 (a1 * a0_2)) + a2)) < (l0_3.length : Int) then (some (rd l0_3 (wrap64 ((wrap64 (a1 * a0_2)) + a2)))) else (none)) else (none)) else (some 9221120237041090560))
set_option maxHeartbeats 8000000 in
set_option maxRecDepth 100000 in
theorem mat_Matrix_At.calls (a0_0 : Int) (a0_1 : Int) (a0_2 : Int) (A0_3 : Option Addr) (c0_3 : Nat) (l0_3 : List Int) (a1 : Int) (a2 : Int) (r : Int) (w : World) (hr0_3 : Kd.C (Kd.int .u64) w A0_3 l0_3.length l0_3) (hc0_3 : l0_3.length ≤ c0_3) (h : mat_Matrix_At.f a0_0 a0_1 a0_2 l0_3 a1 a2 = some r) :
  Calls Try.prog 17 #[.agg #[.int .i64 a0_0, .int .i64 a0_1, .int .i64 a0_2, .slice A0_3 l0_3.length c0_3], .int .i64 a1, .int .i64 a2] w fun e w' => e = .returned (.int .u64 r) ∧ Below w.heap.size w w' := by
 have hu25 := Try.underlying25
 have HR0_3 := Aside0.mk hr0_3
 have HC0_3 := Aside0.mk hc0_3
 clear hr0_3 hc0_3
 have HB := Aside0.mk (Below.refl w.heap.size w)
 have H : ((mat_Matrix_in.f a0_0 a0_1 a0_2 l0_3 a1 a2).bind fun t110 => (if t110 = true then (if 0 ≤ (wrap64 ((wrap64 (a1 * a0_2)) + a2)) then (if (wrap64 ((wrap64 (a1 * a0_2)) + a2)) < (l0_3.length : Int) then (some (rd l0_3 (wrap64 ((wrap64 (a1 * a0_2)) + a2)))) else (none)) else (none)) else (some 9221120237041090560))) = some r := h
 clear h
 obtain ⟨t110, A40, H⟩ := Option.bind_eq_some_iff.mp H
 (try dsimp -simprocs only at H)
 have A4 := Aside0.mk A40
 clear A40
 by_cases c5 : t110 = true
 rotate_left
 ·
  replace c5 := Bool.eq_false_iff.mpr c5
  subst c5
  rw [if_neg (show ¬ (false = true) by decide)] at H
  obtain rfl := Option.some.inj H
  go_enter Try.func17, Try.ntmps17
  go_wp2_with (first | ((with_reducible refine gate_dst (N := 3) rfl ?_); refine gbox (N := 3) (cs := #[.int .i64 a0_0, .int .i64 a0_1, .int .i64 a0_2, .slice A0_3 l0_3.length c0_3]) (t := 25) ?_; intro gb109 hg w13 hbox hb; refine ax4 (below_step bel hb) hbox ((ge hg : w.heap.size ≤ gb109)) ((ge hg : w.heap.size ≤ gb109)) ?_; clear HB; intro HB BK109 GW109 GE109; clear hb hbox hg; have hcz14_0 := bc BK109 0 rfl; have hcz14_1 := bc BK109 1 rfl; have hcz14_2 := bc BK109 2 rfl; have hcz14_3 := bc BK109 3 rfl; have hfz14_0 := blk_frozen BK109.out 0; have hfz14_1 := blk_frozen BK109.out 1; have hfz14_2 := blk_frozen BK109.out 2; have hfz14_3 := blk_frozen BK109.out 3) | ((with_reducible refine gate_callee (f := 27) rfl ?_); refine goesL_ (some 10) rfl rfl Try.func27 (by kernel_rfl) rfl #[.agg #[.int .i64 a0_0, .int .i64 a0_1, .int .i64 a0_2, .slice A0_3 l0_3.length c0_3], .int .i64 a1, .int .i64 a2] rfl ga ?_; (with_reducible refine (mat_Matrix_in.calls a0_0 a0_1 a0_2 _ _ l0_3 a1 a2 false _ ?side1 ?side2 A4.out).mono ?_); (case side1 => repeat (first | exact (Kd.C_below HR0_3.out HB.out) | (with_reducible refine Kd.C_alloc ?_ _) | (with_reducible refine Kd.C_drewN ?_ _) | (with_reducible refine Kd.C_drew ?_))); (case side2 => exact HC0_3.out); rintro e w15 ⟨rfl, hb⟩; refine ⟨_, rfl, ?_⟩; refine ax2 (bb BK109 hb) (below_step bes hb) ?_; clear BK109; clear HB; intro BK109 HB; (try clear hb)))
  go_ret
  exact ⟨er, bes⟩

 subst c5
 rw [if_pos rfl] at H
 obtain ⟨ji6, hji6⟩ : ∃ j_ : Int, (wrap64 ((wrap64 (a1 * a0_2)) + a2)) = j_ := ⟨_, rfl⟩
 replace H : (if 0 ≤ (ji6) then (if (ji6) < (l0_3.length : Int) then (some (rd l0_3 (ji6))) else (none)) else (none)) = some r := by first | (rw [hji6] at H; exact H) | (simp only [hji6] at H ⊢; exact H)
 (try rw [hji6] at A4)
 have hji6w : (IntKind.i64.wrap ((wrap64 (a1 * a0_2)) + a2)) = ji6 := (i64_w _).trans hji6
 by_cases c7 : 0 ≤ (ji6)
 rotate_left
 ·
  rw [if_neg c7] at H
  exact absurd H (by simp)
 rw [if_pos c7] at H
 have c7b0 : decide (0 ≤ (ji6)) = true := decide_eq_true c7
 clear c7
 by_cases c8 : (ji6) < (l0_3.length : Int)
 rotate_left
 ·
  rw [if_neg c8] at H
  exact absurd H (by simp)
 rw [if_pos c8] at H
 have c8b0 : decide ((ji6) < (l0_3.length : Int)) = true := decide_eq_true c8
 clear c8
 obtain rfl := Option.some.inj H
 go_enter Try.func17, Try.ntmps17
 go_wp2_with (first | ((with_reducible refine gate_dst (N := 3) rfl ?_); refine gbox (N := 3) (cs := #[.int .i64 a0_0, .int .i64 a0_1, .int .i64 a0_2, .slice A0_3 l0_3.length c0_3]) (t := 25) ?_; intro gb109 hg w9 hbox hb; refine ax4 (below_step bel hb) hbox ((ge hg : w.heap.size ≤ gb109)) ((ge hg : w.heap.size ≤ gb109)) ?_; clear HB; intro HB BK109 GW109 GE109; clear hb hbox hg; have hcz10_0 := bc BK109 0 rfl; have hcz10_1 := bc BK109 1 rfl; have hcz10_2 := bc BK109 2 rfl; have hcz10_3 := bc BK109 3 rfl; have hfz10_0 := blk_frozen BK109.out 0; have hfz10_1 := blk_frozen BK109.out 1; have hfz10_2 := blk_frozen BK109.out 2; have hfz10_3 := blk_frozen BK109.out 3) | ((with_reducible refine gate_callee (f := 27) rfl ?_); refine goesL_ (some 10) rfl rfl Try.func27 (by kernel_rfl) rfl #[.agg #[.int .i64 a0_0, .int .i64 a0_1, .int .i64 a0_2, .slice A0_3 l0_3.length c0_3], .int .i64 a1, .int .i64 a2] rfl ga ?_; (with_reducible refine (mat_Matrix_in.calls a0_0 a0_1 a0_2 _ _ l0_3 a1 a2 true _ ?side1 ?side2 A4.out).mono ?_); (case side1 => repeat (first | exact (Kd.C_below HR0_3.out HB.out) | (with_reducible refine Kd.C_alloc ?_ _) | (with_reducible refine Kd.C_drewN ?_ _) | (with_reducible refine Kd.C_drew ?_))); (case side2 => exact HC0_3.out); rintro e w11 ⟨rfl, hb⟩; refine ⟨_, rfl, ?_⟩; refine ax2 (bb BK109 hb) (below_step bes hb) ?_; clear BK109; clear HB; intro BK109 HB; (try clear hb); have hcz12_0 := bc BK109 0 rfl; have hcz12_1 := bc BK109 1 rfl; have hcz12_2 := bc BK109 2 rfl; have hcz12_3 := bc BK109 3 rfl; have hfz12_0 := blk_frozen BK109.out 0; have hfz12_1 := blk_frozen BK109.out 1; have hfz12_2 := blk_frozen BK109.out 2; have hfz12_3 := blk_frozen BK109.out 3; have p111 : 0 ≤ ((ji6) : Int) := of_decide_eq_true (by first | (with_reducible assumption) | assumption); have q111 : (ji6) < (l0_3.length : Int) := of_decide_eq_true (by first | (with_reducible assumption) | assumption); obtain ⟨ad111, e111, hx111_0⟩ := Kd.at_int HR0_3.out (ji6) p111 q111; cases e111; replace hx111_0 := (HB.out.cell (World.block_lt_of_cell? w _ hx111_0)).trans hx111_0; replace p111 := eq_true p111; replace q111 := eq_true q111))
 go_ret
 exact ⟨by first | rfl | (simp [errW_none, errW_some] <;> rfl) | (simp only [← hji6]; first | rfl | (simp [errW_none, errW_some] <;> rfl)) | (simp [*, errW_none, errW_some] <;> rfl), bes⟩
/-! ### word_Exp: function 32 -/
def word_Exp.f (a0 : Int) : Option (Int) := some (wrap64 (Go.bits .and .u64 (a0 / 4503599627370496) 2047))
set_option maxHeartbeats 8000000 in
set_option maxRecDepth 100000 in
theorem word_Exp.calls (a0 : Int) (r : Int) (w : World) (h : word_Exp.f a0 = some r) :
  Calls Try.prog 32 #[.int .u64 a0] w fun e w' => e = .returned (.int .i64 r) ∧ Drawn0 w w' := by
 have H : (some (wrap64 (Go.bits .and .u64 (a0 / 4503599627370496) 2047))) = some r := h
 clear h
 obtain rfl := Option.some.inj H
 go_enter Try.func32, Try.ntmps32
 go_wp2
 go_ret
 exact ⟨by first | rfl | (simp; done) | (simp [*]; done), by repeat (first | exact Drawn0.refl _ | apply Drawn0.step)⟩

/-! ### word_Finite: function 23 -/
def word_Finite.f (a0 : Int) : Option (Bool) := (word_Exp.f a0).bind fun t112 => (some (decide (t112 < 2047)))
set_option maxHeartbeats 8000000 in
set_option maxRecDepth 100000 in
theorem word_Finite.calls (a0 : Int) (r : Bool) (w : World) (h : word_Finite.f a0 = some r) :
  Calls Try.prog 23 #[.int .u64 a0] w fun e w' => e = .returned (.bool r) ∧ Drawn0 w w' := by
 have H : ((word_Exp.f a0).bind fun t112 => (some (decide (t112 < 2047)))) = some r := h
 clear h
 obtain ⟨t112, A20, H⟩ := Option.bind_eq_some_iff.mp H
 (try dsimp -simprocs only at H)
 have A2 := Aside0.mk A20
 clear A20
 obtain rfl := Option.some.inj H
 go_enter Try.func23, Try.ntmps23
 go_wp2_with (first | ((with_reducible refine gate_callee (f := 32) rfl ?_); refine goesL_ (some 4) rfl rfl Try.func32 (by kernel_rfl) rfl #[.int .u64 a0] rfl ga ?_; (with_reducible refine (word_Exp.calls a0 t112 _ A2.out).mono ?_); rintro e w' ⟨rfl, ⟨nd, rfl⟩⟩; refine ⟨_, rfl, ?_⟩))
 go_ret
 exact ⟨by first | rfl | (simp; done) | (simp [*]; done), by repeat (first | exact Drawn0.refl _ | apply Drawn0.step)⟩

/-! ### mat_Matrix_Finite: function 7 -/
mutual
def mat_Matrix_Finite.l0 : Nat → Int → Int → Int → Int → Int → List Int → Option (Bool)
 | 0, _, _, _, _, _, _ => none
 | k + 1, x6, x7, x114000, x114001, x114002, x114003 => if x7 < x6 then (mat_Matrix_Finite.l1 k x7 x6 x7 x114001 0 x114000 x114001 x114002 x114003) else (some true)
def mat_Matrix_Finite.l1 : Nat → Int → Int → Int → Int → Int → Int → Int → Int → List Int → Option (Bool)
 | 0, _, _, _, _, _, _, _, _, _ => none
 | k + 1, x3, x6, x7, x11, x12, x114000, x114001, x114002, x114003 => if x12 < x11 then ((mat_Matrix_At.f x114000 x114001 x114002 x114003 x3 x12).bind fun t114 => ((word_Finite.f t114).bind fun t115 => (if t115 = true then (mat_Matrix_Finite.l1 k x3 x6 x7 x11 (wrap64 (x12 + 1)) x114000 x114001 x114002 x114003) else (some false)))) else (mat_Matrix_Finite.l0 k x6 (wrap64 (x7 + 1)) x114000 x114001 x114002 x114003)
end
def mat_Matrix_Finite.f (k : Nat) (a0_0 : Int) (a0_1 : Int) (a0_2 : Int) (l0_3 : List Int) : Option (Bool) := mat_Matrix_Finite.l0 k a0_0 0 a0_0 a0_1 a0_2 l0_3
theorem mat_Matrix_Finite.mono_l : ∀ k, (∀ y0 y1 y2 y3 y4 y5, LeO (mat_Matrix_Finite.l0 k y0 y1 y2 y3 y4 y5) (mat_Matrix_Finite.l0 (k + 1) y0 y1 y2 y3 y4 y5)) ∧ (∀ y0 y1 y2 y3 y4 y5 y6 y7 y8, LeO (mat_Matrix_Finite.l1 k y0 y1 y2 y3 y4 y5 y6 y7 y8) (mat_Matrix_Finite.l1 (k + 1) y0 y1 y2 y3 y4 y5 y6 y7 y8))
 | 0 => ⟨fun _ _ _ _ _ _ r h => by simp [mat_Matrix_Finite.l0] at h, fun _ _ _ _ _ _ _ _ _ r h => by simp [mat_Matrix_Finite.l1] at h⟩
 | k + 1 => by
  obtain ⟨ih0, ih1⟩ := mat_Matrix_Finite.mono_l k
  refine ⟨?_, ?_⟩ <;> intros <;> (first | unfold mat_Matrix_Finite.l0 | unfold mat_Matrix_Finite.l1) <;>
   repeat' with_reducible first | apply ih0 | apply ih1 | exact LeO.refl _ | exact LeO.none _ | refine LeO.ite ?_ ?_ | refine LeO.bind ?_ (fun _ => ?_)
theorem mat_Matrix_Finite.mono : ∀ a0 a1 a2 a3 k, LeO (mat_Matrix_Finite.f k a0 a1 a2 a3) (mat_Matrix_Finite.f (k + 1) a0 a1 a2 a3) := by
 intro a0 a1 a2 a3 k
 obtain ⟨ih0, ih1⟩ := mat_Matrix_Finite.mono_l k
 unfold mat_Matrix_Finite.f
 repeat' with_reducible first | apply ih0 | apply ih1 | exact LeO.refl _ | exact LeO.none _ | refine LeO.ite ?_ ?_ | refine LeO.bind ?_ (fun _ => ?_)
set_option maxHeartbeats 8000000 in
set_option maxRecDepth 100000 in
theorem mat_Matrix_Finite.calls (k : Nat) (a0_0 : Int) (a0_1 : Int) (a0_2 : Int) (A0_3 : Option Addr) (c0_3 : Nat) (l0_3 : List Int) (r : Bool) (w : World) (hr0_3 : Kd.C (Kd.int .u64) w A0_3 l0_3.length l0_3) (hc0_3 : l0_3.length ≤ c0_3) (h : mat_Matrix_Finite.f k a0_0 a0_1 a0_2 l0_3 = some r) :
  Calls Try.prog 7 #[.agg #[.int .i64 a0_0, .int .i64 a0_1, .int .i64 a0_2, .slice A0_3 l0_3.length c0_3]] w fun e w' => e = .returned (.bool r) ∧ Below w.heap.size w w' := by
 have hu25 := Try.underlying25
 have HR0_3 := Aside0.mk hr0_3
 have HC0_3 := Aside0.mk hc0_3
 clear hr0_3 hc0_3
 have HB := Aside0.mk (Below.refl w.heap.size w)
 have H : (mat_Matrix_Finite.l0 k a0_0 0 a0_0 a0_1 a0_2 l0_3) = some r := h
 clear h
 have H' := Aside0.mk H
 clear H
 go_enter Try.func7, Try.ntmps7
 go_wp2_with (first | ((with_reducible refine gate_dst (N := 1) rfl ?_); refine gbox (N := 1) (cs := #[.int .i64 a0_0, .int .i64 a0_1, .int .i64 a0_2, .slice A0_3 l0_3.length c0_3]) (t := 25) ?_; intro gb113 hg w2 hbox hb; refine ax4 (below_step bel hb) hbox ((ge hg : w.heap.size ≤ gb113)) ((ge hg : w.heap.size ≤ gb113)) ?_; clear HB; intro HB BK113 GW113 GE113; clear hb hbox hg; have hcz3_0 := bc BK113 0 rfl; have hcz3_1 := bc BK113 1 rfl; have hcz3_2 := bc BK113 2 rfl; have hcz3_3 := bc BK113 3 rfl; have hfz3_0 := blk_frozen BK113.out 0; have hfz3_1 := blk_frozen BK113.out 1; have hfz3_2 := blk_frozen BK113.out 2; have hfz3_3 := blk_frozen BK113.out 3))
 go_loopg [7] k (fun kq v7 w' => ∃ (x7_1 : Int), v7 = .int .i64 x7_1 ∧ Aside0 (mat_Matrix_Finite.l0 kq a0_0 x7_1 a0_0 a0_1 a0_2 l0_3 = some r) ∧ Aside0 (kq ≤ k) ∧ Aside0 (w'.heap[gb113]? = some (.cells #[.int .i64 a0_0, .int .i64 a0_1, .int .i64 a0_2, (.slice A0_3 l0_3.length c0_3)] 25 (0, 0))) ∧ Aside0 (Below w.heap.size w w'))
 case atStart => exact ⟨(0), (by first | rfl | (simp; done) | (simp [*]; done)), H', ⟨Nat.le_refl _⟩, ⟨kb BK113⟩, ⟨bes⟩⟩
 case round =>
  clear H'
  try clear p2
  try clear hcz3_0
  try clear hcz3_1
  try clear hcz3_2
  try clear hcz3_3
  try clear hfz3_0
  try clear hfz3_1
  try clear hfz3_2
  try clear hfz3_3
  obtain ⟨x7_1, rfl, HA, HK1, BK113, HB⟩ := hrel
  cases gk with
  | zero => exact absurd HA.out (by simp [mat_Matrix_Finite.l0])
  | succ k1 =>
   have H := HA.out
   clear HA
   simp only [mat_Matrix_Finite.l0] at H
   by_cases c4 : x7_1 < a0_0
   rotate_left
   ·
    rw [if_neg c4] at H
    have c4b0 : decide (x7_1 < a0_0) = false := decide_eq_false c4
    clear c4
    obtain rfl := Option.some.inj H
    go_wp2
    go_ret
    exact ⟨er, bes⟩

   rw [if_pos c4] at H
   have c4b0 : decide (x7_1 < a0_0) = true := decide_eq_true c4
   clear c4
   have H' := Aside0.mk H
   clear H
   have hcz5_0 := bc BK113 0 rfl
   have hcz5_1 := bc BK113 1 rfl
   have hcz5_2 := bc BK113 2 rfl
   have hcz5_3 := bc BK113 3 rfl
   have hfz5_0 := blk_frozen BK113.out 0
   have hfz5_1 := blk_frozen BK113.out 1
   have hfz5_2 := blk_frozen BK113.out 2
   have hfz5_3 := blk_frozen BK113.out 3
   go_wp2
   go_loopg [12] k1 (fun kq v12 w' => ∃ (x12_2 : Int), v12 = .int .i64 x12_2 ∧ Aside0 (mat_Matrix_Finite.l1 kq x7_1 a0_0 x7_1 a0_1 x12_2 a0_0 a0_1 a0_2 l0_3 = some r) ∧ Aside0 (kq ≤ k1) ∧ Aside0 (w'.heap[gb113]? = some (.cells #[.int .i64 a0_0, .int .i64 a0_1, .int .i64 a0_2, (.slice A0_3 l0_3.length c0_3)] 25 (0, 0))) ∧ Aside0 (Below w.heap.size w w'))
   case atStart => exact ⟨(0), (by first | rfl | (simp; done) | (simp [*]; done)), H', ⟨Nat.le_refl _⟩, ⟨kb BK113⟩, ⟨bes⟩⟩
   case round =>
    clear H'
    try clear p2
    try clear c4
    try clear c4b0
    try clear hcz3_0
    try clear hcz3_1
    try clear hcz3_2
    try clear hcz3_3
    try clear hcz5_0
    try clear hcz5_1
    try clear hcz5_2
    try clear hcz5_3
    try clear hfz3_0
    try clear hfz3_1
    try clear hfz3_2
    try clear hfz3_3
    try clear hfz5_0
    try clear hfz5_1
    try clear hfz5_2
    try clear hfz5_3
    try clear p2
    obtain ⟨x12_2, rfl, HA, HK2, BK113, HB⟩ := hrel
    cases gk with
    | zero => exact absurd HA.out (by simp [mat_Matrix_Finite.l1])
    | succ k2 =>
     have H := HA.out
     clear HA
     simp only [mat_Matrix_Finite.l1] at H
     by_cases c6 : x12_2 < a0_1
     rotate_left
     ·
      rw [if_neg c6] at H
      have c6b0 : decide (x12_2 < a0_1) = false := decide_eq_false c6
      clear c6
      have H' := Aside0.mk H
      clear H
      go_wp2
      go_roundg k2
      case measure => have := HK1.out; have := HK2.out; omega
      case rel => exact ⟨(wrap64 (x7_1 + 1)), (by first | rfl | (simp; done) | (simp [*]; done)), H', ⟨by have := HK1.out; have := HK2.out; omega⟩, ⟨kb BK113⟩, ⟨bes⟩⟩
     rw [if_pos c6] at H
     have c6b0 : decide (x12_2 < a0_1) = true := decide_eq_true c6
     clear c6
     obtain ⟨t114, A70, H⟩ := Option.bind_eq_some_iff.mp H
     (try dsimp -simprocs only at H)
     have A7 := Aside0.mk A70
     clear A70
     obtain ⟨t115, A80, H⟩ := Option.bind_eq_some_iff.mp H
     (try dsimp -simprocs only at H)
     have A8 := Aside0.mk A80
     clear A80
     by_cases c9 : t115 = true
     ·
      subst c9
      rw [if_pos rfl] at H
      have H' := Aside0.mk H
      clear H
      have hcz10_0 := bc BK113 0 rfl
      have hcz10_1 := bc BK113 1 rfl
      have hcz10_2 := bc BK113 2 rfl
      have hcz10_3 := bc BK113 3 rfl
      have hfz10_0 := blk_frozen BK113.out 0
      have hfz10_1 := blk_frozen BK113.out 1
      have hfz10_2 := blk_frozen BK113.out 2
      have hfz10_3 := blk_frozen BK113.out 3
      go_wp2_with (first | ((with_reducible refine gate_callee (f := 17) rfl ?_); refine goesL_ (some 18) rfl rfl Try.func17 (by kernel_rfl) rfl #[.agg #[.int .i64 a0_0, .int .i64 a0_1, .int .i64 a0_2, .slice A0_3 l0_3.length c0_3], .int .i64 x7_1, .int .i64 x12_2] rfl ga ?_; (with_reducible refine (mat_Matrix_At.calls a0_0 a0_1 a0_2 _ _ l0_3 x7_1 x12_2 t114 _ ?side1 ?side2 A7.out).mono ?_); (case side1 => repeat (first | exact (Kd.C_below HR0_3.out HB.out) | (with_reducible refine Kd.C_alloc ?_ _) | (with_reducible refine Kd.C_drewN ?_ _) | (with_reducible refine Kd.C_drew ?_))); (case side2 => exact HC0_3.out); rintro e w11 ⟨rfl, hb⟩; refine ⟨_, rfl, ?_⟩; refine ax2 (bb BK113 hb) (below_step bes hb) ?_; clear BK113; clear HB; intro BK113 HB; (try clear hb)) | ((with_reducible refine gate_callee (f := 23) rfl ?_); refine goesL_ (some 19) rfl rfl Try.func23 (by kernel_rfl) rfl #[.int .u64 t114] rfl ga ?_; (with_reducible refine (word_Finite.calls t114 true _ A8.out).mono ?_); rintro e w' ⟨rfl, ⟨nd, rfl⟩⟩; refine ⟨_, rfl, ?_⟩))
      go_roundg k2
      case measure => have := HK1.out; have := HK2.out; omega
      case rel => exact ⟨(wrap64 (x12_2 + 1)), (by first | rfl | (simp; done) | (simp [*]; done)), H', ⟨by have := HK1.out; have := HK2.out; omega⟩, ⟨kb BK113⟩, ⟨bes⟩⟩
     ·
      replace c9 := Bool.eq_false_iff.mpr c9
      subst c9
      rw [if_neg (show ¬ (false = true) by decide)] at H
      obtain rfl := Option.some.inj H
      have hcz12_0 := bc BK113 0 rfl
      have hcz12_1 := bc BK113 1 rfl
      have hcz12_2 := bc BK113 2 rfl
      have hcz12_3 := bc BK113 3 rfl
      have hfz12_0 := blk_frozen BK113.out 0
      have hfz12_1 := blk_frozen BK113.out 1
      have hfz12_2 := blk_frozen BK113.out 2
      have hfz12_3 := blk_frozen BK113.out 3
      go_wp2_with (first | ((with_reducible refine gate_callee (f := 17) rfl ?_); refine goesL_ (some 18) rfl rfl Try.func17 (by kernel_rfl) rfl #[.agg #[.int .i64 a0_0, .int .i64 a0_1, .int .i64 a0_2, .slice A0_3 l0_3.length c0_3], .int .i64 x7_1, .int .i64 x12_2] rfl ga ?_; (with_reducible refine (mat_Matrix_At.calls a0_0 a0_1 a0_2 _ _ l0_3 x7_1 x12_2 t114 _ ?side1 ?side2 A7.out).mono ?_); (case side1 => repeat (first | exact (Kd.C_below HR0_3.out HB.out) | (with_reducible refine Kd.C_alloc ?_ _) | (with_reducible refine Kd.C_drewN ?_ _) | (with_reducible refine Kd.C_drew ?_))); (case side2 => exact HC0_3.out); rintro e w13 ⟨rfl, hb⟩; refine ⟨_, rfl, ?_⟩; refine ax2 (bb BK113 hb) (below_step bes hb) ?_; clear BK113; clear HB; intro BK113 HB; (try clear hb)) | ((with_reducible refine gate_callee (f := 23) rfl ?_); refine goesL_ (some 19) rfl rfl Try.func23 (by kernel_rfl) rfl #[.int .u64 t114] rfl ga ?_; (with_reducible refine (word_Finite.calls t114 false _ A8.out).mono ?_); rintro e w' ⟨rfl, ⟨nd, rfl⟩⟩; refine ⟨_, rfl, ?_⟩))
      go_ret
      exact ⟨er, bes⟩
/-! ### mat_Matrix_Turn: function 10 -/
mutual
def mat_Matrix_Turn.l0 : Nat → Int → Int → Int → Int → Int → List Int → Int → Int → Int → List Int → Option (Int × Int × Int × List Int)
 | 0, _, _, _, _, _, _, _, _, _, _ => none
 | k + 1, x12, x13, x117000, x117001, x117002, x117003, x125000, x125001, x125002, x125003 => if x13 < x12 then (mat_Matrix_Turn.l1 k x13 x12 x13 x125001 0 x117000 x117001 x117002 x117003 x125000 x125001 x125002 x125003) else (some (x125000, x125001, x125002, x125003))
def mat_Matrix_Turn.l1 : Nat → Int → Int → Int → Int → Int → Int → Int → Int → List Int → Int → Int → Int → List Int → Option (Int × Int × Int × List Int)
 | 0, _, _, _, _, _, _, _, _, _, _, _, _, _ => none
 | k + 1, x4, x12, x13, x17, x18, x117000, x117001, x117002, x117003, x125000, x125001, x125002, x125003 => if x18 < x17 then ((mat_Matrix_At.f x117000 x117001 x117002 x117003 x18 x4).bind fun t125 => ((mat_Matrix_Set.f x125000 x125001 x125002 x125003 x4 x18 t125).bind fun t126 => (mat_Matrix_Turn.l1 k x4 x12 x13 x17 (wrap64 (x18 + 1)) x117000 x117001 x117002 x117003 x125000 x125001 x125002 t126))) else (mat_Matrix_Turn.l0 k x12 (wrap64 (x13 + 1)) x117000 x117001 x117002 x117003 x125000 x125001 x125002 x125003)
end
def mat_Matrix_Turn.f (k : Nat) (a0_0 : Int) (a0_1 : Int) (a0_2 : Int) (l0_3 : List Int) : Option (Int × Int × Int × List Int) := (mat_New.f a0_1 a0_0).bind fun bt118 => (mat_Matrix_Turn.l0 k bt118.1 0 a0_0 a0_1 a0_2 l0_3 bt118.1 bt118.2.1 bt118.2.2.1 bt118.2.2.2)
theorem mat_Matrix_Turn.mono_l : ∀ k, (∀ y0 y1 y2 y3 y4 y5 y6 y7 y8 y9, LeO (mat_Matrix_Turn.l0 k y0 y1 y2 y3 y4 y5 y6 y7 y8 y9) (mat_Matrix_Turn.l0 (k + 1) y0 y1 y2 y3 y4 y5 y6 y7 y8 y9)) ∧ (∀ y0 y1 y2 y3 y4 y5 y6 y7 y8 y9 y10 y11 y12, LeO (mat_Matrix_Turn.l1 k y0 y1 y2 y3 y4 y5 y6 y7 y8 y9 y10 y11 y12) (mat_Matrix_Turn.l1 (k + 1) y0 y1 y2 y3 y4 y5 y6 y7 y8 y9 y10 y11 y12))
 | 0 => ⟨fun _ _ _ _ _ _ _ _ _ _ r h => by simp [mat_Matrix_Turn.l0] at h, fun _ _ _ _ _ _ _ _ _ _ _ _ _ r h => by simp [mat_Matrix_Turn.l1] at h⟩
 | k + 1 => by
  obtain ⟨ih0, ih1⟩ := mat_Matrix_Turn.mono_l k
  refine ⟨?_, ?_⟩ <;> intros <;> (first | unfold mat_Matrix_Turn.l0 | unfold mat_Matrix_Turn.l1) <;>
   repeat' with_reducible first | apply ih0 | apply ih1 | exact LeO.refl _ | exact LeO.none _ | refine LeO.ite ?_ ?_ | refine LeO.bind ?_ (fun _ => ?_)
theorem mat_Matrix_Turn.mono : ∀ a0 a1 a2 a3 k, LeO (mat_Matrix_Turn.f k a0 a1 a2 a3) (mat_Matrix_Turn.f (k + 1) a0 a1 a2 a3) := by
 intro a0 a1 a2 a3 k
 obtain ⟨ih0, ih1⟩ := mat_Matrix_Turn.mono_l k
 unfold mat_Matrix_Turn.f
 repeat' with_reducible first | apply ih0 | apply ih1 | exact LeO.refl _ | exact LeO.none _ | refine LeO.ite ?_ ?_ | refine LeO.bind ?_ (fun _ => ?_)
def mat_Matrix_Turn.T8 : Bool × List (List Nat × List Nat) := (true, [([], []), ([], []), ([], []), ([], []), ([], []), ([], []), ([3, 4, 5], [3, 4, 5]), ([0, 1, 2, 6, 6], [0, 1, 2, 6])])
def mat_Matrix_Turn.B8 : List Nat := [0, 0, 0, 0, 0, 0, 56, 127]
theorem mat_Matrix_Turn.tab8 : rtab .any (opsOf Try.f10 8) = mat_Matrix_Turn.T8 := by kernel_rfl
theorem mat_Matrix_Turn.bits8 : waitsOk mat_Matrix_Turn.T8.2 mat_Matrix_Turn.B8 = true := by kernel_rfl
set_option maxHeartbeats 8000000 in
set_option maxRecDepth 100000 in
theorem mat_Matrix_Turn.calls (k : Nat) (a0_0 : Int) (a0_1 : Int) (a0_2 : Int) (A0_3 : Option Addr) (c0_3 : Nat) (l0_3 : List Int) (r1 : Int) (r2 : Int) (r3 : Int) (r4 : List Int) (w : World) (hr0_3 : Kd.C (Kd.int .u64) w A0_3 l0_3.length l0_3) (hc0_3 : l0_3.length ≤ c0_3) (h : mat_Matrix_Turn.f k a0_0 a0_1 a0_2 l0_3 = some (r1, r2, r3, r4)) :
  Calls Try.prog 10 #[.agg #[.int .i64 a0_0, .int .i64 a0_1, .int .i64 a0_2, .slice A0_3 l0_3.length c0_3]] w fun e w' => ∃ v3_ : Value, e = .returned (.agg #[.int .i64 r1, .int .i64 r2, .int .i64 r3, v3_]) ∧ Kd.R (Kd.int .u64) 33 w' w.heap.size (fun _ => True) v3_ r4 ∧ Below w.heap.size w w' := by
 have hu25 := Try.underlying25
 have HR0_3 := Aside0.mk hr0_3
 have HC0_3 := Aside0.mk hc0_3
 clear hr0_3 hc0_3
 have HB := Aside0.mk (Below.refl w.heap.size w)
 have H : ((mat_New.f a0_1 a0_0).bind fun bt118 => (mat_Matrix_Turn.l0 k bt118.1 0 a0_0 a0_1 a0_2 l0_3 bt118.1 bt118.2.1 bt118.2.2.1 bt118.2.2.2)) = some (r1, r2, r3, r4) := h
 clear h
 obtain ⟨⟨t118, t119, t120, t121⟩, A20, H⟩ := Option.bind_eq_some_iff.mp H
 (try dsimp -simprocs only at H)
 have A2 := Aside0.mk A20
 clear A20
 have H' := Aside0.mk H
 clear H
 go_enter Try.func10, Try.ntmps10
 go_wp2_with (first | ((with_reducible refine gate_dst (N := 1) rfl ?_); refine gbox (N := 1) (cs := #[.int .i64 a0_0, .int .i64 a0_1, .int .i64 a0_2, .slice A0_3 l0_3.length c0_3]) (t := 25) ?_; intro gb116 hg w3 hbox hb; refine ax4 (below_step bel hb) hbox ((ge hg : w.heap.size ≤ gb116)) ((ge hg : w.heap.size ≤ gb116)) ?_; clear HB; intro HB BK116 GW116 GE116; clear hb hbox hg) | ((with_reducible refine gate_dst (N := 2) rfl ?_); refine gbox (N := 2) (cs := #[.int .i64 0, .int .i64 0, .int .i64 0, .slice none 0 0]) (t := 25) ?_; intro gb117 hg w4 hbox hb; refine ax7 (bb BK116 hb) (below_step bes hb) hbox ((ge hg : w.heap.size ≤ gb117)) ((ge hg : w.heap.size ≤ gb117)) (nl hg BK116) (ng hg BK116) ?_; clear BK116; clear HB; intro BK116 HB BK117 GW117 GE117 NB116_117 NB117_116; clear hb hbox hg; have hnb5 := NB116_117.out; have hnc5 := NB117_116.out; have hcz6_0 := bc BK116 0 rfl; have hcz6_1 := bc BK116 1 rfl; have hcz6_2 := bc BK116 2 rfl; have hcz6_3 := bc BK116 3 rfl; have hfz6_0 := blk_frozen BK116.out 0; have hfz6_1 := blk_frozen BK116.out 1; have hfz6_2 := blk_frozen BK116.out 2; have hfz6_3 := blk_frozen BK116.out 3) | ((with_reducible refine gate_callee (f := 20) rfl ?_); refine goesL_ (some 10) rfl rfl Try.func20 (by kernel_rfl) rfl #[.int .i64 a0_1, .int .i64 a0_0] rfl ga ?_; (with_reducible refine (mat_New.calls a0_1 a0_0 t118 t119 t120 t121 _ A2.out).mono ?_); rintro e w7 ⟨v122, rfl, ho0, hb⟩; refine ⟨_, rfl, ?_⟩; refine ax4 (Kd.R_lower ho0 (below_size bes)) (bb BK116 hb) (bb BK117 hb) (below_step bes hb) ?_; clear BK116; clear BK117; clear HB; intro HO123 BK116 BK117 HB; (try clear hb); (try clear ho0)) | ((with_reducible refine gate_dst (N := 3) rfl ?_); refine gbox (N := 3) (cs := #[.int .i64 0, .int .i64 0, .int .i64 0, .slice none 0 0]) (t := 25) ?_; intro gb124 hg w8 hbox hb; refine ax11 (Kd.R_below (kr HO123) hb) (bb BK116 hb) (bb BK117 hb) (below_step bes hb) hbox ((ge hg : w.heap.size ≤ gb124)) ((ge hg : w.heap.size ≤ gb124)) (nl hg BK116) (ng hg BK116) (nl hg BK117) (ng hg BK117) ?_; clear HO123; clear BK116; clear BK117; clear HB; intro HO123 BK116 BK117 HB BK124 GW124 GE124 NB116_124 NB124_116 NB117_124 NB124_117; clear hb hbox hg; have hnb9 := NB124_116.out; have hnc9 := NB116_124.out; have hnb10 := NB124_117.out; have hnc10 := NB117_124.out; have hcz11_0 := bc BK124 0 rfl; have hcz11_1 := bc BK124 1 rfl; have hcz11_2 := bc BK124 2 rfl; have hcz11_3 := bc BK124 3 rfl; have hfz11_0 := blk_frozen BK124.out 0; have hfz11_1 := blk_frozen BK124.out 1; have hfz11_2 := blk_frozen BK124.out 2; have hfz11_3 := blk_frozen BK124.out 3; obtain ⟨Ao12, co12, eo12⟩ := Kd.R_slice HO123.out; subst eo12))
 go_loopg [13] k (fun kq v13 w' => ∃ (x13_1 : Int) (x125003_1 : List Int) (u125003 : Value), v13 = .int .i64 x13_1 ∧ Aside0 (mat_Matrix_Turn.l0 kq t118 x13_1 a0_0 a0_1 a0_2 l0_3 t118 t119 t120 x125003_1 = some (r1, r2, r3, r4)) ∧ Aside0 (kq ≤ k) ∧ Aside0 (Kd.R (Kd.int .u64) 33 w' w.heap.size (fun _ => True) u125003 x125003_1) ∧ Aside0 (w'.heap[gb116]? = some (.cells #[.int .i64 a0_0, .int .i64 a0_1, .int .i64 a0_2, (.slice A0_3 l0_3.length c0_3)] 25 (0, 0))) ∧ Aside0 (w'.heap[gb117]? = some (.cells #[.int .i64 0, .int .i64 0, .int .i64 0, (.slice none 0 0)] 25 (0, 0))) ∧ Aside0 (w'.heap[gb124]? = some (.cells #[.int .i64 t118, .int .i64 t119, .int .i64 t120, u125003] 25 (0, 0))) ∧ Aside0 (Below w.heap.size w w'))
 case atStart => exact ⟨(0), (t121), (.slice Ao12 t121.length co12), (by first | rfl | (simp; done) | (simp [*]; done)), H', ⟨Nat.le_refl _⟩, ⟨by (with_reducible repeat (first | apply Kd.R_alloc | apply Kd.R_drewN | apply Kd.R_drew)); exact Kd.R_mono (Kd.R_far (p := ⟨gb124, 3, none⟩) (Kd.R_far (p := ⟨gb124, 2, none⟩) (Kd.R_far (p := ⟨gb124, 1, none⟩) (Kd.R_far (p := ⟨gb124, 0, none⟩) (Kd.R_types HO123.out BK124.out (by decide)) (fun _ hk => hk.2) (.int .i64 t118)) (fun _ hk => hk.2) (.int .i64 t119)) (fun _ hk => hk.2) (.int .i64 t120)) (fun _ hk => hk.2) (.slice Ao12 t121.length co12)) (fun _ hk => trivial)⟩, ⟨bf BK116 NB116_124⟩, ⟨bf BK117 NB117_124⟩, ⟨bp BK124⟩, ⟨bes⟩⟩
 case round =>
  clear H'
  try clear c1
  try clear c2
  try clear p2
  try clear c5
  try clear c9
  try clear c10
  try clear hcz11_0
  try clear hcz11_1
  try clear hcz11_2
  try clear hcz11_3
  try clear hcz6_0
  try clear hcz6_1
  try clear hcz6_2
  try clear hcz6_3
  try clear hfz11_0
  try clear hfz11_1
  try clear hfz11_2
  try clear hfz11_3
  try clear hfz6_0
  try clear hfz6_1
  try clear hfz6_2
  try clear hfz6_3
  obtain ⟨x13_1, x125003_1, u125003, rfl, HA, HK1, HO_125003, BK116, BK117, BK124, HB⟩ := hrel
  cases gk with
  | zero => exact absurd HA.out (by simp [mat_Matrix_Turn.l0])
  | succ k1 =>
   have H := HA.out
   clear HA
   simp only [mat_Matrix_Turn.l0] at H
   by_cases c13 : x13_1 < t118
   ·
    rw [if_pos c13] at H
    have c13b0 : decide (x13_1 < t118) = true := decide_eq_true c13
    clear c13
    have H' := Aside0.mk H
    clear H
    have hnb14 := NB124_116.out
    have hnc14 := NB116_124.out
    have hnb15 := NB124_117.out
    have hnc15 := NB117_124.out
    have hcz16_0 := bc BK124 0 rfl
    have hcz16_1 := bc BK124 1 rfl
    have hcz16_2 := bc BK124 2 rfl
    have hcz16_3 := bc BK124 3 rfl
    have hfz16_0 := blk_frozen BK124.out 0
    have hfz16_1 := blk_frozen BK124.out 1
    have hfz16_2 := blk_frozen BK124.out 2
    have hfz16_3 := blk_frozen BK124.out 3
    go_wp2
    go_loopg [18] k1 (fun kq v18 w' => ∃ (x18_2 : Int) (x125003_2 : List Int) (u125003 : Value), v18 = .int .i64 x18_2 ∧ Aside0 (mat_Matrix_Turn.l1 kq x13_1 t118 x13_1 t119 x18_2 a0_0 a0_1 a0_2 l0_3 t118 t119 t120 x125003_2 = some (r1, r2, r3, r4)) ∧ Aside0 (kq ≤ k1) ∧ Aside0 (Kd.R (Kd.int .u64) 33 w' w.heap.size (fun _ => True) u125003 x125003_2) ∧ Aside0 (w'.heap[gb116]? = some (.cells #[.int .i64 a0_0, .int .i64 a0_1, .int .i64 a0_2, (.slice A0_3 l0_3.length c0_3)] 25 (0, 0))) ∧ Aside0 (w'.heap[gb117]? = some (.cells #[.int .i64 0, .int .i64 0, .int .i64 0, (.slice none 0 0)] 25 (0, 0))) ∧ Aside0 (w'.heap[gb124]? = some (.cells #[.int .i64 t118, .int .i64 t119, .int .i64 t120, u125003] 25 (0, 0))) ∧ Aside0 (Below w.heap.size w w'))
    case atStart => exact ⟨(0), (x125003_1), (u125003), (by first | rfl | (simp; done) | (simp [*]; done)), H', ⟨Nat.le_refl _⟩, ⟨kr HO_125003⟩, ⟨kb BK116⟩, ⟨kb BK117⟩, ⟨kb BK124⟩, ⟨bes⟩⟩
    case round =>
     clear H'
     try clear c1
     try clear c2
     try clear p2
     try clear c5
     try clear c9
     try clear c10
     try clear c13
     try clear c13b0
     try clear c14
     try clear c15
     try clear hcz11_0
     try clear hcz11_1
     try clear hcz11_2
     try clear hcz11_3
     try clear hcz16_0
     try clear hcz16_1
     try clear hcz16_2
     try clear hcz16_3
     try clear hcz6_0
     try clear hcz6_1
     try clear hcz6_2
     try clear hcz6_3
     try clear hfz11_0
     try clear hfz11_1
     try clear hfz11_2
     try clear hfz11_3
     try clear hfz16_0
     try clear hfz16_1
     try clear hfz16_2
     try clear hfz16_3
     try clear hfz6_0
     try clear hfz6_1
     try clear hfz6_2
     try clear hfz6_3
     try clear p2
     obtain ⟨x18_2, x125003_2, u125003, rfl, HA, HK2, HO_125003, BK116, BK117, BK124, HB⟩ := hrel
     cases gk with
     | zero => exact absurd HA.out (by simp [mat_Matrix_Turn.l1])
     | succ k2 =>
      have H := HA.out
      clear HA
      simp only [mat_Matrix_Turn.l1] at H
      by_cases c17 : x18_2 < t119
      rotate_left
      ·
       rw [if_neg c17] at H
       have c17b0 : decide (x18_2 < t119) = false := decide_eq_false c17
       clear c17
       have H' := Aside0.mk H
       clear H
       go_wp2
       go_roundg k2
       case measure => have := HK1.out; have := HK2.out; omega
       case rel => exact ⟨(wrap64 (x13_1 + 1)), (x125003_2), (u125003), (by first | rfl | (simp; done) | (simp [*]; done)), H', ⟨by have := HK1.out; have := HK2.out; omega⟩, ⟨kr HO_125003⟩, ⟨kb BK116⟩, ⟨kb BK117⟩, ⟨kb BK124⟩, ⟨bes⟩⟩
      rw [if_pos c17] at H
      have c17b0 : decide (x18_2 < t119) = true := decide_eq_true c17
      clear c17
      obtain ⟨t125, A180, H⟩ := Option.bind_eq_some_iff.mp H
      (try dsimp -simprocs only at H)
      have A18 := Aside0.mk A180
      clear A180
      obtain ⟨t126, A190, H⟩ := Option.bind_eq_some_iff.mp H
      (try dsimp -simprocs only at H)
      have A19 := Aside0.mk A190
      clear A190
      have H' := Aside0.mk H
      clear H
      try go_wp2
      refine ax5 (Kd.R_drew HO_125003.out) (blk_drew BK116.out) (blk_drew BK117.out) (blk_drew BK124.out) (below_drew1 HB.out) ?_
      clear HO_125003 BK116 BK117 BK124 HB
      intro HO_125003 BK116 BK117 BK124 HB
      refine start_ (n := 8) (S := fun w' => w'.cell? ⟨gb124, 0, none⟩ = some (.int .i64 t118) ∧ w'.cell? ⟨gb124, 1, none⟩ = some (.int .i64 t119) ∧ w'.cell? ⟨gb124, 2, none⟩ = some (.int .i64 t120) ∧ w'.cell? ⟨gb124, 3, none⟩ = some (u125003) ∧ w'.cell? ⟨gb116, 0, none⟩ = some (.int .i64 a0_0) ∧ w'.cell? ⟨gb116, 1, none⟩ = some (.int .i64 a0_1) ∧ w'.cell? ⟨gb116, 2, none⟩ = some (.int .i64 a0_2) ∧ w'.cell? ⟨gb116, 3, none⟩ = some (.slice A0_3 l0_3.length c0_3)) (ds := []) #[false, false, false, false, false, false, false, false] (by kernel_rfl) rfl rfl ⟨bk BK124 0, bk BK124 1, bk BK124 2, bk BK124 3, bk BK116 0, bk BK116 1, bk BK116 2, bk BK116 3⟩ (fun hHeld => ?_); refine with_tabW mat_Matrix_Turn.tab8 mat_Matrix_Turn.bits8 (fun HT_ HW_ => ?_)
      generalize wr.drew = w20 at HO_125003 BK116 BK117 BK124 HB hHeld ⊢
      refine pu 1 22 (lm 8 2) HT_ ?_
      refine pu 2 23 (lm 8 6) HT_ ?_
      refine pu 4 25 (lm 8 22) HT_ ?_
      refine pu 5 26 (lm 8 54) HT_ ?_
      refine ta 0 21 (lm 8 55) HT_ HW_ hHeld ?_
      refine ta 3 24 (lm 8 63) HT_ HW_ hHeld ?_
      refine on 6 (some 27) (lm 8 127) HT_ (fun K hK => ?_)
      refine goes_ Try.func17 (by kernel_rfl) rfl #[.agg #[.int .i64 a0_0, .int .i64 a0_1, .int .i64 a0_2, .slice A0_3 l0_3.length c0_3], .int .i64 x18_2, .int .i64 x13_1] (by rfl) rfl rfl ga ?_
      with_reducible refine (mat_Matrix_At.calls a0_0 a0_1 a0_2 _ _ l0_3 x18_2 x13_1 t125 _ ?side1 ?side2 A18.out).mono ?_
      (case side1 => repeat (first | exact (Kd.C_below HR0_3.out HB.out) | (with_reducible refine Kd.C_alloc ?_ _) | (with_reducible refine Kd.C_drewN ?_ _) | (with_reducible refine Kd.C_drew ?_)))
      (case side2 => exact HC0_3.out)
      rintro e w21 ⟨rfl, hb⟩
      refine ⟨_, rfl, ?_⟩
      refine ax5 (Kd.R_below (kr HO_125003) hb) (bb BK116 hb) (bb BK117 hb) (bb BK124 hb) (below_step bes hb) ?_
      clear HO_125003 BK116 BK117 BK124 HB
      intro HO_125003 BK116 BK117 BK124 HB
      (try clear hb)
      (try clear hb2)
      (try clear hk)
      (try clear hi)
      obtain ⟨Ao22, co22, eo22⟩ := Kd.R_slice HO_125003.out
      (first | subst eo22 | (injection eo22 with f1_ f2_ f3_; have f4_ := f1_.symm; have f5_ := f3_.symm; clear f1_ f2_ f3_; subst f4_; subst f5_))
      refine hK.out _ _ ⟨bk BK124 0, bk BK124 1, bk BK124 2, bk BK124 3, bk BK116 0, bk BK116 1, bk BK116 2, bk BK116 3⟩ (fun hHeld => ?_)
      clear hK K
      refine no 27 ?_
      refine on 7 (some 28) (lm 8 255) HT_ (fun K hK => ?_)
      refine goes_ Try.func21 (by kernel_rfl) rfl #[.agg #[.int .i64 t118, .int .i64 t119, .int .i64 t120, .slice Ao22 x125003_2.length co22], .int .i64 x13_1, .int .i64 x18_2, .int .u64 t125] (by rfl) rfl rfl ga ?_
      with_reducible refine (mat_Matrix_Set.calls t118 t119 t120 (fun k_ => some k_ = (.slice Ao22 x125003_2.length co22 : Value).ownBlock) (.slice Ao22 x125003_2.length co22) x125003_2 x13_1 x18_2 t125 t126 w _ ?side1 ?side2 A19.out).mono ?_
      (case side1 => repeat (first | (with_reducible first | exact HB.out | apply below_alloc | apply pw_below_drewN | apply below_drew1 | refine below_set ?_ GE116.out | refine below_set ?_ GE117.out | refine below_set ?_ GE124.out) | exact HB.out))
      (case side2 => exact Kd.R_tight rfl HO_125003.out)
      rintro e w23 ⟨rfl, hy0, hb, hkp⟩
      refine ⟨_, rfl, ?_⟩
      refine ax5 (Kd.R_reok rfl hy0 (fun k_ e_ => HO_125003.out.1 k_ e_)) (blk_kept (kb BK116) hkp (fun hs_ => (fun e_ => (Kd.R_ne HO_125003.out BK116.out (by decide)) e_) hs_)) (blk_kept (kb BK117) hkp (fun hs_ => (fun e_ => (Kd.R_ne HO_125003.out BK117.out (by decide)) e_) hs_)) (blk_kept (kb BK124) hkp (fun hs_ => (fun e_ => (Kd.R_ne HO_125003.out BK124.out (by decide)) e_) hs_)) hb ?_
      clear HO_125003 BK116 BK117 BK124 HB
      intro HO_125003 BK116 BK117 BK124 HB
      (try clear hb)
      (try clear hkp)
      (try clear hy0)
      refine hK.out _ _ ⟨bk BK124 0, bk BK124 1, bk BK124 2, bk BK124 3, bk BK116 0, bk BK116 1, bk BK116 2, bk BK116 3⟩ (fun hHeld => ?_)
      clear hK K
      refine no 28 ?_
      refine done_ (done_of HT_.out (by kernel_rfl)) ?_
      try go_wp2
      go_roundg k2
      case measure => have := HK1.out; have := HK2.out; omega
      case rel => exact ⟨(wrap64 (x18_2 + 1)), (t126), (.slice Ao22 x125003_2.length co22), (by first | rfl | (simp; done) | (simp [*]; done)), H', ⟨by have := HK1.out; have := HK2.out; omega⟩, ⟨kr HO_125003⟩, ⟨kb BK116⟩, ⟨kb BK117⟩, ⟨kb BK124⟩, ⟨bes⟩⟩
   ·
    rw [if_neg c13] at H
    have c13b0 : decide (x13_1 < t118) = false := decide_eq_false c13
    clear c13
    simp only [Option.some.injEq, Prod.mk.injEq] at H
    obtain ⟨rfl, rfl, rfl, rfl⟩ := H
    have hnb24 := NB124_116.out
    have hnc24 := NB116_124.out
    have hnb25 := NB124_117.out
    have hnc25 := NB117_124.out
    have hcz26_0 := bc BK124 0 rfl
    have hcz26_1 := bc BK124 1 rfl
    have hcz26_2 := bc BK124 2 rfl
    have hcz26_3 := bc BK124 3 rfl
    have hfz26_0 := blk_frozen BK124.out 0
    have hfz26_1 := blk_frozen BK124.out 1
    have hfz26_2 := blk_frozen BK124.out 2
    have hfz26_3 := blk_frozen BK124.out 3
    have hnb27 := NB117_116.out
    have hnc27 := NB116_117.out
    have hcz28_0 := bc BK117 0 rfl
    have hcz28_1 := bc BK117 1 rfl
    have hcz28_2 := bc BK117 2 rfl
    have hcz28_3 := bc BK117 3 rfl
    have hfz28_0 := blk_frozen BK117.out 0
    have hfz28_1 := blk_frozen BK117.out 1
    have hfz28_2 := blk_frozen BK117.out 2
    have hfz28_3 := blk_frozen BK117.out 3
    obtain ⟨Ao29, co29, eo29⟩ := Kd.R_slice HO_125003.out
    subst eo29
    go_wp2
    refine bodyPost_ret (results_cell_row rfl _ _ gb117 25 #[.int .i64 t118, .int .i64 t119, .int .i64 t120, .slice Ao29 x125003_1.length co29] (0, 0) _ rfl (bp BK117) Try.underlying25 rfl (by kernel_rfl)) rfl ?_
    exact ⟨_, er, by (with_reducible repeat (first | apply Kd.R_alloc | apply Kd.R_drewN | apply Kd.R_drew)); exact Kd.R_mono (Kd.R_far (p := ⟨gb117, 3, none⟩) (Kd.R_far (p := ⟨gb117, 2, none⟩) (Kd.R_far (p := ⟨gb117, 1, none⟩) (Kd.R_far (p := ⟨gb117, 0, none⟩) (Kd.R_types HO_125003.out BK117.out (by decide)) (fun _ hk => hk.2) (.int .i64 t118)) (fun _ hk => hk.2) (.int .i64 t119)) (fun _ hk => hk.2) (.int .i64 t120)) (fun _ hk => hk.2) (.slice Ao29 x125003_1.length co29)) (fun _ hk => trivial), bes⟩

/-! ### word_Abs: function 12 -/
def word_Abs.f (a0 : Int) : Option (Int) := some (Go.bits .andNot .u64 a0 9223372036854775808)
set_option maxHeartbeats 8000000 in
set_option maxRecDepth 100000 in
theorem word_Abs.calls (a0 : Int) (r : Int) (w : World) (h : word_Abs.f a0 = some r) :
  Calls Try.prog 12 #[.int .u64 a0] w fun e w' => e = .returned (.int .u64 r) ∧ Drawn0 w w' := by
 have H : (some (Go.bits .andNot .u64 a0 9223372036854775808)) = some r := h
 clear h
 obtain rfl := Option.some.inj H
 go_enter Try.func12, Try.ntmps12
 go_wp2
 go_ret
 exact ⟨by first | rfl | (simp; done) | (simp [*]; done), by repeat (first | exact Drawn0.refl _ | apply Drawn0.step)⟩

/-! ### soft_Calc_note_nil: function 28 -/
def soft_Calc_note_nil.f  (a1 : Int) (a2 : Int) : Option (Int) := some a1
set_option maxHeartbeats 8000000 in
set_option maxRecDepth 100000 in
theorem soft_Calc_note_nil.calls  (a1 : Int) (a2 : Int) (r : Int) (w : World) (h : soft_Calc_note_nil.f a1 a2 = some r) :
  Calls Try.prog 28 #[.pointer none, .int .u64 a1, .int .u8 a2] w fun e w' => e = .returned (.int .u64 r) ∧ Drawn0 w w' := by
 have H : (some a1) = some r := h
 clear h
 obtain rfl := Option.some.inj H
 go_enter Try.func28, Try.ntmps28
 go_wp2
 go_ret
 exact ⟨by first | rfl | (simp; done) | (simp [*]; done), by repeat (first | exact Drawn0.refl _ | apply Drawn0.step)⟩

/-! ### word_Frac: function 46 -/
def word_Frac.f (a0 : Int) : Option (Int) := some (Go.bits .and .u64 a0 4503599627370495)
set_option maxHeartbeats 8000000 in
set_option maxRecDepth 100000 in
theorem word_Frac.calls (a0 : Int) (r : Int) (w : World) (h : word_Frac.f a0 = some r) :
  Calls Try.prog 46 #[.int .u64 a0] w fun e w' => e = .returned (.int .u64 r) ∧ Drawn0 w w' := by
 have H : (some (Go.bits .and .u64 a0 4503599627370495)) = some r := h
 clear h
 obtain rfl := Option.some.inj H
 go_enter Try.func46, Try.ntmps46
 go_wp2
 go_ret
 exact ⟨by first | rfl | (simp; done) | (simp [*]; done), by repeat (first | exact Drawn0.refl _ | apply Drawn0.step)⟩

/-! ### word_Kind: function 35 -/
def word_Kind.j0 : Nat → Int → Int → Bool → Option (Int)
 | 0, _, _, _ => none
 | k + 1, x3, x4, x9 => if x9 = true then (some 1) else (if x3 = 0 then (some 2) else (if x3 < 2047 then (some 3) else (if x4 = 0 then (some 4) else (some 5))))
def word_Kind.f (k : Nat) (a0 : Int) : Option (Int) := (word_Exp.f a0).bind fun t127 => ((word_Frac.f a0).bind fun t128 => (if t127 = 0 then (word_Kind.j0 k t127 t128 (t128 == 0)) else (word_Kind.j0 k t127 t128 false)))
theorem word_Kind.mono_l : ∀ k, (∀ y0 y1 y2, LeO (word_Kind.j0 k y0 y1 y2) (word_Kind.j0 (k + 1) y0 y1 y2))
 | 0 => fun _ _ _ r h => by simp [word_Kind.j0] at h
 | k + 1 => by
  have ih0 := word_Kind.mono_l k
  ·
   intro y0 y1 y2
   unfold word_Kind.j0
   repeat' with_reducible first | apply ih0 | exact LeO.refl _ | exact LeO.none _ | refine LeO.ite ?_ ?_ | refine LeO.bind ?_ (fun _ => ?_)
theorem word_Kind.mono : ∀ a0 k, LeO (word_Kind.f k a0) (word_Kind.f (k + 1) a0) := by
 intro a0 k
 have ih0 := word_Kind.mono_l k
 unfold word_Kind.f
 repeat' with_reducible first | apply ih0 | exact LeO.refl _ | exact LeO.none _ | refine LeO.ite ?_ ?_ | refine LeO.bind ?_ (fun _ => ?_)
set_option maxHeartbeats 8000000 in
set_option maxRecDepth 100000 in
theorem word_Kind.calls (k : Nat) (a0 : Int) (r : Int) (w : World) (h : word_Kind.f k a0 = some r) :
  Calls Try.prog 35 #[.int .u64 a0] w fun e w' => e = .returned (.int .i64 r) ∧ Drawn0 w w' := by
 have H : ((word_Exp.f a0).bind fun t127 => ((word_Frac.f a0).bind fun t128 => (if t127 = 0 then (word_Kind.j0 k t127 t128 (t128 == 0)) else (word_Kind.j0 k t127 t128 false)))) = some r := h
 clear h
 obtain ⟨t127, A20, H⟩ := Option.bind_eq_some_iff.mp H
 (try dsimp -simprocs only at H)
 have A2 := Aside0.mk A20
 clear A20
 obtain ⟨t128, A30, H⟩ := Option.bind_eq_some_iff.mp H
 (try dsimp -simprocs only at H)
 have A3 := Aside0.mk A30
 clear A30
 have HC4 := Aside0.mk H
 clear H
 go_enter Try.func35, Try.ntmps35
 go_upto_region 2 with (first | ((with_reducible refine gate_callee (f := 32) rfl ?_); refine goesL_ (some 6) rfl rfl Try.func32 (by kernel_rfl) rfl #[.int .u64 a0] rfl ga ?_; (with_reducible refine (word_Exp.calls a0 t127 _ A2.out).mono ?_); rintro e w' ⟨rfl, ⟨nd, rfl⟩⟩; refine ⟨_, rfl, ?_⟩) | ((with_reducible refine gate_callee (f := 46) rfl ?_); refine goesL_ (some 8) rfl rfl Try.func46 (by kernel_rfl) rfl #[.int .u64 a0] rfl ga ?_; (with_reducible refine (word_Frac.calls a0 t128 _ A3.out).mono ?_); rintro e w' ⟨rfl, ⟨nd, rfl⟩⟩; refine ⟨_, rfl, ?_⟩))
 (try simp only [Act.put, sa0, sa1, sa2])
 go_cut [9] (fun v9 wc => ∃ (kq : Nat) (x9_3 : Bool), v9 = .bool x9_3 ∧ Aside0 (word_Kind.j0 kq t127 t128 x9_3 = some r) ∧ Aside0 (kq ≤ k) ∧ Drawn0 w wc)
 case first =>
  have H := HC4.out
  clear HC4
  by_cases c5 : t127 = 0
  rotate_left
  ·
   rw [if_neg c5] at H
   have c5b0 : (t127 == 0) = false := beq_eq_false_iff_ne.mpr c5
   have c5b1 : (t127 != 0) = true := bne_iff_ne.mpr c5
   (first | rw [c5b0] | (simp only [i64_w, i32_w]; rw [c5b0]) | skip)
   have H' := Aside0.mk H
   clear H
   go_wp2
   go_meet
   case rel => exact ⟨_, (false), (by first | rfl | (simp; done) | (simp [*]; done)), H', ⟨by first | omega | exact Nat.le_refl _⟩, by repeat (first | exact Drawn0.refl _ | apply Drawn0.step)⟩
  rw [if_pos c5] at H
  have c5b0 : (t127 == 0) = true := beq_iff_eq.mpr c5
  have c5b1 : (t127 != 0) = false := bne_eq_false_iff_eq.mpr c5
  clear c5
  (first | rw [c5b0] | (simp only [i64_w, i32_w]; rw [c5b0]) | skip)
  have H' := Aside0.mk H
  clear H
  go_wp2
  go_meet
  case rel => exact ⟨_, ((t128 == 0)), (by first | rfl | (simp; done) | (simp [*]; done)), H', ⟨by first | omega | exact Nat.le_refl _⟩, by repeat (first | exact Drawn0.refl _ | apply Drawn0.step)⟩
 case rest =>
  clear HC4
  try clear p2
  try clear c3
  try clear c4
  try clear c5
  try clear c5b0
  try clear c5b1
  obtain ⟨kq, x9_3, rfl, HA, HJ3, ⟨mc3, rfl⟩⟩ := hcut
  cases kq with
  | zero => exact absurd HA.out (by simp [word_Kind.j0])
  | succ kj3 =>
   have H := HA.out
   clear HA
   simp only [word_Kind.j0] at H
   by_cases c6 : x9_3 = true
   ·
    subst c6
    rw [if_pos rfl] at H
    obtain rfl := Option.some.inj H
    go_wp2
    go_ret
    exact ⟨by first | rfl | (simp; done) | (simp [*]; done), by repeat (first | exact Drawn0.refl _ | apply Drawn0.step)⟩
   ·
    replace c6 := Bool.eq_false_iff.mpr c6
    subst c6
    rw [if_neg (show ¬ (false = true) by decide)] at H
    by_cases c7 : t127 = 0
    ·
     rw [if_pos c7] at H
     have c7b0 : (t127 == 0) = true := beq_iff_eq.mpr c7
     have c7b1 : (t127 != 0) = false := bne_eq_false_iff_eq.mpr c7
     clear c7
     obtain rfl := Option.some.inj H
     go_wp2
     go_ret
     exact ⟨by first | rfl | (simp; done) | (simp [*]; done), by repeat (first | exact Drawn0.refl _ | apply Drawn0.step)⟩
    ·
     rw [if_neg c7] at H
     have c7b0 : (t127 == 0) = false := beq_eq_false_iff_ne.mpr c7
     have c7b1 : (t127 != 0) = true := bne_iff_ne.mpr c7
     by_cases c8 : t127 < 2047
     ·
      rw [if_pos c8] at H
      have c8b0 : decide (t127 < 2047) = true := decide_eq_true c8
      clear c8
      obtain rfl := Option.some.inj H
      go_wp2
      go_ret
      exact ⟨by first | rfl | (simp; done) | (simp [*]; done), by repeat (first | exact Drawn0.refl _ | apply Drawn0.step)⟩
     ·
      rw [if_neg c8] at H
      have c8b0 : decide (t127 < 2047) = false := decide_eq_false c8
      clear c8
      by_cases c9 : t128 = 0
      rotate_left
      ·
       rw [if_neg c9] at H
       have c9b0 : (t128 == 0) = false := beq_eq_false_iff_ne.mpr c9
       have c9b1 : (t128 != 0) = true := bne_iff_ne.mpr c9
       obtain rfl := Option.some.inj H
       go_wp2
       go_ret
       exact ⟨by first | rfl | (simp; done) | (simp [*]; done), by repeat (first | exact Drawn0.refl _ | apply Drawn0.step)⟩

      rw [if_pos c9] at H
      have c9b0 : (t128 == 0) = true := beq_iff_eq.mpr c9
      have c9b1 : (t128 != 0) = false := bne_eq_false_iff_eq.mpr c9
      clear c9
      obtain rfl := Option.some.inj H
      go_wp2
      go_ret
      exact ⟨by first | rfl | (simp; done) | (simp [*]; done), by repeat (first | exact Drawn0.refl _ | apply Drawn0.step)⟩
/-! ### word_Signals: function 45 -/
def word_Signals.f (k : Nat) (a0 : Int) : Option (Bool) := (word_Kind.f k a0).bind fun t129 => (if t129 = 5 then (some ((Go.bits .and .u64 (a0 / 2251799813685248) 1) == 0)) else (some false))
theorem word_Signals.mono : ∀ a0 k, LeO (word_Signals.f k a0) (word_Signals.f (k + 1) a0) := by
 intro a0 k
 unfold word_Signals.f
 repeat' with_reducible first | apply word_Kind.mono | exact LeO.refl _ | exact LeO.none _ | refine LeO.ite ?_ ?_ | refine LeO.bind ?_ (fun _ => ?_)
set_option maxHeartbeats 8000000 in
set_option maxRecDepth 100000 in
theorem word_Signals.calls (k : Nat) (a0 : Int) (r : Bool) (w : World) (h : word_Signals.f k a0 = some r) :
  Calls Try.prog 45 #[.int .u64 a0] w fun e w' => e = .returned (.bool r) ∧ Drawn0 w w' := by
 have H : ((word_Kind.f k a0).bind fun t129 => (if t129 = 5 then (some ((Go.bits .and .u64 (a0 / 2251799813685248) 1) == 0)) else (some false))) = some r := h
 clear h
 obtain ⟨t129, A20, H⟩ := Option.bind_eq_some_iff.mp H
 (try dsimp -simprocs only at H)
 have A2 := Aside0.mk A20
 clear A20
 by_cases c3 : t129 = 5
 rotate_left
 ·
  rw [if_neg c3] at H
  have c3b0 : (t129 == 5) = false := beq_eq_false_iff_ne.mpr c3
  have c3b1 : (t129 != 5) = true := bne_iff_ne.mpr c3
  obtain rfl := Option.some.inj H
  go_enter Try.func45, Try.ntmps45
  go_wp2_with (first | ((with_reducible refine gate_callee (f := 35) rfl ?_); refine goesL_ (some 4) rfl rfl Try.func35 (by kernel_rfl) rfl #[.int .u64 a0] rfl ga ?_; (with_reducible refine (word_Kind.calls k a0 t129 _ A2.out).mono ?_); rintro e w' ⟨rfl, ⟨nd, rfl⟩⟩; refine ⟨_, rfl, ?_⟩))
  go_ret
  exact ⟨by first | rfl | (simp; done) | (simp [*]; done), by repeat (first | exact Drawn0.refl _ | apply Drawn0.step)⟩

 rw [if_pos c3] at H
 have c3b0 : (t129 == 5) = true := beq_iff_eq.mpr c3
 have c3b1 : (t129 != 5) = false := bne_eq_false_iff_eq.mpr c3
 clear c3
 obtain rfl := Option.some.inj H
 go_enter Try.func45, Try.ntmps45
 go_wp2_with (first | ((with_reducible refine gate_callee (f := 35) rfl ?_); refine goesL_ (some 4) rfl rfl Try.func35 (by kernel_rfl) rfl #[.int .u64 a0] rfl ga ?_; (with_reducible refine (word_Kind.calls k a0 t129 _ A2.out).mono ?_); rintro e w' ⟨rfl, ⟨nd, rfl⟩⟩; refine ⟨_, rfl, ?_⟩))
 go_ret
 exact ⟨by first | rfl | (simp; done) | (simp [*]; done), by repeat (first | exact Drawn0.refl _ | apply Drawn0.step)⟩
/-! ### soft_nan: function 33 -/
def soft_nan.l0 : Nat → Int → Bool → List Int → Int → Int → Option (Int × Int × Bool)
 | 0, _, _, _, _, _ => none
 | k + 1, x5, x6, x9, x10, x11 => if x11 < x10 then (if 0 ≤ x11 then (if x11 < (x9.length : Int) then ((word_Kind.f k (rd x9 x11)).bind fun t131 => (if t131 = 5 then ((word_Signals.f k (rd x9 x11)).bind fun t132 => (if t132 = true then (soft_nan.l0 k 16 true x9 x10 (wrap64 (x11 + 1))) else (soft_nan.l0 k x5 true x9 x10 (wrap64 (x11 + 1))))) else (soft_nan.l0 k x5 x6 x9 x10 (wrap64 (x11 + 1))))) else (none)) else (none)) else (some (9221120237041090560, x5, x6))
def soft_nan.f (k : Nat) (l0 : List Int) : Option (Int × Int × Bool) := soft_nan.l0 k 0 false l0 (l0.length : Int) 0
theorem soft_nan.mono_l : ∀ k, (∀ y0 y1 y2 y3 y4, LeO (soft_nan.l0 k y0 y1 y2 y3 y4) (soft_nan.l0 (k + 1) y0 y1 y2 y3 y4))
 | 0 => fun _ _ _ _ _ r h => by simp [soft_nan.l0] at h
 | k + 1 => by
  have ih0 := soft_nan.mono_l k
  ·
   intro y0 y1 y2 y3 y4
   unfold soft_nan.l0
   repeat' with_reducible first | apply ih0 | apply word_Kind.mono | apply word_Signals.mono | exact LeO.refl _ | exact LeO.none _ | refine LeO.ite ?_ ?_ | refine LeO.bind ?_ (fun _ => ?_)
theorem soft_nan.mono : ∀ a0 k, LeO (soft_nan.f k a0) (soft_nan.f (k + 1) a0) := by
 intro a0 k
 have ih0 := soft_nan.mono_l k
 unfold soft_nan.f
 repeat' with_reducible first | apply ih0 | apply word_Kind.mono | apply word_Signals.mono | exact LeO.refl _ | exact LeO.none _ | refine LeO.ite ?_ ?_ | refine LeO.bind ?_ (fun _ => ?_)
set_option maxHeartbeats 8000000 in
set_option maxRecDepth 100000 in
theorem soft_nan.calls (k : Nat) (A0 : Option Addr) (c0 : Nat) (l0 : List Int) (r1 : Int) (r2 : Int) (r3 : Bool) (w : World) (hr0 : Kd.C (Kd.int .u64) w A0 l0.length l0) (hc0 : l0.length ≤ c0) (h : soft_nan.f k l0 = some (r1, r2, r3)) :
  Calls Try.prog 33 #[.slice A0 l0.length c0] w fun e w' => e = .returned (.tuple #[.int .u64 r1, .int .u8 r2, .bool r3]) ∧ Drawn0 w w' := by
 have HR0 := Aside0.mk hr0
 have HC0 := Aside0.mk hc0
 clear hr0 hc0
 have H : (soft_nan.l0 k 0 false l0 (l0.length : Int) 0) = some (r1, r2, r3) := h
 clear h
 have H' := Aside0.mk H
 clear H
 go_enter Try.func33, Try.ntmps33
 go_wp2
 go_loopg [5, 6, 11] k (fun kq v5 v6 v11 w' => ∃ (x5_1 : Int) (x6_1 : Bool) (x11_1 : Int), v5 = .int .u8 x5_1 ∧ v6 = .bool x6_1 ∧ v11 = .int .i64 x11_1 ∧ Aside0 (soft_nan.l0 kq x5_1 x6_1 l0 (l0.length : Int) x11_1 = some (r1, r2, r3)) ∧ Aside0 (kq ≤ k) ∧ Drawn0 w w')
 case atStart => exact ⟨(0), (false), (0), (by first | rfl | (simp; done) | (simp [*]; done)), (by first | rfl | (simp; done) | (simp [*]; done)), (by first | rfl | (simp; done) | (simp [*]; done)), H', ⟨Nat.le_refl _⟩, by repeat (first | exact Drawn0.refl _ | apply Drawn0.step)⟩
 case round =>
  clear H'
  obtain ⟨x5_1, x6_1, x11_1, rfl, rfl, rfl, HA, HK1, ⟨m1, rfl⟩⟩ := hrel
  cases gk with
  | zero => exact absurd HA.out (by simp [soft_nan.l0])
  | succ k1 =>
   have H := HA.out
   clear HA
   simp only [soft_nan.l0] at H
   by_cases c2 : x11_1 < (l0.length : Int)
   rotate_left
   ·
    rw [if_neg c2] at H
    have c2b0 : decide (x11_1 < (l0.length : Int)) = false := decide_eq_false c2
    clear c2
    simp only [Option.some.injEq, Prod.mk.injEq] at H
    obtain ⟨rfl, rfl, rfl⟩ := H
    go_wp2
    go_ret3
    exact ⟨by first | rfl | (simp; done) | (simp [*]; done), by repeat (first | exact Drawn0.refl _ | apply Drawn0.step)⟩

   rw [if_pos c2] at H
   have c2b0 : decide (x11_1 < (l0.length : Int)) = true := decide_eq_true c2
   clear c2
   by_cases c3 : 0 ≤ x11_1
   rotate_left
   ·
    rw [if_neg c3] at H
    exact absurd H (by simp)
   rw [if_pos c3] at H
   have c3b0 : decide (0 ≤ x11_1) = true := decide_eq_true c3
   clear c3
   by_cases c4 : x11_1 < (l0.length : Int)
   rotate_left
   ·
    rw [if_neg c4] at H
    exact absurd H (by simp)
   rw [if_pos c4] at H
   have c4b0 : decide (x11_1 < (l0.length : Int)) = true := decide_eq_true c4
   clear c4
   obtain ⟨t131, A50, H⟩ := Option.bind_eq_some_iff.mp H
   (try dsimp -simprocs only at H)
   have A5 := Aside0.mk A50
   clear A50
   by_cases c6 : t131 = 5
   ·
    rw [if_pos c6] at H
    have c6b0 : (t131 == 5) = true := beq_iff_eq.mpr c6
    have c6b1 : (t131 != 5) = false := bne_eq_false_iff_eq.mpr c6
    clear c6
    obtain ⟨t132, A70, H⟩ := Option.bind_eq_some_iff.mp H
    (try dsimp -simprocs only at H)
    have A7 := Aside0.mk A70
    clear A70
    by_cases c8 : t132 = true
    ·
     subst c8
     rw [if_pos rfl] at H
     have H' := Aside0.mk H
     clear H
     have p130 : 0 ≤ (x11_1 : Int) := of_decide_eq_true (by first | (with_reducible assumption) | assumption)
     have q130 : x11_1 < (l0.length : Int) := of_decide_eq_true (by first | (with_reducible assumption) | assumption)
     obtain ⟨ad130, e130, hx130_0⟩ := Kd.at_int HR0.out x11_1 p130 q130
     cases e130
     replace p130 := eq_true p130
     replace q130 := eq_true q130
     go_wp2_with (first | ((with_reducible refine gate_callee (f := 35) rfl ?_); refine goesL_ (some 16) rfl rfl Try.func35 (by kernel_rfl) rfl #[.int .u64 (rd l0 x11_1)] rfl ga ?_; (with_reducible refine (word_Kind.calls k1 (rd l0 x11_1) t131 _ A5.out).mono ?_); rintro e w' ⟨rfl, ⟨nd, rfl⟩⟩; refine ⟨_, rfl, ?_⟩) | ((with_reducible refine gate_callee (f := 45) rfl ?_); refine goesL_ (some 19) rfl rfl Try.func45 (by kernel_rfl) rfl #[.int .u64 (rd l0 x11_1)] rfl ga ?_; (with_reducible refine (word_Signals.calls k1 (rd l0 x11_1) true _ A7.out).mono ?_); rintro e w' ⟨rfl, ⟨nd, rfl⟩⟩; refine ⟨_, rfl, ?_⟩))
     go_roundg k1
     case measure => have := HK1.out; omega
     case rel => exact ⟨(16), (true), (wrap64 (x11_1 + 1)), (by first | rfl | (simp; done) | (simp [*]; done)), (by first | rfl | (simp; done) | (simp [*]; done)), (by first | rfl | (simp; done) | (simp [*]; done)), H', ⟨by have := HK1.out; omega⟩, by repeat (first | exact Drawn0.refl _ | apply Drawn0.step)⟩
    ·
     replace c8 := Bool.eq_false_iff.mpr c8
     subst c8
     rw [if_neg (show ¬ (false = true) by decide)] at H
     have H' := Aside0.mk H
     clear H
     have p130 : 0 ≤ (x11_1 : Int) := of_decide_eq_true (by first | (with_reducible assumption) | assumption)
     have q130 : x11_1 < (l0.length : Int) := of_decide_eq_true (by first | (with_reducible assumption) | assumption)
     obtain ⟨ad130, e130, hx130_0⟩ := Kd.at_int HR0.out x11_1 p130 q130
     cases e130
     replace p130 := eq_true p130
     replace q130 := eq_true q130
     go_wp2_with (first | ((with_reducible refine gate_callee (f := 35) rfl ?_); refine goesL_ (some 16) rfl rfl Try.func35 (by kernel_rfl) rfl #[.int .u64 (rd l0 x11_1)] rfl ga ?_; (with_reducible refine (word_Kind.calls k1 (rd l0 x11_1) t131 _ A5.out).mono ?_); rintro e w' ⟨rfl, ⟨nd, rfl⟩⟩; refine ⟨_, rfl, ?_⟩) | ((with_reducible refine gate_callee (f := 45) rfl ?_); refine goesL_ (some 19) rfl rfl Try.func45 (by kernel_rfl) rfl #[.int .u64 (rd l0 x11_1)] rfl ga ?_; (with_reducible refine (word_Signals.calls k1 (rd l0 x11_1) false _ A7.out).mono ?_); rintro e w' ⟨rfl, ⟨nd, rfl⟩⟩; refine ⟨_, rfl, ?_⟩))
     go_roundg k1
     case measure => have := HK1.out; omega
     case rel => exact ⟨(x5_1), (true), (wrap64 (x11_1 + 1)), (by first | rfl | (simp; done) | (simp [*]; done)), (by first | rfl | (simp; done) | (simp [*]; done)), (by first | rfl | (simp; done) | (simp [*]; done)), H', ⟨by have := HK1.out; omega⟩, by repeat (first | exact Drawn0.refl _ | apply Drawn0.step)⟩
   ·
    rw [if_neg c6] at H
    have c6b0 : (t131 == 5) = false := beq_eq_false_iff_ne.mpr c6
    have c6b1 : (t131 != 5) = true := bne_iff_ne.mpr c6
    have H' := Aside0.mk H
    clear H
    have p130 : 0 ≤ (x11_1 : Int) := of_decide_eq_true (by first | (with_reducible assumption) | assumption)
    have q130 : x11_1 < (l0.length : Int) := of_decide_eq_true (by first | (with_reducible assumption) | assumption)
    obtain ⟨ad130, e130, hx130_0⟩ := Kd.at_int HR0.out x11_1 p130 q130
    cases e130
    replace p130 := eq_true p130
    replace q130 := eq_true q130
    go_wp2_with (first | ((with_reducible refine gate_callee (f := 35) rfl ?_); refine goesL_ (some 16) rfl rfl Try.func35 (by kernel_rfl) rfl #[.int .u64 (rd l0 x11_1)] rfl ga ?_; (with_reducible refine (word_Kind.calls k1 (rd l0 x11_1) t131 _ A5.out).mono ?_); rintro e w' ⟨rfl, ⟨nd, rfl⟩⟩; refine ⟨_, rfl, ?_⟩))
    go_roundg k1
    case measure => have := HK1.out; omega
    case rel => exact ⟨(x5_1), (x6_1), (wrap64 (x11_1 + 1)), (by first | rfl | (simp; done) | (simp [*]; done)), (by first | rfl | (simp; done) | (simp [*]; done)), (by first | rfl | (simp; done) | (simp [*]; done)), H', ⟨by have := HK1.out; omega⟩, by repeat (first | exact Drawn0.refl _ | apply Drawn0.step)⟩
/-! ### word_Neg: function 34 -/
def word_Neg.f (a0 : Int) : Option (Bool) := some ((a0 / 9223372036854775808) == 1)
set_option maxHeartbeats 8000000 in
set_option maxRecDepth 100000 in
theorem word_Neg.calls (a0 : Int) (r : Bool) (w : World) (h : word_Neg.f a0 = some r) :
  Calls Try.prog 34 #[.int .u64 a0] w fun e w' => e = .returned (.bool r) ∧ Drawn0 w w' := by
 have H : (some ((a0 / 9223372036854775808) == 1)) = some r := h
 clear h
 obtain rfl := Option.some.inj H
 go_enter Try.func34, Try.ntmps34
 go_wp2
 go_ret
 exact ⟨by first | rfl | (simp; done) | (simp [*]; done), by repeat (first | exact Drawn0.refl _ | apply Drawn0.step)⟩

/-! ### word_Parts: function 37 -/
def word_Parts.f (k : Nat) (a0 : Int) : Option (Int × Int) := (word_Kind.f k a0).bind fun t133 => (if t133 = 2 then ((word_Frac.f a0).bind fun t134 => (some (t134, (-1074)))) else (if t133 = 3 then ((word_Frac.f a0).bind fun t135 => ((word_Exp.f a0).bind fun t136 => (some (Go.bits .or .u64 t135 4503599627370496, wrap64 (t136 - 1075))))) else (some (0, 0))))
theorem word_Parts.mono : ∀ a0 k, LeO (word_Parts.f k a0) (word_Parts.f (k + 1) a0) := by
 intro a0 k
 unfold word_Parts.f
 repeat' with_reducible first | apply word_Kind.mono | exact LeO.refl _ | exact LeO.none _ | refine LeO.ite ?_ ?_ | refine LeO.bind ?_ (fun _ => ?_)
set_option maxHeartbeats 8000000 in
set_option maxRecDepth 100000 in
theorem word_Parts.calls (k : Nat) (a0 : Int) (r1 : Int) (r2 : Int) (w : World) (h : word_Parts.f k a0 = some (r1, r2)) :
  Calls Try.prog 37 #[.int .u64 a0] w fun e w' => e = .returned (.tuple #[.int .u64 r1, .int .i64 r2]) ∧ Drawn0 w w' := by
 have H : ((word_Kind.f k a0).bind fun t133 => (if t133 = 2 then ((word_Frac.f a0).bind fun t134 => (some (t134, (-1074)))) else (if t133 = 3 then ((word_Frac.f a0).bind fun t135 => ((word_Exp.f a0).bind fun t136 => (some (Go.bits .or .u64 t135 4503599627370496, wrap64 (t136 - 1075))))) else (some (0, 0))))) = some (r1, r2) := h
 clear h
 obtain ⟨t133, A20, H⟩ := Option.bind_eq_some_iff.mp H
 (try dsimp -simprocs only at H)
 have A2 := Aside0.mk A20
 clear A20
 by_cases c3 : t133 = 2
 ·
  rw [if_pos c3] at H
  have c3b0 : (t133 == 2) = true := beq_iff_eq.mpr c3
  have c3b1 : (t133 != 2) = false := bne_eq_false_iff_eq.mpr c3
  clear c3
  obtain ⟨t134, A40, H⟩ := Option.bind_eq_some_iff.mp H
  (try dsimp -simprocs only at H)
  have A4 := Aside0.mk A40
  clear A40
  simp only [Option.some.injEq, Prod.mk.injEq] at H
  obtain ⟨rfl, rfl⟩ := H
  go_enter Try.func37, Try.ntmps37
  go_wp2_with (first | ((with_reducible refine gate_callee (f := 35) rfl ?_); refine goesL_ (some 5) rfl rfl Try.func35 (by kernel_rfl) rfl #[.int .u64 a0] rfl ga ?_; (with_reducible refine (word_Kind.calls k a0 t133 _ A2.out).mono ?_); rintro e w' ⟨rfl, ⟨nd, rfl⟩⟩; refine ⟨_, rfl, ?_⟩) | ((with_reducible refine gate_callee (f := 46) rfl ?_); refine goesL_ (some 9) rfl rfl Try.func46 (by kernel_rfl) rfl #[.int .u64 a0] rfl ga ?_; (with_reducible refine (word_Frac.calls a0 t134 _ A4.out).mono ?_); rintro e w' ⟨rfl, ⟨nd, rfl⟩⟩; refine ⟨_, rfl, ?_⟩))
  go_ret2
  exact ⟨by first | rfl | (simp; done) | (simp [*]; done), by repeat (first | exact Drawn0.refl _ | apply Drawn0.step)⟩
 ·
  rw [if_neg c3] at H
  have c3b0 : (t133 == 2) = false := beq_eq_false_iff_ne.mpr c3
  have c3b1 : (t133 != 2) = true := bne_iff_ne.mpr c3
  by_cases c5 : t133 = 3
  rotate_left
  ·
   rw [if_neg c5] at H
   have c5b0 : (t133 == 3) = false := beq_eq_false_iff_ne.mpr c5
   have c5b1 : (t133 != 3) = true := bne_iff_ne.mpr c5
   simp only [Option.some.injEq, Prod.mk.injEq] at H
   obtain ⟨rfl, rfl⟩ := H
   go_enter Try.func37, Try.ntmps37
   go_wp2_with (first | ((with_reducible refine gate_callee (f := 35) rfl ?_); refine goesL_ (some 5) rfl rfl Try.func35 (by kernel_rfl) rfl #[.int .u64 a0] rfl ga ?_; (with_reducible refine (word_Kind.calls k a0 t133 _ A2.out).mono ?_); rintro e w' ⟨rfl, ⟨nd, rfl⟩⟩; refine ⟨_, rfl, ?_⟩))
   go_ret2
   exact ⟨by first | rfl | (simp; done) | (simp [*]; done), by repeat (first | exact Drawn0.refl _ | apply Drawn0.step)⟩

  rw [if_pos c5] at H
  have c5b0 : (t133 == 3) = true := beq_iff_eq.mpr c5
  have c5b1 : (t133 != 3) = false := bne_eq_false_iff_eq.mpr c5
  clear c5
  obtain ⟨t135, A60, H⟩ := Option.bind_eq_some_iff.mp H
  (try dsimp -simprocs only at H)
  have A6 := Aside0.mk A60
  clear A60
  obtain ⟨t136, A70, H⟩ := Option.bind_eq_some_iff.mp H
  (try dsimp -simprocs only at H)
  have A7 := Aside0.mk A70
  clear A70
  simp only [Option.some.injEq, Prod.mk.injEq] at H
  obtain ⟨rfl, rfl⟩ := H
  go_enter Try.func37, Try.ntmps37
  go_wp2_with (first | ((with_reducible refine gate_callee (f := 35) rfl ?_); refine goesL_ (some 5) rfl rfl Try.func35 (by kernel_rfl) rfl #[.int .u64 a0] rfl ga ?_; (with_reducible refine (word_Kind.calls k a0 t133 _ A2.out).mono ?_); rintro e w' ⟨rfl, ⟨nd, rfl⟩⟩; refine ⟨_, rfl, ?_⟩) | ((with_reducible refine gate_callee (f := 46) rfl ?_); refine goesL_ (some 13) rfl rfl Try.func46 (by kernel_rfl) rfl #[.int .u64 a0] rfl ga ?_; (with_reducible refine (word_Frac.calls a0 t135 _ A6.out).mono ?_); rintro e w' ⟨rfl, ⟨nd, rfl⟩⟩; refine ⟨_, rfl, ?_⟩) | ((with_reducible refine gate_callee (f := 32) rfl ?_); refine goesL_ (some 16) rfl rfl Try.func32 (by kernel_rfl) rfl #[.int .u64 a0] rfl ga ?_; (with_reducible refine (word_Exp.calls a0 t136 _ A7.out).mono ?_); rintro e w' ⟨rfl, ⟨nd, rfl⟩⟩; refine ⟨_, rfl, ?_⟩))
  go_ret2
  exact ⟨by first | rfl | (simp; done) | (simp [*]; done), by repeat (first | exact Drawn0.refl _ | apply Drawn0.step)⟩
end Go.Proofs.Ytfogmgcpajndcaa.F
