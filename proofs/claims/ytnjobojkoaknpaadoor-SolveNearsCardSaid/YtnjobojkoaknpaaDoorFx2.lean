-- Written by a program of this seat's session (mkprint), out of the translation.
import Derived.Test.YtnjobojkoaknpaaDoorShort
import Derived.Test.YtnjobojkoaknpaaDoorFx0
namespace Go.Proofs.YtnjobojkoaknpaaDoor.F
open Go.RowKit Go.Proofs.YtnjobojkoaknpaaDoorW.PrintWords Go.Proofs.YtnjobojkoaknpaaDoorW.PrintLast Go.Proofs.YtnjobojkoaknpaaDoorW.PrintMore
attribute [local go_sem] uh uf vv vw qw qp tu ui   -- for this text's walks alone
set_option linter.unusedVariables false
set_option linter.unusedSimpArgs false

/-! ### Ab: function 10 -/
def Ab.f (a0 : Int) (a1 : Int) : Option (Int × Int × Int × List Int) := if a0 < 0 then (some (0, 0, 0, ([] : List Int))) else (if a1 < 0 then (some (0, 0, 0, ([] : List Int))) else (if a0 > 4096 then (some (0, 0, 0, ([] : List Int))) else (if a1 > 4096 then (some (0, 0, 0, ([] : List Int))) else (if 0 ≤ (wrap64 (a0 * a1)) then (if (wrap64 (a0 * a1) : Int).toNat ≤ 35184372088832 then (some (a0, a1, a1, (List.replicate (wrap64 (a0 * a1) : Int).toNat 0))) else (none)) else (none)))))
set_option maxHeartbeats 8000000 in
set_option maxRecDepth 100000 in
theorem Ab.calls (a0 : Int) (a1 : Int) (r1 : Int) (r2 : Int) (r3 : Int) (r4 : List Int) (w : World) (h : Ab.f a0 a1 = some (r1, r2, r3, r4)) :
  Calls Tryd.prog 10 #[.int .i64 a0, .int .i64 a1] w fun e w' => ∃ v3_ : Value, e = .returned (.agg #[.int .i64 r1, .int .i64 r2, .int .i64 r3, v3_]) ∧ Kd.R (Kd.int .u64) 24 w' w.heap.size (fun _ => True) v3_ r4 ∧ Below w.heap.size w w' := by
 have hu35 := Tryd.underlying35; have HB := aa.mk (Below.refl w.heap.size w); have H : (if a0 < 0 then (some (0, 0, 0, ([] : List Int))) else (if a1 < 0 then (some (0, 0, 0, ([] : List Int))) else (if a0 > 4096 then (some (0, 0, 0, ([] : List Int))) else (if a1 > 4096 then (some (0, 0, 0, ([] : List Int))) else (if 0 ≤ (wrap64 (a0 * a1)) then (if (wrap64 (a0 * a1) : Int).toNat ≤ 35184372088832 then (some (a0, a1, a1, (List.replicate (wrap64 (a0 * a1) : Int).toNat 0))) else (none)) else (none)))))) = some (r1, r2, r3, r4) := h; clear h
 by_cases c3 : a0 < 0
 ·
  rw [if_pos c3] at H; have c3b0 : decide (a0 < 0) = true := decide_eq_true c3; clear c3; simp only [Option.some.injEq, Prod.mk.injEq] at H; obtain ⟨rfl, rfl, rfl, rfl⟩ := H; go_enter Tryd.func10, Tryd.ntmps10
  go_wp2_with (first | ((with_reducible refine bq (N := 4) rfl ?_); refine l5 (N := 4) (cs := #[.int .i64 0, .int .i64 0, .int .i64 0, .slice none 0 0]) (t := 35) ?_; intro gb101 hg w4 hbox hb; refine ax4 (af bel hb) hbox ((ge hg : w.heap.size ≤ gb101)) ((ge hg : w.heap.size ≤ gb101)) ?_; clear HB; intro HB BK101 GW101 GE101; clear hb hbox hg; have ⟨_, _⟩ := cf BK101 0 rfl; have ⟨_, _⟩ := cf BK101 1 rfl; have ⟨_, _⟩ := cf BK101 2 rfl; have ⟨_, _⟩ := cf BK101 3 rfl))
  refine bodyPost_ret (results_cell_row rfl _ _ gb101 35 #[.int .i64 0, .int .i64 0, .int .i64 0, .slice none 0 0] (0, 0) _ rfl (bp BK101) Tryd.underlying35 rfl (by kernel_rfl)) rfl ?_; exact ⟨_, er, by first | exact Kd.Cg _ _ _ _ _ | exact Kd.N_nil _ _ _ _ _ | exact Kd.Cy _ _ _ _ _ | exact Kd.Q_nil _ _ _ _ _ | exact Kd.S_nil _ _ _ _ _, bes⟩
 ·
  rw [if_neg c3] at H; have c3b0 : decide (a0 < 0) = false := decide_eq_false c3; clear c3
  by_cases c6 : a1 < 0
  ·
   rw [if_pos c6] at H; have c6b0 : decide (a1 < 0) = true := decide_eq_true c6; clear c6; simp only [Option.some.injEq, Prod.mk.injEq] at H; obtain ⟨rfl, rfl, rfl, rfl⟩ := H; go_enter Tryd.func10, Tryd.ntmps10
   go_wp2_with (first | ((with_reducible refine bq (N := 4) rfl ?_); refine l5 (N := 4) (cs := #[.int .i64 0, .int .i64 0, .int .i64 0, .slice none 0 0]) (t := 35) ?_; intro gb101 hg w7 hbox hb; refine ax4 (af bel hb) hbox ((ge hg : w.heap.size ≤ gb101)) ((ge hg : w.heap.size ≤ gb101)) ?_; clear HB; intro HB BK101 GW101 GE101; clear hb hbox hg; have ⟨_, _⟩ := cf BK101 0 rfl; have ⟨_, _⟩ := cf BK101 1 rfl; have ⟨_, _⟩ := cf BK101 2 rfl; have ⟨_, _⟩ := cf BK101 3 rfl))
   refine bodyPost_ret (results_cell_row rfl _ _ gb101 35 #[.int .i64 0, .int .i64 0, .int .i64 0, .slice none 0 0] (0, 0) _ rfl (bp BK101) Tryd.underlying35 rfl (by kernel_rfl)) rfl ?_; exact ⟨_, er, by first | exact Kd.Cg _ _ _ _ _ | exact Kd.N_nil _ _ _ _ _ | exact Kd.Cy _ _ _ _ _ | exact Kd.Q_nil _ _ _ _ _ | exact Kd.S_nil _ _ _ _ _, bes⟩
  ·
   rw [if_neg c6] at H; have c6b0 : decide (a1 < 0) = false := decide_eq_false c6; clear c6
   by_cases c9 : a0 > 4096
   ·
    rw [if_pos c9] at H; have c9b0 : decide (4096 < a0) = true := decide_eq_true c9; clear c9; simp only [Option.some.injEq, Prod.mk.injEq] at H; obtain ⟨rfl, rfl, rfl, rfl⟩ := H; go_enter Tryd.func10, Tryd.ntmps10
    go_wp2_with (first | ((with_reducible refine bq (N := 4) rfl ?_); refine l5 (N := 4) (cs := #[.int .i64 0, .int .i64 0, .int .i64 0, .slice none 0 0]) (t := 35) ?_; intro gb101 hg w10 hbox hb; refine ax4 (af bel hb) hbox ((ge hg : w.heap.size ≤ gb101)) ((ge hg : w.heap.size ≤ gb101)) ?_; clear HB; intro HB BK101 GW101 GE101; clear hb hbox hg; have ⟨_, _⟩ := cf BK101 0 rfl; have ⟨_, _⟩ := cf BK101 1 rfl; have ⟨_, _⟩ := cf BK101 2 rfl; have ⟨_, _⟩ := cf BK101 3 rfl))
    refine bodyPost_ret (results_cell_row rfl _ _ gb101 35 #[.int .i64 0, .int .i64 0, .int .i64 0, .slice none 0 0] (0, 0) _ rfl (bp BK101) Tryd.underlying35 rfl (by kernel_rfl)) rfl ?_; exact ⟨_, er, by first | exact Kd.Cg _ _ _ _ _ | exact Kd.N_nil _ _ _ _ _ | exact Kd.Cy _ _ _ _ _ | exact Kd.Q_nil _ _ _ _ _ | exact Kd.S_nil _ _ _ _ _, bes⟩
   ·
    rw [if_neg c9] at H; have c9b0 : decide (4096 < a0) = false := decide_eq_false c9; clear c9
    by_cases c12 : a1 > 4096
    ·
     rw [if_pos c12] at H; have c12b0 : decide (4096 < a1) = true := decide_eq_true c12; clear c12; simp only [Option.some.injEq, Prod.mk.injEq] at H; obtain ⟨rfl, rfl, rfl, rfl⟩ := H; go_enter Tryd.func10, Tryd.ntmps10
     go_wp2_with (first | ((with_reducible refine bq (N := 4) rfl ?_); refine l5 (N := 4) (cs := #[.int .i64 0, .int .i64 0, .int .i64 0, .slice none 0 0]) (t := 35) ?_; intro gb101 hg w13 hbox hb; refine ax4 (af bel hb) hbox ((ge hg : w.heap.size ≤ gb101)) ((ge hg : w.heap.size ≤ gb101)) ?_; clear HB; intro HB BK101 GW101 GE101; clear hb hbox hg; have ⟨_, _⟩ := cf BK101 0 rfl; have ⟨_, _⟩ := cf BK101 1 rfl; have ⟨_, _⟩ := cf BK101 2 rfl; have ⟨_, _⟩ := cf BK101 3 rfl))
     refine bodyPost_ret (results_cell_row rfl _ _ gb101 35 #[.int .i64 0, .int .i64 0, .int .i64 0, .slice none 0 0] (0, 0) _ rfl (bp BK101) Tryd.underlying35 rfl (by kernel_rfl)) rfl ?_; exact ⟨_, er, by first | exact Kd.Cg _ _ _ _ _ | exact Kd.N_nil _ _ _ _ _ | exact Kd.Cy _ _ _ _ _ | exact Kd.Q_nil _ _ _ _ _ | exact Kd.S_nil _ _ _ _ _, bes⟩
    ·
     rw [if_neg c12] at H; have c12b0 : decide (4096 < a1) = false := decide_eq_false c12; clear c12; obtain ⟨ji15, hji15⟩ : ∃ j_ : Int, (wrap64 (a0 * a1)) = j_ := ⟨_, rfl⟩; replace H : (if 0 ≤ (ji15) then (if (ji15 : Int).toNat ≤ 35184372088832 then (some (a0, a1, a1, (List.replicate (ji15 : Int).toNat 0))) else (none)) else (none)) = some (r1, r2, r3, r4) := by first | (rw [hji15] at H; exact H) | (simp only [hji15] at H ⊢; exact H)
     have hji15w : (IntKind.i64.wrap (a0 * a1)) = ji15 := (jw _).trans hji15
     by_cases c16 : 0 ≤ (ji15)
     rotate_left
     ·
      rw [if_neg c16] at H; exact absurd H (by simp)

     rw [if_pos c16] at H; have c16b0 := eq_true c16; have c16b1 := decide_eq_true c16; clear c16
     by_cases c17 : (ji15 : Int).toNat ≤ 35184372088832
     rotate_left
     ·
      rw [if_neg c17] at H; exact absurd H (by simp)
     rw [if_pos c17] at H; have c17b0 := eq_true c17; have c17b1 : decide ((ji15 : Int).toNat ≤ 35184372088832) = true := decide_eq_true c17; clear c17; obtain ⟨y102, hy102⟩ : ∃ y_ : List Int, y_ = (List.replicate (ji15 : Int).toNat 0) := ⟨_, rfl⟩; replace H : (some (a0, a1, a1, y102)) = some (r1, r2, r3, r4) := by first | (rw [hy102]; with_reducible exact H) | (have H2_ := (Option.bind_some _ _).symm.trans H; rw [hy102]; with_reducible exact H2_) | (have H2_ := (Option.bind_some _ _).symm.trans H; with_reducible exact H2_) | with_reducible exact H | (rw [hy102]; exact H) | exact H
     have Ny102 := aa.mk hy102; clear hy102; simp only [Option.some.injEq, Prod.mk.injEq] at H; obtain ⟨rfl, rfl, rfl, rfl⟩ := H; go_enter Tryd.func10, Tryd.ntmps10
     go_wp2_with (first | ((with_reducible refine bq (N := 4) rfl ?_); refine l5 (N := 4) (cs := #[.int .i64 0, .int .i64 0, .int .i64 0, .slice none 0 0]) (t := 35) ?_; intro gb101 hg w18 hbox hb; refine ax4 (af bel hb) hbox ((ge hg : w.heap.size ≤ gb101)) ((ge hg : w.heap.size ≤ gb101)) ?_; clear HB; intro HB BK101 GW101 GE101; clear hb hbox hg) | ((with_reducible refine bq (N := 26) rfl ?_); refine Kd.R_make (Kd.int .u64) _ 24 rfl (N := 26) rfl 33 _ _ rfl ji15 rfl rfl Tryd.underlying33 (.int .u64 0) 8 info24 rfl (by decide) (by omega) 0 (ok := fun _ => True) (okp := fun _ => True) rfl (fun _ hk => hk) trivial (of_decide_eq_true (by first | (with_reducible assumption) | assumption)) (Nat.le_trans (Nat.mul_le_mul_right _ (of_decide_eq_true (by first | (with_reducible assumption) | assumption) : ji15.toNat ≤ 35184372088832)) (by omega)) (Below.refl _ _) (Nat.le_refl _) ?_; intro v103 w19 ho20 hb hg_ hnew_; clear hg_ hnew_; (first | rw [← Ny102.out] at ho20 | (simp only [Int.reduceToNat] at ho20; rw [← Ny102.out] at ho20)); refine ax3 (Kd.pg ho20 (az bes)) (bb BK101 hb) (af bes hb) ?_; clear BK101; clear HB; intro HO104 BK101 HB; clear hb ho20; obtain ⟨Ao21, co21, eo21⟩ := Kd.mg HO104.out; subst eo21; have ⟨_, _⟩ := cf BK101 0 rfl; have ⟨_, _⟩ := cf BK101 1 rfl; have ⟨_, _⟩ := cf BK101 2 rfl; have ⟨_, _⟩ := cf BK101 3 rfl))
     refine bodyPost_ret (results_cell_row rfl _ _ gb101 35 #[.int .i64 a0, .int .i64 a1, .int .i64 a1, .slice Ao21 y102.length co21] (0, 0) _ rfl (bp BK101) Tryd.underlying35 rfl (by kernel_rfl)) rfl ?_; exact ⟨_, by first | rfl | (simp [gu, gp] <;> rfl) | (simp only [← hji15]; first | rfl | (simp [gu, gp] <;> rfl)) | (simp [*, gu, gp] <;> rfl), by (with_reducible repeat (first | apply Kd.lq | apply Kd.lu | apply Kd.jy)); exact Kd.ku (Kd.jo (p := ⟨gb101, 3, none⟩) (Kd.jo (p := ⟨gb101, 2, none⟩) (Kd.jo (p := ⟨gb101, 1, none⟩) (Kd.jo (p := ⟨gb101, 0, none⟩) (Kd.fe HO104.out BK101.out (by decide)) (fun _ hk => hk.2) (.int .i64 a0)) (fun _ hk => hk.2) (.int .i64 a1)) (fun _ hk => hk.2) (.int .i64 a1)) (fun _ hk => hk.2) (.slice Ao21 y102.length co21)) (fun _ hk => trivial), bes⟩
/-! ### o6: function 45 -/
def o6.f (a0_0 : Int) (a0_1 : Int) (a0_2 : Int) (l0_3 : List Int) (a1 : Int) (a2 : Int) : Option (Bool) := if a1 ≥ 0 then (if a1 < a0_0 then (if a2 ≥ 0 then (if a2 < a0_1 then (if a0_2 ≥ 0 then (some (decide ((wrap64 ((wrap64 (a1 * a0_2)) + a2)) < (l0_3.length : Int)))) else (some false)) else (some false)) else (some false)) else (some false)) else (some false)
set_option maxHeartbeats 8000000 in
set_option maxRecDepth 100000 in
theorem o6.calls (a0_0 : Int) (a0_1 : Int) (a0_2 : Int) (A0_3 : Option Addr) (c0_3 : Nat) (l0_3 : List Int) (a1 : Int) (a2 : Int) (r : Bool) (w : World) (hr0_3 : Kd.C (Kd.int .u64) w A0_3 l0_3.length l0_3) (hc0_3 : l0_3.length ≤ c0_3) (h : o6.f a0_0 a0_1 a0_2 l0_3 a1 a2 = some r) :
  Calls Tryd.prog 45 #[.agg #[.int .i64 a0_0, .int .i64 a0_1, .int .i64 a0_2, .slice A0_3 l0_3.length c0_3], .int .i64 a1, .int .i64 a2] w fun e w' => e = .returned (.bool r) ∧ Below w.heap.size w w' := by
 have hu35 := Tryd.underlying35; have HR0_3 := aa.mk hr0_3; have HC0_3 := aa.mk hc0_3; clear hr0_3 hc0_3; have HB := aa.mk (Below.refl w.heap.size w); have H : (if a1 ≥ 0 then (if a1 < a0_0 then (if a2 ≥ 0 then (if a2 < a0_1 then (if a0_2 ≥ 0 then (some (decide ((wrap64 ((wrap64 (a1 * a0_2)) + a2)) < (l0_3.length : Int)))) else (some false)) else (some false)) else (some false)) else (some false)) else (some false)) = some r := h; clear h
 by_cases c4 : a1 ≥ 0
 rotate_left
 ·
  rw [if_neg c4] at H; have c4b0 : decide (0 ≤ a1) = false := decide_eq_false c4; clear c4; obtain rfl := Option.some.inj H; go_enter Tryd.func45, Tryd.ntmps45
  go_wp2_with (first | ((with_reducible refine bq (N := 3) rfl ?_); refine l5 (N := 3) (cs := #[.int .i64 a0_0, .int .i64 a0_1, .int .i64 a0_2, .slice A0_3 l0_3.length c0_3]) (t := 35) ?_; intro gb105 hg w19 hbox hb; refine ax4 (af bel hb) hbox ((ge hg : w.heap.size ≤ gb105)) ((ge hg : w.heap.size ≤ gb105)) ?_; clear HB; intro HB BK105 GW105 GE105; clear hb hbox hg))
  go_ret; exact ⟨er, bes⟩

 rw [if_pos c4] at H; have c4b0 : decide (0 ≤ a1) = true := decide_eq_true c4; clear c4
 by_cases c5 : a1 < a0_0
 rotate_left
 ·
  rw [if_neg c5] at H; have c5b0 : decide (a1 < a0_0) = false := decide_eq_false c5; clear c5; obtain rfl := Option.some.inj H; go_enter Tryd.func45, Tryd.ntmps45
  go_wp2_with (first | ((with_reducible refine bq (N := 3) rfl ?_); refine l5 (N := 3) (cs := #[.int .i64 a0_0, .int .i64 a0_1, .int .i64 a0_2, .slice A0_3 l0_3.length c0_3]) (t := 35) ?_; intro gb105 hg w17 hbox hb; refine ax4 (af bel hb) hbox ((ge hg : w.heap.size ≤ gb105)) ((ge hg : w.heap.size ≤ gb105)) ?_; clear HB; intro HB BK105 GW105 GE105; clear hb hbox hg; have ⟨_, _⟩ := cf BK105 0 rfl; have ⟨_, _⟩ := cf BK105 1 rfl; have ⟨_, _⟩ := cf BK105 2 rfl; have ⟨_, _⟩ := cf BK105 3 rfl))
  go_ret; exact ⟨er, bes⟩
 rw [if_pos c5] at H; have c5b0 : decide (a1 < a0_0) = true := decide_eq_true c5; clear c5
 by_cases c6 : a2 ≥ 0
 rotate_left
 ·
  rw [if_neg c6] at H; have c6b0 : decide (0 ≤ a2) = false := decide_eq_false c6; clear c6; obtain rfl := Option.some.inj H; go_enter Tryd.func45, Tryd.ntmps45
  go_wp2_with (first | ((with_reducible refine bq (N := 3) rfl ?_); refine l5 (N := 3) (cs := #[.int .i64 a0_0, .int .i64 a0_1, .int .i64 a0_2, .slice A0_3 l0_3.length c0_3]) (t := 35) ?_; intro gb105 hg w15 hbox hb; refine ax4 (af bel hb) hbox ((ge hg : w.heap.size ≤ gb105)) ((ge hg : w.heap.size ≤ gb105)) ?_; clear HB; intro HB BK105 GW105 GE105; clear hb hbox hg; have ⟨_, _⟩ := cf BK105 0 rfl; have ⟨_, _⟩ := cf BK105 1 rfl; have ⟨_, _⟩ := cf BK105 2 rfl; have ⟨_, _⟩ := cf BK105 3 rfl))
  go_ret; exact ⟨er, bes⟩
 rw [if_pos c6] at H; have c6b0 : decide (0 ≤ a2) = true := decide_eq_true c6; clear c6
 by_cases c7 : a2 < a0_1
 rotate_left
 ·
  rw [if_neg c7] at H; have c7b0 : decide (a2 < a0_1) = false := decide_eq_false c7; clear c7; obtain rfl := Option.some.inj H; go_enter Tryd.func45, Tryd.ntmps45
  go_wp2_with (first | ((with_reducible refine bq (N := 3) rfl ?_); refine l5 (N := 3) (cs := #[.int .i64 a0_0, .int .i64 a0_1, .int .i64 a0_2, .slice A0_3 l0_3.length c0_3]) (t := 35) ?_; intro gb105 hg w13 hbox hb; refine ax4 (af bel hb) hbox ((ge hg : w.heap.size ≤ gb105)) ((ge hg : w.heap.size ≤ gb105)) ?_; clear HB; intro HB BK105 GW105 GE105; clear hb hbox hg; have ⟨_, _⟩ := cf BK105 0 rfl; have ⟨_, _⟩ := cf BK105 1 rfl; have ⟨_, _⟩ := cf BK105 2 rfl; have ⟨_, _⟩ := cf BK105 3 rfl))
  go_ret; exact ⟨er, bes⟩
 rw [if_pos c7] at H; have c7b0 : decide (a2 < a0_1) = true := decide_eq_true c7; clear c7
 by_cases c8 : a0_2 ≥ 0
 rotate_left
 ·
  rw [if_neg c8] at H; have c8b0 : decide (0 ≤ a0_2) = false := decide_eq_false c8; clear c8; obtain rfl := Option.some.inj H; go_enter Tryd.func45, Tryd.ntmps45
  go_wp2_with (first | ((with_reducible refine bq (N := 3) rfl ?_); refine l5 (N := 3) (cs := #[.int .i64 a0_0, .int .i64 a0_1, .int .i64 a0_2, .slice A0_3 l0_3.length c0_3]) (t := 35) ?_; intro gb105 hg w11 hbox hb; refine ax4 (af bel hb) hbox ((ge hg : w.heap.size ≤ gb105)) ((ge hg : w.heap.size ≤ gb105)) ?_; clear HB; intro HB BK105 GW105 GE105; clear hb hbox hg; have ⟨_, _⟩ := cf BK105 0 rfl; have ⟨_, _⟩ := cf BK105 1 rfl; have ⟨_, _⟩ := cf BK105 2 rfl; have ⟨_, _⟩ := cf BK105 3 rfl))
  go_ret; exact ⟨er, bes⟩
 rw [if_pos c8] at H; have c8b0 : decide (0 ≤ a0_2) = true := decide_eq_true c8; clear c8; obtain rfl := Option.some.inj H; go_enter Tryd.func45, Tryd.ntmps45
 go_wp2_with (first | ((with_reducible refine bq (N := 3) rfl ?_); refine l5 (N := 3) (cs := #[.int .i64 a0_0, .int .i64 a0_1, .int .i64 a0_2, .slice A0_3 l0_3.length c0_3]) (t := 35) ?_; intro gb105 hg w9 hbox hb; refine ax4 (af bel hb) hbox ((ge hg : w.heap.size ≤ gb105)) ((ge hg : w.heap.size ≤ gb105)) ?_; clear HB; intro HB BK105 GW105 GE105; clear hb hbox hg; have ⟨_, _⟩ := cf BK105 0 rfl; have ⟨_, _⟩ := cf BK105 1 rfl; have ⟨_, _⟩ := cf BK105 2 rfl; have ⟨_, _⟩ := cf BK105 3 rfl))
 go_ret; exact ⟨er, bes⟩
/-! ### je: function 19 -/
def je.f (a0_0 : Int) (a0_1 : Int) (a0_2 : Int) (l0_3 : List Int) (a1 : Int) (a2 : Int) : Option (Int) := (o6.f a0_0 a0_1 a0_2 l0_3 a1 a2).bind fun t107 => (if t107 = true then (if 0 ≤ (wrap64 ((wrap64 (a1 * a0_2)) + a2)) then (if (wrap64 ((wrap64 (a1 * a0_2)) + a2)) < (l0_3.length : Int) then (some (rd l0_3 (wrap64 ((wrap64 (a1 * a0_2)) + a2)))) else (none)) else (none)) else (some 9221120237041090560))
set_option maxHeartbeats 8000000 in
set_option maxRecDepth 100000 in
theorem je.calls (a0_0 : Int) (a0_1 : Int) (a0_2 : Int) (A0_3 : Option Addr) (c0_3 : Nat) (l0_3 : List Int) (a1 : Int) (a2 : Int) (r : Int) (w : World) (hr0_3 : Kd.C (Kd.int .u64) w A0_3 l0_3.length l0_3) (hc0_3 : l0_3.length ≤ c0_3) (h : je.f a0_0 a0_1 a0_2 l0_3 a1 a2 = some r) :
  Calls Tryd.prog 19 #[.agg #[.int .i64 a0_0, .int .i64 a0_1, .int .i64 a0_2, .slice A0_3 l0_3.length c0_3], .int .i64 a1, .int .i64 a2] w fun e w' => e = .returned (.int .u64 r) ∧ Below w.heap.size w w' := by
 have hu35 := Tryd.underlying35; have HR0_3 := aa.mk hr0_3; have HC0_3 := aa.mk hc0_3; clear hr0_3 hc0_3; have HB := aa.mk (Below.refl w.heap.size w); have H : ((o6.f a0_0 a0_1 a0_2 l0_3 a1 a2).bind fun t107 => (if t107 = true then (if 0 ≤ (wrap64 ((wrap64 (a1 * a0_2)) + a2)) then (if (wrap64 ((wrap64 (a1 * a0_2)) + a2)) < (l0_3.length : Int) then (some (rd l0_3 (wrap64 ((wrap64 (a1 * a0_2)) + a2)))) else (none)) else (none)) else (some 9221120237041090560))) = some r := h; clear h; obtain ⟨t107, A4, H⟩ := ob H; (try dsimp -simprocs only at H)
 by_cases c5 : t107 = true
 rotate_left
 ·
  replace c5 := Bool.eq_false_iff.mpr c5; subst c5; rw [if_neg (show ¬ (false = true) by decide)] at H; obtain rfl := Option.some.inj H; go_enter Tryd.func19, Tryd.ntmps19
  go_wp2_with (first | ((with_reducible refine bq (N := 3) rfl ?_); refine l5 (N := 3) (cs := #[.int .i64 a0_0, .int .i64 a0_1, .int .i64 a0_2, .slice A0_3 l0_3.length c0_3]) (t := 35) ?_; intro gb106 hg w13 hbox hb; refine ax4 (af bel hb) hbox ((ge hg : w.heap.size ≤ gb106)) ((ge hg : w.heap.size ≤ gb106)) ?_; clear HB; intro HB BK106 GW106 GE106; clear hb hbox hg; have ⟨_, _⟩ := cf BK106 0 rfl; have ⟨_, _⟩ := cf BK106 1 rfl; have ⟨_, _⟩ := cf BK106 2 rfl; have ⟨_, _⟩ := cf BK106 3 rfl) | ((with_reducible refine ag (f := 45) rfl ?_); refine df (some 10) rfl rfl Tryd.func45 (by kernel_rfl) rfl #[.agg #[.int .i64 a0_0, .int .i64 a0_1, .int .i64 a0_2, .slice A0_3 l0_3.length c0_3], .int .i64 a1, .int .i64 a2] rfl ga ?_; (with_reducible refine (o6.calls a0_0 a0_1 a0_2 _ _ l0_3 a1 a2 false _ ?side1 ?side2 A4.out).mono ?_); (case side1 => repeat (first | exact (Kd.uo HR0_3.out HB.out) | (with_reducible refine Kd.vo ?_ _) | (with_reducible refine Kd.wz ?_ _) | (with_reducible refine Kd.yl ?_))); (case side2 => exact HC0_3.out); rintro e w15 ⟨rfl, hb⟩; refine ⟨_, rfl, ?_⟩; refine ax2 (bb BK106 hb) (af bes hb) ?_; clear BK106; clear HB; intro BK106 HB; (try clear hb)))
  go_ret; exact ⟨er, bes⟩

 subst c5; rw [if_pos rfl] at H; obtain ⟨ji6, hji6⟩ : ∃ j_ : Int, (wrap64 ((wrap64 (a1 * a0_2)) + a2)) = j_ := ⟨_, rfl⟩; replace H : (if 0 ≤ (ji6) then (if (ji6) < (l0_3.length : Int) then (some (rd l0_3 (ji6))) else (none)) else (none)) = some r := by first | (rw [hji6] at H; exact H) | (simp only [hji6] at H ⊢; exact H)
 (try rw [hji6] at A4); have hji6w : (IntKind.i64.wrap ((wrap64 (a1 * a0_2)) + a2)) = ji6 := (jw _).trans hji6
 by_cases c7 : 0 ≤ (ji6)
 rotate_left
 ·
  rw [if_neg c7] at H; exact absurd H (by simp)
 rw [if_pos c7] at H; have c7b0 : decide (0 ≤ (ji6)) = true := decide_eq_true c7; clear c7
 by_cases c8 : (ji6) < (l0_3.length : Int)
 rotate_left
 ·
  rw [if_neg c8] at H; exact absurd H (by simp)
 rw [if_pos c8] at H; have c8b0 : decide ((ji6) < (l0_3.length : Int)) = true := decide_eq_true c8; clear c8; obtain rfl := Option.some.inj H; go_enter Tryd.func19, Tryd.ntmps19
 go_wp2_with (first | ((with_reducible refine bq (N := 3) rfl ?_); refine l5 (N := 3) (cs := #[.int .i64 a0_0, .int .i64 a0_1, .int .i64 a0_2, .slice A0_3 l0_3.length c0_3]) (t := 35) ?_; intro gb106 hg w9 hbox hb; refine ax4 (af bel hb) hbox ((ge hg : w.heap.size ≤ gb106)) ((ge hg : w.heap.size ≤ gb106)) ?_; clear HB; intro HB BK106 GW106 GE106; clear hb hbox hg; have ⟨_, _⟩ := cf BK106 0 rfl; have ⟨_, _⟩ := cf BK106 1 rfl; have ⟨_, _⟩ := cf BK106 2 rfl; have ⟨_, _⟩ := cf BK106 3 rfl) | ((with_reducible refine ag (f := 45) rfl ?_); refine df (some 10) rfl rfl Tryd.func45 (by kernel_rfl) rfl #[.agg #[.int .i64 a0_0, .int .i64 a0_1, .int .i64 a0_2, .slice A0_3 l0_3.length c0_3], .int .i64 a1, .int .i64 a2] rfl ga ?_; (with_reducible refine (o6.calls a0_0 a0_1 a0_2 _ _ l0_3 a1 a2 true _ ?side1 ?side2 A4.out).mono ?_); (case side1 => repeat (first | exact (Kd.uo HR0_3.out HB.out) | (with_reducible refine Kd.vo ?_ _) | (with_reducible refine Kd.wz ?_ _) | (with_reducible refine Kd.yl ?_))); (case side2 => exact HC0_3.out); rintro e w11 ⟨rfl, hb⟩; refine ⟨_, rfl, ?_⟩; refine ax2 (bb BK106 hb) (af bes hb) ?_; clear BK106; clear HB; intro BK106 HB; (try clear hb); have ⟨_, _⟩ := cf BK106 0 rfl; have ⟨_, _⟩ := cf BK106 1 rfl; have ⟨_, _⟩ := cf BK106 2 rfl; have ⟨_, _⟩ := cf BK106 3 rfl; have p108 : 0 ≤ ((ji6) : Int) := of_decide_eq_true (by first | (with_reducible assumption) | assumption); have q108 : (ji6) < (l0_3.length : Int) := of_decide_eq_true (by first | (with_reducible assumption) | assumption); obtain ⟨ad108, e108, hx108_0⟩ := Kd.lc HR0_3.out (ji6) p108 q108; cases e108; replace hx108_0 := (HB.out.cell (World.block_lt_of_cell? w _ hx108_0)).trans hx108_0; replace p108 := eq_true p108; replace q108 := eq_true q108))
 go_ret; exact ⟨by first | rfl | (simp [gu, gp] <;> rfl) | (simp only [← hji6]; first | rfl | (simp [gu, gp] <;> rfl)) | (simp [*, gu, gp] <;> rfl), bes⟩
/-! ### ay: function 36 -/
mutual
def ay.j0 : Nat → Bool → Int → Int → Int → List Int → Option (Int)
 | 0, _, _, _, _, _ => none
 | k + 1, x3, x110000, x110001, x110002, x110003 => if x3 = true then (some 4) else (if x110000 = 0 then (ay.j1 k true x110000 x110001 x110002 x110003) else (ay.j1 k (x110001 == 0) x110000 x110001 x110002 x110003))
def ay.j1 : Nat → Bool → Int → Int → Int → List Int → Option (Int)
 | 0, _, _, _, _, _ => none
 | k + 1, x34, x110000, x110001, x110002, x110003 => if x34 = true then (some 0) else (if (wrap64 ((wrap64 ((wrap64 (x110000 - 1)) * x110002)) + x110001)) > (x110003.length : Int) then (some 4) else (some 0))
end
def ay.f (k : Nat) (a0_0 : Int) (a0_1 : Int) (a0_2 : Int) (l0_3 : List Int) : Option (Int) := if a0_0 < 0 then (ay.j0 k true a0_0 a0_1 a0_2 l0_3) else (if a0_0 > 4096 then (ay.j0 k true a0_0 a0_1 a0_2 l0_3) else (if a0_1 < 0 then (ay.j0 k true a0_0 a0_1 a0_2 l0_3) else (if a0_1 > 4096 then (ay.j0 k true a0_0 a0_1 a0_2 l0_3) else (if a0_2 < a0_1 then (ay.j0 k true a0_0 a0_1 a0_2 l0_3) else (ay.j0 k (decide (a0_2 > 1099511627776)) a0_0 a0_1 a0_2 l0_3)))))
theorem ay.jm : ∀ k, (∀ y0 y1 y2 y3 y4, LeO (ay.j0 k y0 y1 y2 y3 y4) (ay.j0 (k + 1) y0 y1 y2 y3 y4)) ∧ (∀ y0 y1 y2 y3 y4, LeO (ay.j1 k y0 y1 y2 y3 y4) (ay.j1 (k + 1) y0 y1 y2 y3 y4))
 | 0 => ⟨fun _ _ _ _ _ r h => by simp [ay.j0] at h, fun _ _ _ _ _ r h => by simp [ay.j1] at h⟩
 | k + 1 => by
  obtain ⟨ih0, ih1⟩ := ay.jm k
  refine ⟨?_, ?_⟩ <;> intros <;> (first | unfold ay.j0 | unfold ay.j1) <;>
   repeat' with_reducible first | apply ih0 | apply ih1 | exact LeO.refl _ | exact LeO.none _ | refine LeO.ite ?_ ?_ | refine LeO.bind ?_ (fun _ => ?_)
theorem ay.mono : ∀ a0 a1 a2 a3 k, LeO (ay.f k a0 a1 a2 a3) (ay.f (k + 1) a0 a1 a2 a3) := by
 intro a0 a1 a2 a3 k; obtain ⟨ih0, ih1⟩ := ay.jm k
 unfold ay.f
 repeat' with_reducible first | apply ih0 | apply ih1 | exact LeO.refl _ | exact LeO.none _ | refine LeO.ite ?_ ?_ | refine LeO.bind ?_ (fun _ => ?_)
set_option maxHeartbeats 8000000 in
set_option maxRecDepth 100000 in
theorem ay.calls (k : Nat) (a0_0 : Int) (a0_1 : Int) (a0_2 : Int) (A0_3 : Option Addr) (c0_3 : Nat) (l0_3 : List Int) (r : Int) (w : World) (hr0_3 : Kd.C (Kd.int .u64) w A0_3 l0_3.length l0_3) (hc0_3 : l0_3.length ≤ c0_3) (h : ay.f k a0_0 a0_1 a0_2 l0_3 = some r) :
  Calls Tryd.prog 36 #[.agg #[.int .i64 a0_0, .int .i64 a0_1, .int .i64 a0_2, .slice A0_3 l0_3.length c0_3]] w fun e w' => e = .returned (.int .i64 r) ∧ Below w.heap.size w w' := by
 have hu35 := Tryd.underlying35; have HR0_3 := aa.mk hr0_3; have HC0_3 := aa.mk hc0_3; clear hr0_3 hc0_3; have HB := aa.mk (Below.refl w.heap.size w); have H : (if a0_0 < 0 then (ay.j0 k true a0_0 a0_1 a0_2 l0_3) else (if a0_0 > 4096 then (ay.j0 k true a0_0 a0_1 a0_2 l0_3) else (if a0_1 < 0 then (ay.j0 k true a0_0 a0_1 a0_2 l0_3) else (if a0_1 > 4096 then (ay.j0 k true a0_0 a0_1 a0_2 l0_3) else (if a0_2 < a0_1 then (ay.j0 k true a0_0 a0_1 a0_2 l0_3) else (ay.j0 k (decide (a0_2 > 1099511627776)) a0_0 a0_1 a0_2 l0_3)))))) = some r := h; clear h; have HC2 := aa.mk H; clear H; go_enter Tryd.func36, Tryd.ntmps36
 go_upto_region 1 with (first | ((with_reducible refine bq (N := 1) rfl ?_); refine l5 (N := 1) (cs := #[.int .i64 a0_0, .int .i64 a0_1, .int .i64 a0_2, .slice A0_3 l0_3.length c0_3]) (t := 35) ?_; intro gb109 hg w3 hbox hb; refine ax4 (af bel hb) hbox ((ge hg : w.heap.size ≤ gb109)) ((ge hg : w.heap.size ≤ gb109)) ?_; clear HB; intro HB BK109 GW109 GE109; clear hb hbox hg))
 (try simp only [Act.put, sa0, sa1, sa2])
 go_cut [3] (fun v3 wc => ∃ (kq : Nat) (x3_1 : Bool), v3 = .bool x3_1 ∧ aa (ay.j0 kq x3_1 a0_0 a0_1 a0_2 l0_3 = some r) ∧ aa (kq ≤ k) ∧ aa (wc.heap[gb109]? = some (.cells #[.int .i64 a0_0, .int .i64 a0_1, .int .i64 a0_2, (.slice A0_3 l0_3.length c0_3)] 35 (0, 0))) ∧ aa (Below w.heap.size w wc))
 case first =>
  have H := HC2.out; clear HC2
  by_cases c4 : a0_0 < 0
  ·
   rw [if_pos c4] at H; have c4b0 : decide (a0_0 < 0) = true := decide_eq_true c4; clear c4
   (first | rw [c4b0] | (simp only [jw, l8]; rw [c4b0]) | skip)
   have H' := aa.mk H; clear H; have ⟨_, _⟩ := cf BK109 0 rfl; have ⟨_, _⟩ := cf BK109 1 rfl; have ⟨_, _⟩ := cf BK109 2 rfl; have ⟨_, _⟩ := cf BK109 3 rfl; go_wp2; go_meet
   case rel => exact ⟨_, (true), (by first | rfl | (simp; done) | (simp [*]; done)), H', ⟨by first | omega | exact Nat.le_refl _⟩, ⟨kb BK109⟩, ⟨bes⟩⟩
  ·
   rw [if_neg c4] at H; have c4b0 : decide (a0_0 < 0) = false := decide_eq_false c4; clear c4
   (first | rw [c4b0] | (simp only [jw, l8]; rw [c4b0]) | skip)
   by_cases c6 : a0_0 > 4096
   ·
    rw [if_pos c6] at H; have c6b0 : decide (4096 < a0_0) = true := decide_eq_true c6; clear c6; have H' := aa.mk H; clear H; have ⟨_, _⟩ := cf BK109 0 rfl; have ⟨_, _⟩ := cf BK109 1 rfl; have ⟨_, _⟩ := cf BK109 2 rfl; have ⟨_, _⟩ := cf BK109 3 rfl; go_wp2; go_meet
    case rel => exact ⟨_, (true), (by first | rfl | (simp; done) | (simp [*]; done)), H', ⟨by first | omega | exact Nat.le_refl _⟩, ⟨kb BK109⟩, ⟨bes⟩⟩
   ·
    rw [if_neg c6] at H; have c6b0 : decide (4096 < a0_0) = false := decide_eq_false c6; clear c6
    by_cases c8 : a0_1 < 0
    ·
     rw [if_pos c8] at H; have c8b0 : decide (a0_1 < 0) = true := decide_eq_true c8; clear c8; have H' := aa.mk H; clear H; have ⟨_, _⟩ := cf BK109 0 rfl; have ⟨_, _⟩ := cf BK109 1 rfl; have ⟨_, _⟩ := cf BK109 2 rfl; have ⟨_, _⟩ := cf BK109 3 rfl; go_wp2; go_meet
     case rel => exact ⟨_, (true), (by first | rfl | (simp; done) | (simp [*]; done)), H', ⟨by first | omega | exact Nat.le_refl _⟩, ⟨kb BK109⟩, ⟨bes⟩⟩
    ·
     rw [if_neg c8] at H; have c8b0 : decide (a0_1 < 0) = false := decide_eq_false c8; clear c8
     by_cases c10 : a0_1 > 4096
     ·
      rw [if_pos c10] at H; have c10b0 : decide (4096 < a0_1) = true := decide_eq_true c10; clear c10; have H' := aa.mk H; clear H; have ⟨_, _⟩ := cf BK109 0 rfl; have ⟨_, _⟩ := cf BK109 1 rfl; have ⟨_, _⟩ := cf BK109 2 rfl; have ⟨_, _⟩ := cf BK109 3 rfl; go_wp2; go_meet
      case rel => exact ⟨_, (true), (by first | rfl | (simp; done) | (simp [*]; done)), H', ⟨by first | omega | exact Nat.le_refl _⟩, ⟨kb BK109⟩, ⟨bes⟩⟩
     ·
      rw [if_neg c10] at H; have c10b0 : decide (4096 < a0_1) = false := decide_eq_false c10; clear c10
      by_cases c12 : a0_2 < a0_1
      ·
       rw [if_pos c12] at H; have c12b0 : decide (a0_2 < a0_1) = true := decide_eq_true c12; clear c12; have H' := aa.mk H; clear H; have ⟨_, _⟩ := cf BK109 0 rfl; have ⟨_, _⟩ := cf BK109 1 rfl; have ⟨_, _⟩ := cf BK109 2 rfl; have ⟨_, _⟩ := cf BK109 3 rfl; go_wp2; go_meet
       case rel => exact ⟨_, (true), (by first | rfl | (simp; done) | (simp [*]; done)), H', ⟨by first | omega | exact Nat.le_refl _⟩, ⟨kb BK109⟩, ⟨bes⟩⟩
      ·
       rw [if_neg c12] at H; have c12b0 : decide (a0_2 < a0_1) = false := decide_eq_false c12; clear c12; have H' := aa.mk H; clear H; have ⟨_, _⟩ := cf BK109 0 rfl; have ⟨_, _⟩ := cf BK109 1 rfl; have ⟨_, _⟩ := cf BK109 2 rfl; have ⟨_, _⟩ := cf BK109 3 rfl; go_wp2; go_meet
       case rel => exact ⟨_, (decide (a0_2 > 1099511627776)), (by first | rfl | (simp; done) | (simp [*]; done)), H', ⟨by first | omega | exact Nat.le_refl _⟩, ⟨kb BK109⟩, ⟨bes⟩⟩
 case rest =>
  clear HC2
  obtain ⟨kq, x3_1, rfl, HA, HJ1, BK109, HB⟩ := hcut; cases kq with
  | zero => exact absurd HA.out (by simp [ay.j0])
  | succ kj1 =>
   have H := HA.out; clear HA; simp only [ay.j0] at H
   by_cases c15 : x3_1 = true
   ·
    subst c15; rw [if_pos rfl] at H; obtain rfl := Option.some.inj H; go_wp2; go_ret; exact ⟨er, bes⟩
   ·
    replace c15 := Bool.eq_false_iff.mpr c15; subst c15; rw [if_neg (show ¬ (false = true) by decide)] at H; have HC16 := aa.mk H; clear H
    go_upto_region 3 with (fail)
    go_cut [34] (fun v34 wc => ∃ (kq : Nat) (x34_15 : Bool), v34 = .bool x34_15 ∧ aa (ay.j1 kq x34_15 a0_0 a0_1 a0_2 l0_3 = some r) ∧ aa (kq ≤ kj1) ∧ aa (wc.heap[gb109]? = some (.cells #[.int .i64 a0_0, .int .i64 a0_1, .int .i64 a0_2, (.slice A0_3 l0_3.length c0_3)] 35 (0, 0))) ∧ aa (Below w.heap.size w wc))
    case first =>
     have H := HC16.out; clear HC16
     by_cases c17 : a0_0 = 0
     ·
      rw [if_pos c17] at H; have c17b0 := beq_iff_eq.mpr c17; have c17b1 := bne_eq_false_iff_eq.mpr c17; clear c17
      (first | rw [c17b0] | (simp only [jw, l8]; rw [c17b0]) | skip)
      have H' := aa.mk H; clear H; have ⟨_, _⟩ := cf BK109 0 rfl; have ⟨_, _⟩ := cf BK109 1 rfl; have ⟨_, _⟩ := cf BK109 2 rfl; have ⟨_, _⟩ := cf BK109 3 rfl; go_wp2; go_meet
      case rel => exact ⟨_, (true), (by first | rfl | (simp; done) | (simp [*]; done)), H', ⟨by have := HJ1.out; first | omega | exact Nat.le_refl _⟩, ⟨kb BK109⟩, ⟨bes⟩⟩
     ·
      rw [if_neg c17] at H; have c17b0 := beq_eq_false_iff_ne.mpr c17; have c17b1 := bne_iff_ne.mpr c17
      (first | rw [c17b0] | (simp only [jw, l8]; rw [c17b0]) | skip)
      have H' := aa.mk H; clear H; have ⟨_, _⟩ := cf BK109 0 rfl; have ⟨_, _⟩ := cf BK109 1 rfl; have ⟨_, _⟩ := cf BK109 2 rfl; have ⟨_, _⟩ := cf BK109 3 rfl; go_wp2; go_meet
      case rel => exact ⟨_, ((a0_1 == 0)), (by first | rfl | (simp; done) | (simp [*]; done)), H', ⟨by have := HJ1.out; first | omega | exact Nat.le_refl _⟩, ⟨kb BK109⟩, ⟨bes⟩⟩
    case rest =>
     clear HC16
     obtain ⟨kq, x34_15, rfl, HA, HJ15, BK109, HB⟩ := hcut; cases kq with
     | zero => exact absurd HA.out (by simp [ay.j1])
     | succ kj15 =>
      have H := HA.out; clear HA; simp only [ay.j1] at H
      by_cases c20 : x34_15 = true
      ·
       subst c20; rw [if_pos rfl] at H; obtain rfl := Option.some.inj H; go_wp2; go_ret; exact ⟨er, bes⟩
      ·
       replace c20 := Bool.eq_false_iff.mpr c20; subst c20; rw [if_neg (show ¬ (false = true) by decide)] at H
       by_cases c21 : (wrap64 ((wrap64 ((wrap64 (a0_0 - 1)) * a0_2)) + a0_1)) > (l0_3.length : Int)
       ·
        rw [if_pos c21] at H; have c21b0 : decide ((l0_3.length : Int) < (wrap64 ((wrap64 ((wrap64 (a0_0 - 1)) * a0_2)) + a0_1))) = true := decide_eq_true c21; clear c21; obtain rfl := Option.some.inj H; have ⟨_, _⟩ := cf BK109 0 rfl; have ⟨_, _⟩ := cf BK109 1 rfl; have ⟨_, _⟩ := cf BK109 2 rfl; have ⟨_, _⟩ := cf BK109 3 rfl; go_wp2; go_ret; exact ⟨er, bes⟩
       ·
        rw [if_neg c21] at H; have c21b0 : decide ((l0_3.length : Int) < (wrap64 ((wrap64 ((wrap64 (a0_0 - 1)) * a0_2)) + a0_1))) = false := decide_eq_false c21; clear c21; obtain rfl := Option.some.inj H; have ⟨_, _⟩ := cf BK109 0 rfl; have ⟨_, _⟩ := cf BK109 1 rfl; have ⟨_, _⟩ := cf BK109 2 rfl; have ⟨_, _⟩ := cf BK109 3 rfl; go_wp2; go_ret; exact ⟨er, bes⟩

/-- A state of type 45 at block g of W; what its slices lead to came in by w0. -/
def di (w0 W : World) (g : Nat) (f0 : Int) : Prop := W.heap[g]? = some (.cells #[.int .u8 f0] 45 (0, 0)) ∧ w0.heap.size ≤ g
theorem di.grown {w0 W : World} {g : Nat} {f0 : Int} {W1 : World} {row : Option Nat} (h : di w0 W g f0) (hw : W.grownBy W1 row) (hne : some g ≠ row) : di w0 W1 g f0 := by
 obtain ⟨hb, hg⟩ := h; exact ⟨mi hb hw hne, hg⟩
theorem di.own_neN {w0 W : World} {g : Nat} {f0 : Int} {α : Type} {d : Kd α} {e : Nat} {base : Nat} {ok : Nat → Prop} {v : Value} {xs : List α} (h : di w0 W g f0) (ho : Kd.N d e W base ok v xs) (ht : e ≠ 45) : some g ≠ v.ownBlock := by
 obtain ⟨hb, hg⟩ := h; exact Kd.N_ne ho hb ht
theorem di.fresh {w0 W : World} {g : Nat} {f0 : Int} (h : di w0 W g f0) : ∀ k, W.heap.size ≤ k → k ≠ g := by
 obtain ⟨hb, hg⟩ := h; exact Kd.freshB hb
theorem di.kept {w0 W : World} {g : Nat} {f0 : Int} {W1 : World} {S : Nat → Prop} (h : di w0 W g f0) (hk : Kept W W1 S) (hne : ¬ S g) : di w0 W1 g f0 := by
 obtain ⟨hb, hg⟩ := h; exact ⟨Eo hb hk hne, hg⟩
theorem di.below {w0 W : World} {g : Nat} {f0 : Int} {W1 : World} (h : di w0 W g f0) (hw : Below W.heap.size W W1) : di w0 W1 g f0 := h.grown (Ha hw none) (by simp)
theorem di.alloc {w0 W : World} {g : Nat} {f0 : Int} (h : di w0 W g f0) (o : Obj) : di w0 (W.alloc o) g f0 := h.below (ji (Below.refl _ _) o)
theorem di.drewN {w0 W : World} {g : Nat} {f0 : Int} (h : di w0 W g f0) (m : Nat) : di w0 (W.drewN m) g f0 := h
theorem di.drew {w0 W : World} {g : Nat} {f0 : Int} (h : di w0 W g f0) : di w0 W.drew g f0 := h
theorem di.at_ {w0 W : World} {g : Nat} {f0 : Int} {w' : World} {m : Nat} (hq : W.drewN m = w') (h : di w0 W g f0) : di w0 w' g f0 := by subst hq; exact di.drewN h m
theorem di.apart {w0 W : World} {g : Nat} {f0 : Int} {α : Type} {d : Kd α} {e : Nat} {base : Nat} {ok : Nat → Prop} {v : Value} {xs : List α} (h : di w0 W g f0) (ho : d.R e W base ok v xs) (ht : ∀ q, q ∈ e :: d.E → q ≠ 45) : d.R e W base (fun k => ok k ∧ k ≠ g) v xs := by
 obtain ⟨hb, hg⟩ := h; exact Kd.fe ho hb ht
theorem di.own_ne {w0 W : World} {g : Nat} {f0 : Int} {α : Type} {d : Kd α} {e : Nat} {base : Nat} {ok : Nat → Prop} {v : Value} {xs : List α} (h : di w0 W g f0) (ho : d.R e W base ok v xs) (ht : e ≠ 45) : some g ≠ v.ownBlock := by
 obtain ⟨hb, hg⟩ := h; exact Kd.vg ho hb ht
theorem di.apartQ {w0 W : World} {g : Nat} {f0 : Int} {α : Type} {d : Kd α} {e : Nat} {base : Nat} {ok : Nat → Prop} {v : Value} {xs : List α} (h : di w0 W g f0) (ho : d.Q e W base ok v xs) (ht : ∀ q, q ∈ e :: d.E → q ≠ 45) : d.Q e W base (fun k => ok k ∧ k ≠ g) v xs := by
 obtain ⟨hb, hg⟩ := h; exact Kd.Q_types ho hb ht
theorem di.own_neQ {w0 W : World} {g : Nat} {f0 : Int} {α : Type} {d : Kd α} {e : Nat} {base : Nat} {ok : Nat → Prop} {v : Value} {xs : List α} (h : di w0 W g f0) (ho : d.Q e W base ok v xs) (ht : e ≠ 45) : some g ≠ v.ownBlock := by
 obtain ⟨hb, hg⟩ := h; exact Kd.Q_ne ho hb ht
theorem di.apartS {w0 W : World} {g : Nat} {f0 : Int} {α : Type} {d : Kd α} {e : Nat} {base : Nat} {ok : Nat → Prop} {v : Value} {xs : List α} (h : di w0 W g f0) (ho : d.S e W base ok v xs) (ht : ∀ q, q ∈ e :: d.E → q ≠ 45) : d.S e W base (fun k => ok k ∧ k ≠ g) v xs := by
 obtain ⟨hb, hg⟩ := h; exact Kd.S_types ho hb ht
theorem di.own_neS {w0 W : World} {g : Nat} {f0 : Int} {α : Type} {d : Kd α} {e : Nat} {base : Nat} {ok : Nat → Prop} {v : Value} {xs : List α} (h : di w0 W g f0) (ho : d.S e W base ok v xs) (ht : e ≠ 45) : some g ≠ v.ownBlock := by
 obtain ⟨hb, hg⟩ := h; exact Kd.S_ne ho hb ht
theorem di.lt {w0 W : World} {g : Nat} {f0 : Int} (h : di w0 W g f0) : g < W.heap.size := by
 obtain ⟨hb, hg⟩ := h; exact De hb
theorem di.ge {w0 W : World} {g : Nat} {f0 : Int} (h : di w0 W g f0) : w0.heap.size ≤ g := by
 obtain ⟨hb, hg⟩ := h; exact hg
theorem di.ne_blk {w0 W : World} {g : Nat} {f0 : Int} {a : Nat} {cs : Array Value} {t : TypeId} {fr : Nat × Nat} (h : di w0 W g f0) (hb2 : W.heap[a]? = some (.cells cs t fr)) (ht : t ≠ 45) : g ≠ a := by
 obtain ⟨hb, hg⟩ := h; rintro rfl; rw [hb] at hb2; injection hb2 with hb2; injection hb2 with _ ht2; exact ht ht2.symm
theorem di.far {w0 W : World} {g : Nat} {f0 : Int} {p : Addr} (h : di w0 W g f0) (hne : g ≠ p.block) (u : Value) : di w0 (W.setCell p u) g f0 := by
 obtain ⟨hb, hg⟩ := h; exact ⟨yj hb hne u, hg⟩
theorem Fu {W : World} {g : Nat} {f0 : Int} (h : W.heap[g]? = some (.cells #[.int .u8 f0] 45 (0, 0))) : W.cell? ⟨g, 0, none⟩ = some (.int .u8 f0) := (Ce h 0).trans rfl
theorem di.Bb {w0 W : World} {g : Nat} {f0 : Int} (h : di w0 W g f0) (x : Int) : di w0 (W.setCell ⟨g, 0, none⟩ (.int .u8 x)) g x := by
 obtain ⟨hb, hg⟩ := h; exact ⟨by simpa using blk_set hb 0 (.int .u8 x), hg⟩
theorem di.new (w0 W : World) (f0 : Int) (hB : Below w0.heap.size w0 W) : di w0 (W.alloc (.cells #[.int .u8 f0] 45)) W.heap.size f0 := ⟨by simpa using heap_alloc_new W _, hB.size⟩
theorem yg {q p : Prop} (h0 : aa q) (h : q → p := by intro h; repeat (first | (with_reducible first | exact h | apply di.alloc | apply di.drewN | apply di.drew | apply di.Bb | refine di.far ?_ (aa.out (by assumption)) _) | exact h)) : p := h h0.out
theorem zm {B : Nat} {w W : World} (h : Below B w W := by repeat (first | (with_reducible first | exact aa.out (by assumption) | apply ji | apply iy | apply gy | refine jl ?_ (aa.out (by assumption)) | refine jl ?_ (di.ge (aa.out (by assumption)))) | exact aa.out (by assumption))) : Below B w W := h

/-! ### oq: function 58 -/
def oq.f (s0_0 : Int) (a1 : Int) (a2 : Int) : Option (Int × Int) := some (a1, Go.bits .or .u8 s0_0 a2)
set_option maxHeartbeats 8000000 in
set_option maxRecDepth 100000 in
theorem oq.calls (g : Nat) (s0_0 : Int) (a1 : Int) (a2 : Int) (r1 : Int) (r2 : Int) (w0 w : World) (hI : di w0 w g s0_0) (hB : Below w0.heap.size w0 w) (h : oq.f s0_0 a1 a2 = some (r1, r2)) :
  Calls Tryd.prog 58 #[.pointer (some ⟨g, 0, none⟩), .int .u64 a1, .int .u8 a2] w fun e w' => e = .returned (.int .u64 r1) ∧ di w0 w' g r2 ∧ Below w0.heap.size w0 w' ∧ fw w w' g none := by
 have HI0 := aa.mk hI; have HK := aa.mk (fw.refl w g none); have HL := aa.mk hB.size; clear hI; have HW0 := aa.mk hB.size; have HB := aa.mk hB; clear hB; have H : (some (a1, Go.bits .or .u8 s0_0 a2)) = some (r1, r2) := h; clear h; simp only [Option.some.injEq, Prod.mk.injEq] at H; obtain ⟨rfl, rfl⟩ := H; obtain ⟨HGz4, hgz4⟩ := HI0.out; have hcz4_0 := Fu HGz4; have hfz4_0 := jr HGz4 0; clear HGz4 hgz4; go_enter Tryd.func58, Tryd.ntmps58; go_wp2; go_ret; exact ⟨er, by repeat (first | (with_reducible first | exact HI0.out | apply di.alloc | apply di.drewN | apply di.drew | apply di.Bb) | exact HI0.out), by repeat (first | (with_reducible first | exact HB.out | apply ji | apply iy | apply gy | refine jl ?_ (di.ge HI0.out)) | exact HB.out), by repeat (first | (with_reducible first | exact HK.out | apply fw.set_ | apply xy | apply xh | apply xu) | exact HK.out)⟩

/-! ### l6: function 58 -/
def l6.f  (a1 : Int) (a2 : Int) : Option (Int) := some a1
set_option maxHeartbeats 8000000 in
set_option maxRecDepth 100000 in
theorem l6.calls  (a1 : Int) (a2 : Int) (r : Int) (w : World) (h : l6.f a1 a2 = some r) :
  Calls Tryd.prog 58 #[.pointer none, .int .u64 a1, .int .u8 a2] w fun e w' => e = .returned (.int .u64 r) ∧ dh w w' := by
 have H : (some a1) = some r := h; clear h; obtain rfl := Option.some.inj H; go_enter Tryd.func58, Tryd.ntmps58; go_wp2; go_ret; exact ⟨by first | rfl | (simp; done) | (simp [*]; done), by repeat (first | exact dh.refl _ | apply dh.step)⟩

/-! ### lh: function 29 -/
def lh.f (a0 : Int) : Option (Bool) := some ((a0 / 9223372036854775808) == 1)
set_option maxHeartbeats 8000000 in
set_option maxRecDepth 100000 in
theorem lh.calls (a0 : Int) (r : Bool) (w : World) (h : lh.f a0 = some r) :
  Calls Tryd.prog 29 #[.int .u64 a0] w fun e w' => e = .returned (.bool r) ∧ dh w w' := by
 have H : (some ((a0 / 9223372036854775808) == 1)) = some r := h; clear h; obtain rfl := Option.some.inj H; go_enter Tryd.func29, Tryd.ntmps29; go_wp2; go_ret; exact ⟨by first | rfl | (simp; done) | (simp [*]; done), by repeat (first | exact dh.refl _ | apply dh.step)⟩

/-! ### bits_Add64: function 52 -/
theorem goesX_ {P : Program} {ops : Array Oper} {Q : Exit → Act → World → Prop} {rest : List Oper} {oi : Oper} {a : Act} {w : World} (N : Option Tmp) (hd : oi.dst = N) (hg : oi.guard = none) {f : FuncId} {os : Array Operand} {ts : Array TypeId}
  (hop : oi.op = .call { callee := .value (.func f), args := os, argTypes := ts }) (args : Array Value) (hargs : os.map a.eval = args) (v : Value) (hx : (callFunc f args).run P w = .ok (.value v) w)
  (h : wpList P ops Q rest (a.put N v) w) : wpList P ops Q (oi :: rest) a w := by
 refine wpList_plain hg fun K hK => ?_
 have hrun : (execOp a.eval oi).run P w = .ok (.value v) w := by
  unfold execOp
  simp [hop, resolve, Deferred.ofValue, invoke, Act.eval, hargs, hx]
 unfold Oper.wp
 rw [hrun, Oper.upon_value]; subst hd; exact hK _ _ h
def bits_Add64.f (a0 a1 a2 : Int) : Option (Int × Int) := if 0 ≤ a0 then (if 0 ≤ a1 then (if 0 ≤ a2 then (if a2 ≤ 1 then (some ((a0 + a1 + a2) % 18446744073709551616, (a0 + a1 + a2) / 18446744073709551616)) else none) else none) else none) else none
theorem bits_Add64.run (a0 a1 a2 : Int) (r1 r2 : Int) (w : World) (h : bits_Add64.f a0 a1 a2 = some (r1, r2)) :
  (callFunc 52 #[.int .u64 a0, .int .u64 a1, .int .u64 a2]).run Tryd.prog w = .ok (.value (.tuple #[.int .u64 r1, .int .u64 r2])) w := by
 unfold bits_Add64.f at h
 by_cases h0 : 0 ≤ a0
 rotate_left
 ·
  rw [if_neg h0] at h; cases h

 by_cases h1 : 0 ≤ a1
 rotate_left
 ·
  rw [if_pos h0, if_neg h1] at h; cases h
 by_cases h2 : 0 ≤ a2
 rotate_left
 ·
  rw [if_pos h0, if_pos h1, if_neg h2] at h; cases h
 by_cases h3 : a2 ≤ 1
 rotate_left
 ·
  rw [if_pos h0, if_pos h1, if_pos h2, if_neg h3] at h; cases h
 rw [if_pos h0, if_pos h1, if_pos h2, if_pos h3] at h; simp only [Option.some.injEq, Prod.mk.injEq] at h; obtain ⟨rfl, rfl⟩ := h; rw [run_callFunc_extern Tryd.func52 (by kernel_rfl) (by kernel_rfl) (by kernel_rfl) (e := add64Entry) (by kernel_rfl), run_add64 a0 a1 a2 h0 h1 h2 h3]
 rfl
/-! ### o8: function 33 -/
def o8.f (a0_0 : Int) (a0_1 : Int) (a1_0 : Int) (a1_1 : Int) : Option (Int × Int × Bool) := (bits_Add64.f a0_1 a1_1 0).bind fun bt113 => ((bits_Add64.f a0_0 a1_0 bt113.2).bind fun bt115 => (some (bt115.1, bt113.1, (bt115.2 == 1))))
set_option maxHeartbeats 8000000 in
set_option maxRecDepth 100000 in
theorem o8.calls (a0_0 : Int) (a0_1 : Int) (a1_0 : Int) (a1_1 : Int) (r1 : Int) (r2 : Int) (r3 : Bool) (w : World) (h : o8.f a0_0 a0_1 a1_0 a1_1 = some (r1, r2, r3)) :
  Calls Tryd.prog 33 #[.agg #[.int .u64 a0_0, .int .u64 a0_1], .agg #[.int .u64 a1_0, .int .u64 a1_1]] w fun e w' => e = .returned (.tuple #[.agg #[.int .u64 r1, .int .u64 r2], .bool r3]) ∧ Below w.heap.size w w' := by
 have hu65 := Tryd.underlying65; have HB := aa.mk (Below.refl w.heap.size w); have H : ((bits_Add64.f a0_1 a1_1 0).bind fun bt113 => ((bits_Add64.f a0_0 a1_0 bt113.2).bind fun bt115 => (some (bt115.1, bt113.1, (bt115.2 == 1))))) = some (r1, r2, r3) := h; clear h; obtain ⟨⟨t113, t114⟩, A3, H⟩ := ob H; (try dsimp -simprocs only at H); obtain ⟨⟨t115, t116⟩, A4, H⟩ := ob H; (try dsimp -simprocs only at H); simp only [Option.some.injEq, Prod.mk.injEq] at H; obtain ⟨rfl, rfl, rfl⟩ := H; go_enter Tryd.func33, Tryd.ntmps33
 go_wp2_with (first | ((with_reducible refine bq (N := 2) rfl ?_); refine l5 (N := 2) (cs := #[.int .u64 a0_0, .int .u64 a0_1]) (t := 65) ?_; intro gb110 hg w5 hbox hb; refine ax4 (af bel hb) hbox ((ge hg : w.heap.size ≤ gb110)) ((ge hg : w.heap.size ≤ gb110)) ?_; clear HB; intro HB BK110 GW110 GE110; clear hb hbox hg) | ((with_reducible refine bq (N := 3) rfl ?_); refine l5 (N := 3) (cs := #[.int .u64 a1_0, .int .u64 a1_1]) (t := 65) ?_; intro gb111 hg w6 hbox hb; refine ax7 (bb BK110 hb) (af bes hb) hbox ((ge hg : w.heap.size ≤ gb111)) ((ge hg : w.heap.size ≤ gb111)) (nl hg BK110) (ng hg BK110) ?_; clear BK110; clear HB; intro BK110 HB BK111 GW111 GE111 NB110_111 NB111_110; clear hb hbox hg) | ((with_reducible refine bq (N := 4) rfl ?_); refine l5 (N := 4) (cs := #[.int .u64 0, .int .u64 0]) (t := 65) ?_; intro gb112 hg w7 hbox hb; refine ax10 (bb BK110 hb) (bb BK111 hb) (af bes hb) hbox ((ge hg : w.heap.size ≤ gb112)) ((ge hg : w.heap.size ≤ gb112)) (nl hg BK110) (ng hg BK110) (nl hg BK111) (ng hg BK111) ?_; clear BK110; clear BK111; clear HB; intro BK110 BK111 HB BK112 GW112 GE112 NB110_112 NB112_110 NB111_112 NB112_111; clear hb hbox hg; have hnb8 := NB110_111.out; have hnc8 := NB111_110.out; have hnb9 := NB110_112.out; have hnc9 := NB112_110.out; have ⟨_, _⟩ := cf BK110 0 rfl; have ⟨_, _⟩ := cf BK110 1 rfl; have hnb11 := NB111_112.out; have hnc11 := NB112_111.out; have ⟨_, _⟩ := cf BK111 0 rfl; have ⟨_, _⟩ := cf BK111 1 rfl) | ((with_reducible refine ag (f := 52) rfl ?_); refine goesX_ (some 14) rfl rfl rfl #[.int .u64 a0_1, .int .u64 a1_1, .int .u64 0] (by (try simp only [List.map_toArray, List.map_cons, List.map_nil]); first | done | rfl) _ (bits_Add64.run a0_1 a1_1 0 t113 t114 _ A3.out) ?_) | ((with_reducible refine ag (f := 52) rfl ?_); refine goesX_ (some 23) rfl rfl rfl #[.int .u64 a0_0, .int .u64 a1_0, .int .u64 t114] (by (try simp only [List.map_toArray, List.map_cons, List.map_nil]); first | done | rfl) _ (bits_Add64.run a0_0 a1_0 t114 t115 t116 _ A4.out) ?_; have ⟨_, _⟩ := cf BK112 0 rfl; have ⟨_, _⟩ := cf BK112 1 rfl))
 refine bodyPost_ret (ym rfl _ _ gb112 65 #[.int .u64 t115, .int .u64 t113] (0, 0) _ rfl (bp BK112) Tryd.underlying65 rfl (by kernel_rfl)) rfl ?_; exact ⟨er, bes⟩

/-! ### ic: function 34 -/
def ic.f (a0_0 : Int) (a0_1 : Int) (a1 : Int) : Option (Int × Int) := if a1 ≤ 0 then (some (a0_0, a0_1)) else (if a1 ≥ 128 then (some (0, 0)) else (if a1 ≥ 64 then (if 0 ≤ (wrap64 (a1 - 64)) then (some (shl .u64 a0_1 (wrap64 (a1 - 64)), 0)) else (none)) else (if 0 ≤ a1 then (if 0 ≤ (wrap64 (64 - a1)) then (some (Go.bits .or .u64 (shl .u64 a0_0 a1) (shr .u64 a0_1 (wrap64 (64 - a1))), shl .u64 a0_1 a1)) else (none)) else (none))))
def ic.T7 : Bool × List (List Nat × List Nat) := (true, [([], []), ([0], [0]), ([], []), ([1, 2], [1, 2]), ([], []), ([4], [4]), ([], []), ([6], [6]), ([5, 7], [5, 7]), ([3, 8], [3, 8]), ([], []), ([10], [10]), ([], []), ([11, 12], [11, 12]), ([9, 13], [9, 13]), ([14, 0, 1, 2, 3, 4, 5, 6, 7, 8, 9, 10, 11, 12, 13, 14], [14])])
def ic.B7 : List Nat := [0, 1, 0, 7, 0, 16, 0, 64, 240, 511, 0, 1024, 0, 7168, 16383, 32767]
theorem ic.tab7 : xe .any (opsOf Tryd.f34 7) = ic.T7 := by kernel_rfl
theorem ic.bits7 : r9 ic.T7.2 ic.B7 = true := by kernel_rfl
set_option maxHeartbeats 8000000 in
set_option maxRecDepth 100000 in
theorem ic.calls (a0_0 : Int) (a0_1 : Int) (a1 : Int) (r1 : Int) (r2 : Int) (w : World) (h : ic.f a0_0 a0_1 a1 = some (r1, r2)) :
  Calls Tryd.prog 34 #[.agg #[.int .u64 a0_0, .int .u64 a0_1], .int .i64 a1] w fun e w' => e = .returned (.agg #[.int .u64 r1, .int .u64 r2]) ∧ Below w.heap.size w w' := by
 have hu65 := Tryd.underlying65; have HB := aa.mk (Below.refl w.heap.size w); have H : (if a1 ≤ 0 then (some (a0_0, a0_1)) else (if a1 ≥ 128 then (some (0, 0)) else (if a1 ≥ 64 then (if 0 ≤ (wrap64 (a1 - 64)) then (some (shl .u64 a0_1 (wrap64 (a1 - 64)), 0)) else (none)) else (if 0 ≤ a1 then (if 0 ≤ (wrap64 (64 - a1)) then (some (Go.bits .or .u64 (shl .u64 a0_0 a1) (shr .u64 a0_1 (wrap64 (64 - a1))), shl .u64 a0_1 a1)) else (none)) else (none))))) = some (r1, r2) := h; clear h
 by_cases c3 : a1 ≤ 0
 ·
  rw [if_pos c3] at H; have c3b0 : decide (a1 ≤ 0) = true := decide_eq_true c3; clear c3; simp only [Option.some.injEq, Prod.mk.injEq] at H; obtain ⟨rfl, rfl⟩ := H; go_enter Tryd.func34, Tryd.ntmps34
  go_wp2_with (first | ((with_reducible refine bq (N := 2) rfl ?_); refine l5 (N := 2) (cs := #[.int .u64 a0_0, .int .u64 a0_1]) (t := 65) ?_; intro gb117 hg w4 hbox hb; refine ax4 (af bel hb) hbox ((ge hg : w.heap.size ≤ gb117)) ((ge hg : w.heap.size ≤ gb117)) ?_; clear HB; intro HB BK117 GW117 GE117; clear hb hbox hg) | ((with_reducible refine bq (N := 4) rfl ?_); refine l5 (N := 4) (cs := #[.int .u64 0, .int .u64 0]) (t := 65) ?_; intro gb118 hg w5 hbox hb; refine ax7 (bb BK117 hb) (af bes hb) hbox ((ge hg : w.heap.size ≤ gb118)) ((ge hg : w.heap.size ≤ gb118)) (nl hg BK117) (ng hg BK117) ?_; clear BK117; clear HB; intro BK117 HB BK118 GW118 GE118 NB117_118 NB118_117; clear hb hbox hg; have hnb6 := NB117_118.out; have hnc6 := NB118_117.out; have ⟨_, _⟩ := cf BK117 0 rfl; have ⟨_, _⟩ := cf BK117 1 rfl; have ⟨_, _⟩ := cf BK118 0 rfl; have ⟨_, _⟩ := cf BK118 1 rfl))
  refine bodyPost_ret (results_cell_row rfl _ _ gb118 65 #[.int .u64 a0_0, .int .u64 a0_1] (0, 0) _ rfl (bp BK118) Tryd.underlying65 rfl (by kernel_rfl)) rfl ?_; exact ⟨er, bes⟩
 ·
  rw [if_neg c3] at H; have c3b0 : decide (a1 ≤ 0) = false := decide_eq_false c3; clear c3
  by_cases c9 : a1 ≥ 128
  ·
   rw [if_pos c9] at H; have c9b0 : decide (128 ≤ a1) = true := decide_eq_true c9; clear c9; simp only [Option.some.injEq, Prod.mk.injEq] at H; obtain ⟨rfl, rfl⟩ := H; go_enter Tryd.func34, Tryd.ntmps34
   go_wp2_with (first | ((with_reducible refine bq (N := 2) rfl ?_); refine l5 (N := 2) (cs := #[.int .u64 a0_0, .int .u64 a0_1]) (t := 65) ?_; intro gb117 hg w10 hbox hb; refine ax4 (af bel hb) hbox ((ge hg : w.heap.size ≤ gb117)) ((ge hg : w.heap.size ≤ gb117)) ?_; clear HB; intro HB BK117 GW117 GE117; clear hb hbox hg) | ((with_reducible refine bq (N := 4) rfl ?_); refine l5 (N := 4) (cs := #[.int .u64 0, .int .u64 0]) (t := 65) ?_; intro gb118 hg w11 hbox hb; refine ax7 (bb BK117 hb) (af bes hb) hbox ((ge hg : w.heap.size ≤ gb118)) ((ge hg : w.heap.size ≤ gb118)) (nl hg BK117) (ng hg BK117) ?_; clear BK117; clear HB; intro BK117 HB BK118 GW118 GE118 NB117_118 NB118_117; clear hb hbox hg; have hnb12 := NB118_117.out; have hnc12 := NB117_118.out; have ⟨_, _⟩ := cf BK118 0 rfl; have ⟨_, _⟩ := cf BK118 1 rfl))
   refine bodyPost_ret (results_cell_row rfl _ _ gb118 65 #[.int .u64 0, .int .u64 0] (0, 0) _ rfl (bp BK118) Tryd.underlying65 rfl (by kernel_rfl)) rfl ?_; exact ⟨er, bes⟩
  ·
   rw [if_neg c9] at H; have c9b0 : decide (128 ≤ a1) = false := decide_eq_false c9; clear c9
   by_cases c14 : a1 ≥ 64
   ·
    rw [if_pos c14] at H; have c14b0 : decide (64 ≤ a1) = true := decide_eq_true c14; clear c14; obtain ⟨ji15, hji15⟩ : ∃ j_ : Int, (wrap64 (a1 - 64)) = j_ := ⟨_, rfl⟩; replace H : (if 0 ≤ (ji15) then (some (shl .u64 a0_1 (ji15), 0)) else (none)) = some (r1, r2) := by first | (rw [hji15] at H; exact H) | (simp only [hji15] at H ⊢; exact H)
    have hji15w : (IntKind.i64.wrap (a1 - 64)) = ji15 := (jw _).trans hji15
    by_cases c16 : 0 ≤ (ji15)
    rotate_left
    ·
     rw [if_neg c16] at H; exact absurd H (by simp)
    rw [if_pos c16] at H; have c16b0 := eq_true c16; have c16b1 := decide_eq_true c16; clear c16; obtain ⟨ji17, hji17⟩ : ∃ j_ : Int, (shl .u64 a0_1 (ji15)) = j_ := ⟨_, rfl⟩; replace H : (some (ji17, 0)) = some (r1, r2) := by first | (rw [hji17] at H; exact H) | (simp only [hji17] at H ⊢; exact H)
    have hji17_ : (IntKind.u64.wrap (a0_1 * 2 ^ min (ji15).toNat 64)) = ji17 := hji17; have hji17z : (ji15) ≤ 64 → (IntKind.u64.wrap (a0_1 * 2 ^ (ji15).toNat)) = ji17 := xn hji17; simp only [Option.some.injEq, Prod.mk.injEq] at H; obtain ⟨rfl, rfl⟩ := H; go_enter Tryd.func34, Tryd.ntmps34
    go_wp2_with (first | ((with_reducible refine bq (N := 2) rfl ?_); refine l5 (N := 2) (cs := #[.int .u64 a0_0, .int .u64 a0_1]) (t := 65) ?_; intro gb117 hg w18 hbox hb; refine ax4 (af bel hb) hbox ((ge hg : w.heap.size ≤ gb117)) ((ge hg : w.heap.size ≤ gb117)) ?_; clear HB; intro HB BK117 GW117 GE117; clear hb hbox hg) | ((with_reducible refine bq (N := 4) rfl ?_); refine l5 (N := 4) (cs := #[.int .u64 0, .int .u64 0]) (t := 65) ?_; intro gb118 hg w19 hbox hb; refine ax7 (bb BK117 hb) (af bes hb) hbox ((ge hg : w.heap.size ≤ gb118)) ((ge hg : w.heap.size ≤ gb118)) (nl hg BK117) (ng hg BK117) ?_; clear BK117; clear HB; intro BK117 HB BK118 GW118 GE118 NB117_118 NB118_117; clear hb hbox hg; have hnb20 := NB117_118.out; have hnc20 := NB118_117.out; have ⟨_, _⟩ := cf BK117 0 rfl; have ⟨_, _⟩ := cf BK117 1 rfl; have ⟨_, _⟩ := cf BK118 0 rfl; have ⟨_, _⟩ := cf BK118 1 rfl))
    refine bodyPost_ret (results_cell_row rfl _ _ gb118 65 #[.int .u64 ji17, .int .u64 0] (0, 0) _ rfl (bp BK118) Tryd.underlying65 rfl (by kernel_rfl)) rfl ?_; exact ⟨by first | rfl | (simp [gu, gp] <;> rfl) | (simp only [← hji15, ← hji17]; first | rfl | (simp [gu, gp] <;> rfl)) | (simp [*, gu, gp] <;> rfl), bes⟩
   ·
    rw [if_neg c14] at H; have c14b0 : decide (64 ≤ a1) = false := decide_eq_false c14; clear c14
    by_cases c23 : 0 ≤ a1
    rotate_left
    ·
     rw [if_neg c23] at H; exact absurd H (by simp)

    rw [if_pos c23] at H; have c23b0 := eq_true c23; have c23b1 := decide_eq_true c23; clear c23; obtain ⟨ji24, hji24⟩ : ∃ j_ : Int, (shl .u64 a0_0 a1) = j_ := ⟨_, rfl⟩; replace H : (if 0 ≤ (wrap64 (64 - a1)) then (some (Go.bits .or .u64 (ji24) (shr .u64 a0_1 (wrap64 (64 - a1))), shl .u64 a0_1 a1)) else (none)) = some (r1, r2) := by first | (rw [hji24] at H; exact H) | (simp only [hji24] at H ⊢; exact H)
    have hji24_ : (IntKind.u64.wrap (a0_0 * 2 ^ min a1.toNat 64)) = ji24 := hji24; have hji24z : a1 ≤ 64 → (IntKind.u64.wrap (a0_0 * 2 ^ a1.toNat)) = ji24 := xn hji24; obtain ⟨ji25, hji25⟩ : ∃ j_ : Int, (wrap64 (64 - a1)) = j_ := ⟨_, rfl⟩; replace H : (if 0 ≤ (ji25) then (some (Go.bits .or .u64 (ji24) (shr .u64 a0_1 (ji25)), shl .u64 a0_1 a1)) else (none)) = some (r1, r2) := by first | (rw [hji25] at H; exact H) | (simp only [hji25] at H ⊢; exact H)
    have hji25w : (IntKind.i64.wrap (64 - a1)) = ji25 := (jw _).trans hji25
    by_cases c26 : 0 ≤ (ji25)
    rotate_left
    ·
     rw [if_neg c26] at H; exact absurd H (by simp)
    rw [if_pos c26] at H; have c26b0 := eq_true c26; have c26b1 := decide_eq_true c26; clear c26; obtain ⟨ji27, hji27⟩ : ∃ j_ : Int, (shr .u64 a0_1 (ji25)) = j_ := ⟨_, rfl⟩; replace H : (some (Go.bits .or .u64 (ji24) (ji27), shl .u64 a0_1 a1)) = some (r1, r2) := by first | (rw [hji27] at H; exact H) | (simp only [hji27] at H ⊢; exact H)
    have hji27_ : (a0_1 / 2 ^ min (ji25).toNat 64) = ji27 := hji27; have hji27z : (ji25) ≤ 64 → (a0_1 / 2 ^ (ji25).toNat) = ji27 := yx hji27; have c28b0 := eq_true (of_decide_eq_true (by first | (with_reducible assumption) | assumption) : 0 ≤ a1); obtain ⟨ji29, hji29⟩ : ∃ j_ : Int, (shl .u64 a0_1 a1) = j_ := ⟨_, rfl⟩; replace H : (some (Go.bits .or .u64 (ji24) (ji27), ji29)) = some (r1, r2) := by first | (rw [hji29] at H; exact H) | (simp only [hji29] at H ⊢; exact H)
    have hji29_ : (IntKind.u64.wrap (a0_1 * 2 ^ min a1.toNat 64)) = ji29 := hji29; have hji29z : a1 ≤ 64 → (IntKind.u64.wrap (a0_1 * 2 ^ a1.toNat)) = ji29 := xn hji29; simp only [Option.some.injEq, Prod.mk.injEq] at H; obtain ⟨rfl, rfl⟩ := H; go_enter Tryd.func34, Tryd.ntmps34
    try go_wp2_with (first | ((with_reducible refine bq (N := 2) rfl ?_); refine l5 (N := 2) (cs := #[.int .u64 a0_0, .int .u64 a0_1]) (t := 65) ?_; intro gb117 hg w30 hbox hb; refine ax4 (af bel hb) hbox ((ge hg : w.heap.size ≤ gb117)) ((ge hg : w.heap.size ≤ gb117)) ?_; clear HB; intro HB BK117 GW117 GE117; clear hb hbox hg) | ((with_reducible refine bq (N := 4) rfl ?_); refine l5 (N := 4) (cs := #[.int .u64 0, .int .u64 0]) (t := 65) ?_; intro gb118 hg w31 hbox hb; refine ax7 (bb BK117 hb) (af bes hb) hbox ((ge hg : w.heap.size ≤ gb118)) ((ge hg : w.heap.size ≤ gb118)) (nl hg BK117) (ng hg BK117) ?_; clear BK117; clear HB; intro BK117 HB BK118 GW118 GE118 NB117_118 NB118_117; clear hb hbox hg))
    refine ax3 (dz BK117.out) (dz BK118.out) (gy HB.out) ?_; clear BK117 BK118 HB; intro BK117 BK118 HB; refine vk (n := 16) (S := fun w' => w'.cell? ⟨gb117, 0, none⟩ = some (.int .u64 a0_0) ∧ w'.cell? ⟨gb117, 1, none⟩ = some (.int .u64 a0_1)) (ds := []) #[false, false, false, false, false, false, false, false, false, false, false, false, false, false, false, false] (by kernel_rfl) rfl rfl ⟨bk BK117 0, bk BK117 1⟩ (fun hHeld => ?_); refine qa ic.tab7 ic.bits7 (fun HT_ HW_ => ?_)
    generalize w31.drew = w32 at BK117 BK118 HB hHeld ⊢
    refine pu 0 22 (lm 16 1) HT_ ?_; refine pu 2 24 (lm 16 5) HT_ ?_; refine pu 4 26 (lm 16 21) HT_ ?_; refine pu 6 28 (lm 16 85) HT_ ?_; refine pu 7 29 (lm 16 213) HT_ ?_; refine pu 10 32 (lm 16 1237) HT_ ?_; refine pu 12 34 (lm 16 5333) HT_ ?_; refine ta 1 23 (lm 16 5335) HT_ HW_ hHeld ?_; refine pu 3 25 (lm 16 5343) HT_ ?_; refine ta 5 27 (lm 16 5375) HT_ HW_ hHeld ?_; refine pu 8 30 (lm 16 5631) HT_ ?_; refine pu 9 31 (lm 16 6143) HT_ ?_; refine ta 11 33 (lm 16 8191) HT_ HW_ hHeld ?_; refine pu 13 35 (lm 16 16383) HT_ ?_; refine pu 14 36 (lm 16 32767) HT_ ?_; refine on 15 none (lm 16 65535) HT_ (fun K hK => ?_); have hs33 : w32.cell? ⟨gb118, 0, none⟩ = some (.int .u64 0) := bk BK118 0; have hfs33 := jr BK118.out 0; have hns33_0 := NB117_118.out; have hms33_0 := NB118_117.out; have hs34 : w32.cell? ⟨gb118, 1, none⟩ = some (.int .u64 0) := bk BK118 1; have hfs34 := jr BK118.out 1; have hns34_0 := NB117_118.out; have hms34_0 := NB118_117.out; refine Av (w1 := ?_) (by rfl) rfl ?_ ?_; rotate_left
    ·
     go_simp
     rfl
    refine hK.out _ _ ⟨((cell_far (p := ⟨gb118, _, none⟩) NB117_118.out _).trans (((cell_far (p := ⟨gb118, _, none⟩) NB117_118.out _).trans (hHeld.1)))), ((cell_far (p := ⟨gb118, _, none⟩) NB117_118.out _).trans (((cell_far (p := ⟨gb118, _, none⟩) NB117_118.out _).trans (hHeld.2))))⟩ (fun hHeld => ?_); clear hK K; refine zg (uy HT_.out (by kernel_rfl)) ?_
    try go_wp2
    refine bodyPost_ret (results_cell_row rfl _ _ gb118 65 #[.int .u64 (Go.bits .or .u64 (ji24) (ji27)), .int .u64 ji29] (0, 0) _ rfl (bp BK118) Tryd.underlying65 rfl (by kernel_rfl)) rfl ?_; exact ⟨by first | rfl | (simp [gu, gp] <;> rfl) | (simp only [← hji24, ← hji25, ← hji27, ← hji29]; first | rfl | (simp [gu, gp] <;> rfl)) | (simp [*, gu, gp] <;> rfl), bes⟩
/-! ### lg: function 53 -/
def lg.f (a0_0 : Int) (a0_1 : Int) : Option (Bool) := some ((Go.bits .or .u64 a0_0 a0_1) == 0)
set_option maxHeartbeats 8000000 in
set_option maxRecDepth 100000 in
theorem lg.calls (a0_0 : Int) (a0_1 : Int) (r : Bool) (w : World) (h : lg.f a0_0 a0_1 = some r) :
  Calls Tryd.prog 53 #[.agg #[.int .u64 a0_0, .int .u64 a0_1]] w fun e w' => e = .returned (.bool r) ∧ Below w.heap.size w w' := by
 have hu65 := Tryd.underlying65; have HB := aa.mk (Below.refl w.heap.size w); have H : (some ((Go.bits .or .u64 a0_0 a0_1) == 0)) = some r := h; clear h; obtain rfl := Option.some.inj H; go_enter Tryd.func53, Tryd.ntmps53
 go_wp2_with (first | ((with_reducible refine bq (N := 1) rfl ?_); refine l5 (N := 1) (cs := #[.int .u64 a0_0, .int .u64 a0_1]) (t := 65) ?_; intro gb119 hg w2 hbox hb; refine ax4 (af bel hb) hbox ((ge hg : w.heap.size ≤ gb119)) ((ge hg : w.heap.size ≤ gb119)) ?_; clear HB; intro HB BK119 GW119 GE119; clear hb hbox hg; have ⟨_, _⟩ := cf BK119 0 rfl; have ⟨_, _⟩ := cf BK119 1 rfl))
 go_ret; exact ⟨er, bes⟩

/-! ### ko: function 54 -/
def ko.f (a0 : Bool) (a1 : Int) (a2 : Int) : Option (Int) := if a0 = true then (some (Go.bits .or .u64 (Go.bits .or .u64 (IntKind.u64.wrap ((Go.bits .and .u64 (IntKind.u64.wrap (a1)) 2047) * 4503599627370496)) (Go.bits .and .u64 a2 4503599627370495)) 9223372036854775808)) else (some (Go.bits .or .u64 (IntKind.u64.wrap ((Go.bits .and .u64 (IntKind.u64.wrap (a1)) 2047) * 4503599627370496)) (Go.bits .and .u64 a2 4503599627370495)))
set_option maxHeartbeats 8000000 in
set_option maxRecDepth 100000 in
theorem ko.calls (a0 : Bool) (a1 : Int) (a2 : Int) (r : Int) (w : World) (h : ko.f a0 a1 a2 = some r) :
  Calls Tryd.prog 54 #[.bool a0, .int .i64 a1, .int .u64 a2] w fun e w' => e = .returned (.int .u64 r) ∧ dh w w' := by
 have H : (if a0 = true then (some (Go.bits .or .u64 (Go.bits .or .u64 (IntKind.u64.wrap ((Go.bits .and .u64 (IntKind.u64.wrap (a1)) 2047) * 4503599627370496)) (Go.bits .and .u64 a2 4503599627370495)) 9223372036854775808)) else (some (Go.bits .or .u64 (IntKind.u64.wrap ((Go.bits .and .u64 (IntKind.u64.wrap (a1)) 2047) * 4503599627370496)) (Go.bits .and .u64 a2 4503599627370495)))) = some r := h; clear h
 by_cases c4 : a0 = true
 ·
  subst c4; rw [if_pos rfl] at H; obtain rfl := Option.some.inj H; go_enter Tryd.func54, Tryd.ntmps54; go_wp2; go_ret; exact ⟨by first | rfl | (simp; done) | (simp [*]; done), by repeat (first | exact dh.refl _ | apply dh.step)⟩
 ·
  replace c4 := Bool.eq_false_iff.mpr c4; subst c4; rw [if_neg (show ¬ (false = true) by decide)] at H; obtain rfl := Option.some.inj H; go_enter Tryd.func54, Tryd.ntmps54; go_wp2; go_ret; exact ⟨by first | rfl | (simp; done) | (simp [*]; done), by repeat (first | exact dh.refl _ | apply dh.step)⟩

/-! ### bits_Len64: function 69 -/
def bits_Len64.j0 : Nat → Int → Int → Option (Int)
 | 0, _, _ => none
 | k + 1, x0, x2 => if x0 ≥ 65536 then (if (x0 / 65536) ≥ 256 then (if 0 ≤ (((x0 / 65536) / 256) % 256) then (if (((x0 / 65536) / 256) % 256) < 256 then (some (wrap64 ((wrap64 ((wrap64 (x2 + 16)) + 8)) + (wrap64 (bt (⟨#[0, 1, 2, 2, 3, 3, 3, 3, 4, 4, 4, 4, 4, 4, 4, 4, 5, 5, 5, 5, 5, 5, 5, 5, 5, 5, 5, 5, 5, 5, 5, 5, 6, 6, 6, 6, 6, 6, 6, 6, 6, 6, 6, 6, 6, 6, 6, 6, 6, 6, 6, 6, 6, 6, 6, 6, 6, 6, 6, 6, 6, 6, 6, 6, 7, 7, 7, 7, 7, 7, 7, 7, 7, 7, 7, 7, 7, 7, 7, 7, 7, 7, 7, 7, 7, 7, 7, 7, 7, 7, 7, 7, 7, 7, 7, 7, 7, 7, 7, 7, 7, 7, 7, 7, 7, 7, 7, 7, 7, 7, 7, 7, 7, 7, 7, 7, 7, 7, 7, 7, 7, 7, 7, 7, 7, 7, 7, 7, 8, 8, 8, 8, 8, 8, 8, 8, 8, 8, 8, 8, 8, 8, 8, 8, 8, 8, 8, 8, 8, 8, 8, 8, 8, 8, 8, 8, 8, 8, 8, 8, 8, 8, 8, 8, 8, 8, 8, 8, 8, 8, 8, 8, 8, 8, 8, 8, 8, 8, 8, 8, 8, 8, 8, 8, 8, 8, 8, 8, 8, 8, 8, 8, 8, 8, 8, 8, 8, 8, 8, 8, 8, 8, 8, 8, 8, 8, 8, 8, 8, 8, 8, 8, 8, 8, 8, 8, 8, 8, 8, 8, 8, 8, 8, 8, 8, 8, 8, 8, 8, 8, 8, 8, 8, 8, 8, 8, 8, 8, 8, 8, 8, 8, 8, 8, 8, 8, 8, 8, 8, 8, 8, 8, 8, 8, 8, 8]⟩ : ByteArray) (((x0 / 65536) / 256) % 256)))))) else (none)) else (none)) else (if 0 ≤ ((x0 / 65536) % 256) then (if ((x0 / 65536) % 256) < 256 then (some (wrap64 ((wrap64 (x2 + 16)) + (wrap64 (bt (⟨#[0, 1, 2, 2, 3, 3, 3, 3, 4, 4, 4, 4, 4, 4, 4, 4, 5, 5, 5, 5, 5, 5, 5, 5, 5, 5, 5, 5, 5, 5, 5, 5, 6, 6, 6, 6, 6, 6, 6, 6, 6, 6, 6, 6, 6, 6, 6, 6, 6, 6, 6, 6, 6, 6, 6, 6, 6, 6, 6, 6, 6, 6, 6, 6, 7, 7, 7, 7, 7, 7, 7, 7, 7, 7, 7, 7, 7, 7, 7, 7, 7, 7, 7, 7, 7, 7, 7, 7, 7, 7, 7, 7, 7, 7, 7, 7, 7, 7, 7, 7, 7, 7, 7, 7, 7, 7, 7, 7, 7, 7, 7, 7, 7, 7, 7, 7, 7, 7, 7, 7, 7, 7, 7, 7, 7, 7, 7, 7, 8, 8, 8, 8, 8, 8, 8, 8, 8, 8, 8, 8, 8, 8, 8, 8, 8, 8, 8, 8, 8, 8, 8, 8, 8, 8, 8, 8, 8, 8, 8, 8, 8, 8, 8, 8, 8, 8, 8, 8, 8, 8, 8, 8, 8, 8, 8, 8, 8, 8, 8, 8, 8, 8, 8, 8, 8, 8, 8, 8, 8, 8, 8, 8, 8, 8, 8, 8, 8, 8, 8, 8, 8, 8, 8, 8, 8, 8, 8, 8, 8, 8, 8, 8, 8, 8, 8, 8, 8, 8, 8, 8, 8, 8, 8, 8, 8, 8, 8, 8, 8, 8, 8, 8, 8, 8, 8, 8, 8, 8, 8, 8, 8, 8, 8, 8, 8, 8, 8, 8, 8, 8, 8, 8, 8, 8, 8, 8]⟩ : ByteArray) ((x0 / 65536) % 256)))))) else (none)) else (none))) else (if x0 ≥ 256 then (if 0 ≤ ((x0 / 256) % 256) then (if ((x0 / 256) % 256) < 256 then (some (wrap64 ((wrap64 (x2 + 8)) + (wrap64 (bt (⟨#[0, 1, 2, 2, 3, 3, 3, 3, 4, 4, 4, 4, 4, 4, 4, 4, 5, 5, 5, 5, 5, 5, 5, 5, 5, 5, 5, 5, 5, 5, 5, 5, 6, 6, 6, 6, 6, 6, 6, 6, 6, 6, 6, 6, 6, 6, 6, 6, 6, 6, 6, 6, 6, 6, 6, 6, 6, 6, 6, 6, 6, 6, 6, 6, 7, 7, 7, 7, 7, 7, 7, 7, 7, 7, 7, 7, 7, 7, 7, 7, 7, 7, 7, 7, 7, 7, 7, 7, 7, 7, 7, 7, 7, 7, 7, 7, 7, 7, 7, 7, 7, 7, 7, 7, 7, 7, 7, 7, 7, 7, 7, 7, 7, 7, 7, 7, 7, 7, 7, 7, 7, 7, 7, 7, 7, 7, 7, 7, 8, 8, 8, 8, 8, 8, 8, 8, 8, 8, 8, 8, 8, 8, 8, 8, 8, 8, 8, 8, 8, 8, 8, 8, 8, 8, 8, 8, 8, 8, 8, 8, 8, 8, 8, 8, 8, 8, 8, 8, 8, 8, 8, 8, 8, 8, 8, 8, 8, 8, 8, 8, 8, 8, 8, 8, 8, 8, 8, 8, 8, 8, 8, 8, 8, 8, 8, 8, 8, 8, 8, 8, 8, 8, 8, 8, 8, 8, 8, 8, 8, 8, 8, 8, 8, 8, 8, 8, 8, 8, 8, 8, 8, 8, 8, 8, 8, 8, 8, 8, 8, 8, 8, 8, 8, 8, 8, 8, 8, 8, 8, 8, 8, 8, 8, 8, 8, 8, 8, 8, 8, 8, 8, 8, 8, 8, 8, 8]⟩ : ByteArray) ((x0 / 256) % 256)))))) else (none)) else (none)) else (if 0 ≤ ((x0) % 256) then (if ((x0) % 256) < 256 then (some (wrap64 (x2 + (wrap64 (bt (⟨#[0, 1, 2, 2, 3, 3, 3, 3, 4, 4, 4, 4, 4, 4, 4, 4, 5, 5, 5, 5, 5, 5, 5, 5, 5, 5, 5, 5, 5, 5, 5, 5, 6, 6, 6, 6, 6, 6, 6, 6, 6, 6, 6, 6, 6, 6, 6, 6, 6, 6, 6, 6, 6, 6, 6, 6, 6, 6, 6, 6, 6, 6, 6, 6, 7, 7, 7, 7, 7, 7, 7, 7, 7, 7, 7, 7, 7, 7, 7, 7, 7, 7, 7, 7, 7, 7, 7, 7, 7, 7, 7, 7, 7, 7, 7, 7, 7, 7, 7, 7, 7, 7, 7, 7, 7, 7, 7, 7, 7, 7, 7, 7, 7, 7, 7, 7, 7, 7, 7, 7, 7, 7, 7, 7, 7, 7, 7, 7, 8, 8, 8, 8, 8, 8, 8, 8, 8, 8, 8, 8, 8, 8, 8, 8, 8, 8, 8, 8, 8, 8, 8, 8, 8, 8, 8, 8, 8, 8, 8, 8, 8, 8, 8, 8, 8, 8, 8, 8, 8, 8, 8, 8, 8, 8, 8, 8, 8, 8, 8, 8, 8, 8, 8, 8, 8, 8, 8, 8, 8, 8, 8, 8, 8, 8, 8, 8, 8, 8, 8, 8, 8, 8, 8, 8, 8, 8, 8, 8, 8, 8, 8, 8, 8, 8, 8, 8, 8, 8, 8, 8, 8, 8, 8, 8, 8, 8, 8, 8, 8, 8, 8, 8, 8, 8, 8, 8, 8, 8, 8, 8, 8, 8, 8, 8, 8, 8, 8, 8, 8, 8, 8, 8, 8, 8, 8, 8]⟩ : ByteArray) ((x0) % 256)))))) else (none)) else (none)))
def bits_Len64.f (k : Nat) (a0 : Int) : Option (Int) := if a0 ≥ 4294967296 then (bits_Len64.j0 k (a0 / 4294967296) 32) else (bits_Len64.j0 k a0 0)
theorem bits_Len64.jm : ∀ k, (∀ y0 y1, LeO (bits_Len64.j0 k y0 y1) (bits_Len64.j0 (k + 1) y0 y1))
 | 0 => fun _ _ r h => by simp [bits_Len64.j0] at h
 | k + 1 => by
  have ih0 := bits_Len64.jm k
  ·
   intro y0 y1
   unfold bits_Len64.j0
   repeat' with_reducible first | apply ih0 | exact LeO.refl _ | exact LeO.none _ | refine LeO.ite ?_ ?_ | refine LeO.bind ?_ (fun _ => ?_)
theorem bits_Len64.mono : ∀ a0 k, LeO (bits_Len64.f k a0) (bits_Len64.f (k + 1) a0) := by
 intro a0 k; have ih0 := bits_Len64.jm k
 unfold bits_Len64.f
 repeat' with_reducible first | apply ih0 | exact LeO.refl _ | exact LeO.none _ | refine LeO.ite ?_ ?_ | refine LeO.bind ?_ (fun _ => ?_)
set_option maxHeartbeats 8000000 in
set_option maxRecDepth 100000 in
theorem bits_Len64.calls (k : Nat) (a0 : Int) (r : Int) (w : World) (h : bits_Len64.f k a0 = some r) :
  Calls Tryd.prog 69 #[.int .u64 a0] w fun e w' => e = .returned (.int .i64 r) ∧ dh w w' := by
 have H : (if a0 ≥ 4294967296 then (bits_Len64.j0 k (a0 / 4294967296) 32) else (bits_Len64.j0 k a0 0)) = some r := h; clear h; have HC2 := aa.mk H; clear H; go_enter Tryd.func69, Tryd.ntmps69
 go_upto_if 4 with (fail)
 go_cut [0, 2] (fun v0 v2 wc => ∃ (kq : Nat) (x0_1 : Int) (x2_1 : Int), v0 = .int .u64 x0_1 ∧ v2 = .int .i64 x2_1 ∧ aa (bits_Len64.j0 kq x0_1 x2_1 = some r) ∧ aa (kq ≤ k) ∧ dh w wc)
 case first =>
  have H := HC2.out; clear HC2
  by_cases c3 : a0 ≥ 4294967296
  rotate_left
  ·
   rw [if_neg c3] at H; have c3b0 : decide (4294967296 ≤ a0) = false := decide_eq_false c3; clear c3
   (first | rw [c3b0] | (simp only [jw, l8]; rw [c3b0]) | skip)
   have H' := aa.mk H; clear H; go_wp2; go_meet
   case rel => exact ⟨_, (a0), (0), (by first | rfl | (simp; done) | (simp [*]; done)), (by first | rfl | (simp; done) | (simp [*]; done)), H', ⟨by first | omega | exact Nat.le_refl _⟩, by repeat (first | exact dh.refl _ | apply dh.step)⟩
  rw [if_pos c3] at H; have c3b0 : decide (4294967296 ≤ a0) = true := decide_eq_true c3; clear c3
  (first | rw [c3b0] | (simp only [jw, l8]; rw [c3b0]) | skip)
  have H' := aa.mk H; clear H; go_wp2; go_meet
  case rel => exact ⟨_, (a0 / 4294967296), (32), (by first | rfl | (simp; done) | (simp [*]; done)), (by first | rfl | (simp; done) | (simp [*]; done)), H', ⟨by first | omega | exact Nat.le_refl _⟩, by repeat (first | exact dh.refl _ | apply dh.step)⟩
 case rest =>
  clear HC2
  obtain ⟨kq, x0_1, x2_1, rfl, rfl, HA, HJ1, ⟨mc1, rfl⟩⟩ := hcut; cases kq with
  | zero => exact absurd HA.out (by simp [bits_Len64.j0])
  | succ kj1 =>
   have H := HA.out; clear HA; simp only [bits_Len64.j0] at H
   by_cases c4 : x0_1 ≥ 65536
   ·
    rw [if_pos c4] at H; have c4b0 : decide (65536 ≤ x0_1) = true := decide_eq_true c4; clear c4
    by_cases c5 : (x0_1 / 65536) ≥ 256
    ·
     rw [if_pos c5] at H; have c5b0 : decide (256 ≤ (x0_1 / 65536)) = true := decide_eq_true c5; clear c5; obtain ⟨ji6, hji6⟩ : ∃ j_ : Int, (((x0_1 / 65536) / 256) % 256) = j_ := ⟨_, rfl⟩; replace H : (if 0 ≤ (ji6) then (if (ji6) < 256 then (some (wrap64 ((wrap64 ((wrap64 (x2_1 + 16)) + 8)) + (wrap64 (bt (⟨#[0, 1, 2, 2, 3, 3, 3, 3, 4, 4, 4, 4, 4, 4, 4, 4, 5, 5, 5, 5, 5, 5, 5, 5, 5, 5, 5, 5, 5, 5, 5, 5, 6, 6, 6, 6, 6, 6, 6, 6, 6, 6, 6, 6, 6, 6, 6, 6, 6, 6, 6, 6, 6, 6, 6, 6, 6, 6, 6, 6, 6, 6, 6, 6, 7, 7, 7, 7, 7, 7, 7, 7, 7, 7, 7, 7, 7, 7, 7, 7, 7, 7, 7, 7, 7, 7, 7, 7, 7, 7, 7, 7, 7, 7, 7, 7, 7, 7, 7, 7, 7, 7, 7, 7, 7, 7, 7, 7, 7, 7, 7, 7, 7, 7, 7, 7, 7, 7, 7, 7, 7, 7, 7, 7, 7, 7, 7, 7, 8, 8, 8, 8, 8, 8, 8, 8, 8, 8, 8, 8, 8, 8, 8, 8, 8, 8, 8, 8, 8, 8, 8, 8, 8, 8, 8, 8, 8, 8, 8, 8, 8, 8, 8, 8, 8, 8, 8, 8, 8, 8, 8, 8, 8, 8, 8, 8, 8, 8, 8, 8, 8, 8, 8, 8, 8, 8, 8, 8, 8, 8, 8, 8, 8, 8, 8, 8, 8, 8, 8, 8, 8, 8, 8, 8, 8, 8, 8, 8, 8, 8, 8, 8, 8, 8, 8, 8, 8, 8, 8, 8, 8, 8, 8, 8, 8, 8, 8, 8, 8, 8, 8, 8, 8, 8, 8, 8, 8, 8, 8, 8, 8, 8, 8, 8, 8, 8, 8, 8, 8, 8, 8, 8, 8, 8, 8, 8]⟩ : ByteArray) (ji6)))))) else (none)) else (none)) = some r := by first | (rw [hji6] at H; exact H) | (simp only [hji6] at H ⊢; exact H)
     by_cases c7 : 0 ≤ (ji6)
     rotate_left
     ·
      rw [if_neg c7] at H; exact absurd H (by simp)
     rw [if_pos c7] at H; have c7b0 : decide (0 ≤ (ji6)) = true := decide_eq_true c7; clear c7
     by_cases c8 : (ji6) < 256
     rotate_left
     ·
      rw [if_neg c8] at H; exact absurd H (by simp)
     rw [if_pos c8] at H; have c8b0 : decide ((ji6) < 256) = true := decide_eq_true c8; clear c8; obtain rfl := Option.some.inj H; have p9 : 0 ≤ ((ji6) : Int) := of_decide_eq_true (by first | (with_reducible assumption) | assumption); have q9 : (ji6) < (256 : Int) := of_decide_eq_true (by first | (with_reducible assumption) | assumption); have hx9 := bt_at (⟨#[0, 1, 2, 2, 3, 3, 3, 3, 4, 4, 4, 4, 4, 4, 4, 4, 5, 5, 5, 5, 5, 5, 5, 5, 5, 5, 5, 5, 5, 5, 5, 5, 6, 6, 6, 6, 6, 6, 6, 6, 6, 6, 6, 6, 6, 6, 6, 6, 6, 6, 6, 6, 6, 6, 6, 6, 6, 6, 6, 6, 6, 6, 6, 6, 7, 7, 7, 7, 7, 7, 7, 7, 7, 7, 7, 7, 7, 7, 7, 7, 7, 7, 7, 7, 7, 7, 7, 7, 7, 7, 7, 7, 7, 7, 7, 7, 7, 7, 7, 7, 7, 7, 7, 7, 7, 7, 7, 7, 7, 7, 7, 7, 7, 7, 7, 7, 7, 7, 7, 7, 7, 7, 7, 7, 7, 7, 7, 7, 8, 8, 8, 8, 8, 8, 8, 8, 8, 8, 8, 8, 8, 8, 8, 8, 8, 8, 8, 8, 8, 8, 8, 8, 8, 8, 8, 8, 8, 8, 8, 8, 8, 8, 8, 8, 8, 8, 8, 8, 8, 8, 8, 8, 8, 8, 8, 8, 8, 8, 8, 8, 8, 8, 8, 8, 8, 8, 8, 8, 8, 8, 8, 8, 8, 8, 8, 8, 8, 8, 8, 8, 8, 8, 8, 8, 8, 8, 8, 8, 8, 8, 8, 8, 8, 8, 8, 8, 8, 8, 8, 8, 8, 8, 8, 8, 8, 8, 8, 8, 8, 8, 8, 8, 8, 8, 8, 8, 8, 8, 8, 8, 8, 8, 8, 8, 8, 8, 8, 8, 8, 8, 8, 8, 8, 8, 8, 8]⟩ : ByteArray) (ji6); replace p9 := eq_true p9; replace q9 := eq_true q9; go_wp2; go_ret; exact ⟨by first | rfl | (simp; done) | (simp only [← hji6] <;> (first | rfl | simp)) | (simp [*]; done), by repeat (first | exact dh.refl _ | apply dh.step)⟩
    ·
     rw [if_neg c5] at H; have c5b0 : decide (256 ≤ (x0_1 / 65536)) = false := decide_eq_false c5; clear c5; obtain ⟨ji10, hji10⟩ : ∃ j_ : Int, ((x0_1 / 65536) % 256) = j_ := ⟨_, rfl⟩; replace H : (if 0 ≤ (ji10) then (if (ji10) < 256 then (some (wrap64 ((wrap64 (x2_1 + 16)) + (wrap64 (bt (⟨#[0, 1, 2, 2, 3, 3, 3, 3, 4, 4, 4, 4, 4, 4, 4, 4, 5, 5, 5, 5, 5, 5, 5, 5, 5, 5, 5, 5, 5, 5, 5, 5, 6, 6, 6, 6, 6, 6, 6, 6, 6, 6, 6, 6, 6, 6, 6, 6, 6, 6, 6, 6, 6, 6, 6, 6, 6, 6, 6, 6, 6, 6, 6, 6, 7, 7, 7, 7, 7, 7, 7, 7, 7, 7, 7, 7, 7, 7, 7, 7, 7, 7, 7, 7, 7, 7, 7, 7, 7, 7, 7, 7, 7, 7, 7, 7, 7, 7, 7, 7, 7, 7, 7, 7, 7, 7, 7, 7, 7, 7, 7, 7, 7, 7, 7, 7, 7, 7, 7, 7, 7, 7, 7, 7, 7, 7, 7, 7, 8, 8, 8, 8, 8, 8, 8, 8, 8, 8, 8, 8, 8, 8, 8, 8, 8, 8, 8, 8, 8, 8, 8, 8, 8, 8, 8, 8, 8, 8, 8, 8, 8, 8, 8, 8, 8, 8, 8, 8, 8, 8, 8, 8, 8, 8, 8, 8, 8, 8, 8, 8, 8, 8, 8, 8, 8, 8, 8, 8, 8, 8, 8, 8, 8, 8, 8, 8, 8, 8, 8, 8, 8, 8, 8, 8, 8, 8, 8, 8, 8, 8, 8, 8, 8, 8, 8, 8, 8, 8, 8, 8, 8, 8, 8, 8, 8, 8, 8, 8, 8, 8, 8, 8, 8, 8, 8, 8, 8, 8, 8, 8, 8, 8, 8, 8, 8, 8, 8, 8, 8, 8, 8, 8, 8, 8, 8, 8]⟩ : ByteArray) (ji10)))))) else (none)) else (none)) = some r := by first | (rw [hji10] at H; exact H) | (simp only [hji10] at H ⊢; exact H)
     by_cases c11 : 0 ≤ (ji10)
     rotate_left
     ·
      rw [if_neg c11] at H; exact absurd H (by simp)
     rw [if_pos c11] at H; have c11b0 := decide_eq_true c11; clear c11
     by_cases c12 : (ji10) < 256
     rotate_left
     ·
      rw [if_neg c12] at H; exact absurd H (by simp)
     rw [if_pos c12] at H; have c12b0 : decide ((ji10) < 256) = true := decide_eq_true c12; clear c12; obtain rfl := Option.some.inj H; have p13 : 0 ≤ ((ji10) : Int) := of_decide_eq_true (by first | (with_reducible assumption) | assumption); have q13 : (ji10) < (256 : Int) := of_decide_eq_true (by first | (with_reducible assumption) | assumption); have hx13 := bt_at (⟨#[0, 1, 2, 2, 3, 3, 3, 3, 4, 4, 4, 4, 4, 4, 4, 4, 5, 5, 5, 5, 5, 5, 5, 5, 5, 5, 5, 5, 5, 5, 5, 5, 6, 6, 6, 6, 6, 6, 6, 6, 6, 6, 6, 6, 6, 6, 6, 6, 6, 6, 6, 6, 6, 6, 6, 6, 6, 6, 6, 6, 6, 6, 6, 6, 7, 7, 7, 7, 7, 7, 7, 7, 7, 7, 7, 7, 7, 7, 7, 7, 7, 7, 7, 7, 7, 7, 7, 7, 7, 7, 7, 7, 7, 7, 7, 7, 7, 7, 7, 7, 7, 7, 7, 7, 7, 7, 7, 7, 7, 7, 7, 7, 7, 7, 7, 7, 7, 7, 7, 7, 7, 7, 7, 7, 7, 7, 7, 7, 8, 8, 8, 8, 8, 8, 8, 8, 8, 8, 8, 8, 8, 8, 8, 8, 8, 8, 8, 8, 8, 8, 8, 8, 8, 8, 8, 8, 8, 8, 8, 8, 8, 8, 8, 8, 8, 8, 8, 8, 8, 8, 8, 8, 8, 8, 8, 8, 8, 8, 8, 8, 8, 8, 8, 8, 8, 8, 8, 8, 8, 8, 8, 8, 8, 8, 8, 8, 8, 8, 8, 8, 8, 8, 8, 8, 8, 8, 8, 8, 8, 8, 8, 8, 8, 8, 8, 8, 8, 8, 8, 8, 8, 8, 8, 8, 8, 8, 8, 8, 8, 8, 8, 8, 8, 8, 8, 8, 8, 8, 8, 8, 8, 8, 8, 8, 8, 8, 8, 8, 8, 8, 8, 8, 8, 8, 8, 8]⟩ : ByteArray) (ji10); replace p13 := eq_true p13; replace q13 := eq_true q13; go_wp2; go_ret; exact ⟨by first | rfl | (simp; done) | (simp only [← hji10] <;> (first | rfl | simp)) | (simp [*]; done), by repeat (first | exact dh.refl _ | apply dh.step)⟩
   ·
    rw [if_neg c4] at H; have c4b0 : decide (65536 ≤ x0_1) = false := decide_eq_false c4; clear c4
    by_cases c14 : x0_1 ≥ 256
    ·
     rw [if_pos c14] at H; have c14b0 : decide (256 ≤ x0_1) = true := decide_eq_true c14; clear c14; obtain ⟨ji15, hji15⟩ : ∃ j_ : Int, ((x0_1 / 256) % 256) = j_ := ⟨_, rfl⟩; replace H : (if 0 ≤ (ji15) then (if (ji15) < 256 then (some (wrap64 ((wrap64 (x2_1 + 8)) + (wrap64 (bt (⟨#[0, 1, 2, 2, 3, 3, 3, 3, 4, 4, 4, 4, 4, 4, 4, 4, 5, 5, 5, 5, 5, 5, 5, 5, 5, 5, 5, 5, 5, 5, 5, 5, 6, 6, 6, 6, 6, 6, 6, 6, 6, 6, 6, 6, 6, 6, 6, 6, 6, 6, 6, 6, 6, 6, 6, 6, 6, 6, 6, 6, 6, 6, 6, 6, 7, 7, 7, 7, 7, 7, 7, 7, 7, 7, 7, 7, 7, 7, 7, 7, 7, 7, 7, 7, 7, 7, 7, 7, 7, 7, 7, 7, 7, 7, 7, 7, 7, 7, 7, 7, 7, 7, 7, 7, 7, 7, 7, 7, 7, 7, 7, 7, 7, 7, 7, 7, 7, 7, 7, 7, 7, 7, 7, 7, 7, 7, 7, 7, 8, 8, 8, 8, 8, 8, 8, 8, 8, 8, 8, 8, 8, 8, 8, 8, 8, 8, 8, 8, 8, 8, 8, 8, 8, 8, 8, 8, 8, 8, 8, 8, 8, 8, 8, 8, 8, 8, 8, 8, 8, 8, 8, 8, 8, 8, 8, 8, 8, 8, 8, 8, 8, 8, 8, 8, 8, 8, 8, 8, 8, 8, 8, 8, 8, 8, 8, 8, 8, 8, 8, 8, 8, 8, 8, 8, 8, 8, 8, 8, 8, 8, 8, 8, 8, 8, 8, 8, 8, 8, 8, 8, 8, 8, 8, 8, 8, 8, 8, 8, 8, 8, 8, 8, 8, 8, 8, 8, 8, 8, 8, 8, 8, 8, 8, 8, 8, 8, 8, 8, 8, 8, 8, 8, 8, 8, 8, 8]⟩ : ByteArray) (ji15)))))) else (none)) else (none)) = some r := by first | (rw [hji15] at H; exact H) | (simp only [hji15] at H ⊢; exact H)
     by_cases c16 : 0 ≤ (ji15)
     rotate_left
     ·
      rw [if_neg c16] at H; exact absurd H (by simp)
     rw [if_pos c16] at H; have c16b0 := decide_eq_true c16; clear c16
     by_cases c17 : (ji15) < 256
     rotate_left
     ·
      rw [if_neg c17] at H; exact absurd H (by simp)
     rw [if_pos c17] at H; have c17b0 : decide ((ji15) < 256) = true := decide_eq_true c17; clear c17; obtain rfl := Option.some.inj H; have p18 : 0 ≤ ((ji15) : Int) := of_decide_eq_true (by first | (with_reducible assumption) | assumption); have q18 : (ji15) < (256 : Int) := of_decide_eq_true (by first | (with_reducible assumption) | assumption); have hx18 := bt_at (⟨#[0, 1, 2, 2, 3, 3, 3, 3, 4, 4, 4, 4, 4, 4, 4, 4, 5, 5, 5, 5, 5, 5, 5, 5, 5, 5, 5, 5, 5, 5, 5, 5, 6, 6, 6, 6, 6, 6, 6, 6, 6, 6, 6, 6, 6, 6, 6, 6, 6, 6, 6, 6, 6, 6, 6, 6, 6, 6, 6, 6, 6, 6, 6, 6, 7, 7, 7, 7, 7, 7, 7, 7, 7, 7, 7, 7, 7, 7, 7, 7, 7, 7, 7, 7, 7, 7, 7, 7, 7, 7, 7, 7, 7, 7, 7, 7, 7, 7, 7, 7, 7, 7, 7, 7, 7, 7, 7, 7, 7, 7, 7, 7, 7, 7, 7, 7, 7, 7, 7, 7, 7, 7, 7, 7, 7, 7, 7, 7, 8, 8, 8, 8, 8, 8, 8, 8, 8, 8, 8, 8, 8, 8, 8, 8, 8, 8, 8, 8, 8, 8, 8, 8, 8, 8, 8, 8, 8, 8, 8, 8, 8, 8, 8, 8, 8, 8, 8, 8, 8, 8, 8, 8, 8, 8, 8, 8, 8, 8, 8, 8, 8, 8, 8, 8, 8, 8, 8, 8, 8, 8, 8, 8, 8, 8, 8, 8, 8, 8, 8, 8, 8, 8, 8, 8, 8, 8, 8, 8, 8, 8, 8, 8, 8, 8, 8, 8, 8, 8, 8, 8, 8, 8, 8, 8, 8, 8, 8, 8, 8, 8, 8, 8, 8, 8, 8, 8, 8, 8, 8, 8, 8, 8, 8, 8, 8, 8, 8, 8, 8, 8, 8, 8, 8, 8, 8, 8]⟩ : ByteArray) (ji15); replace p18 := eq_true p18; replace q18 := eq_true q18; go_wp2; go_ret; exact ⟨by first | rfl | (simp; done) | (simp only [← hji15] <;> (first | rfl | simp)) | (simp [*]; done), by repeat (first | exact dh.refl _ | apply dh.step)⟩
    ·
     rw [if_neg c14] at H; have c14b0 : decide (256 ≤ x0_1) = false := decide_eq_false c14; clear c14; obtain ⟨ji19, hji19⟩ : ∃ j_ : Int, ((x0_1) % 256) = j_ := ⟨_, rfl⟩; replace H : (if 0 ≤ (ji19) then (if (ji19) < 256 then (some (wrap64 (x2_1 + (wrap64 (bt (⟨#[0, 1, 2, 2, 3, 3, 3, 3, 4, 4, 4, 4, 4, 4, 4, 4, 5, 5, 5, 5, 5, 5, 5, 5, 5, 5, 5, 5, 5, 5, 5, 5, 6, 6, 6, 6, 6, 6, 6, 6, 6, 6, 6, 6, 6, 6, 6, 6, 6, 6, 6, 6, 6, 6, 6, 6, 6, 6, 6, 6, 6, 6, 6, 6, 7, 7, 7, 7, 7, 7, 7, 7, 7, 7, 7, 7, 7, 7, 7, 7, 7, 7, 7, 7, 7, 7, 7, 7, 7, 7, 7, 7, 7, 7, 7, 7, 7, 7, 7, 7, 7, 7, 7, 7, 7, 7, 7, 7, 7, 7, 7, 7, 7, 7, 7, 7, 7, 7, 7, 7, 7, 7, 7, 7, 7, 7, 7, 7, 8, 8, 8, 8, 8, 8, 8, 8, 8, 8, 8, 8, 8, 8, 8, 8, 8, 8, 8, 8, 8, 8, 8, 8, 8, 8, 8, 8, 8, 8, 8, 8, 8, 8, 8, 8, 8, 8, 8, 8, 8, 8, 8, 8, 8, 8, 8, 8, 8, 8, 8, 8, 8, 8, 8, 8, 8, 8, 8, 8, 8, 8, 8, 8, 8, 8, 8, 8, 8, 8, 8, 8, 8, 8, 8, 8, 8, 8, 8, 8, 8, 8, 8, 8, 8, 8, 8, 8, 8, 8, 8, 8, 8, 8, 8, 8, 8, 8, 8, 8, 8, 8, 8, 8, 8, 8, 8, 8, 8, 8, 8, 8, 8, 8, 8, 8, 8, 8, 8, 8, 8, 8, 8, 8, 8, 8, 8, 8]⟩ : ByteArray) (ji19)))))) else (none)) else (none)) = some r := by first | (rw [hji19] at H; exact H) | (simp only [hji19] at H ⊢; exact H)
     by_cases c20 : 0 ≤ (ji19)
     rotate_left
     ·
      rw [if_neg c20] at H; exact absurd H (by simp)

     rw [if_pos c20] at H; have c20b0 : decide (0 ≤ (ji19)) = true := decide_eq_true c20; clear c20
     by_cases c21 : (ji19) < 256
     rotate_left
     ·
      rw [if_neg c21] at H; exact absurd H (by simp)
     rw [if_pos c21] at H; have c21b0 : decide ((ji19) < 256) = true := decide_eq_true c21; clear c21; obtain rfl := Option.some.inj H; have p22 : 0 ≤ ((ji19) : Int) := of_decide_eq_true (by first | (with_reducible assumption) | assumption); have q22 : (ji19) < (256 : Int) := of_decide_eq_true (by first | (with_reducible assumption) | assumption); have hx22 := bt_at (⟨#[0, 1, 2, 2, 3, 3, 3, 3, 4, 4, 4, 4, 4, 4, 4, 4, 5, 5, 5, 5, 5, 5, 5, 5, 5, 5, 5, 5, 5, 5, 5, 5, 6, 6, 6, 6, 6, 6, 6, 6, 6, 6, 6, 6, 6, 6, 6, 6, 6, 6, 6, 6, 6, 6, 6, 6, 6, 6, 6, 6, 6, 6, 6, 6, 7, 7, 7, 7, 7, 7, 7, 7, 7, 7, 7, 7, 7, 7, 7, 7, 7, 7, 7, 7, 7, 7, 7, 7, 7, 7, 7, 7, 7, 7, 7, 7, 7, 7, 7, 7, 7, 7, 7, 7, 7, 7, 7, 7, 7, 7, 7, 7, 7, 7, 7, 7, 7, 7, 7, 7, 7, 7, 7, 7, 7, 7, 7, 7, 8, 8, 8, 8, 8, 8, 8, 8, 8, 8, 8, 8, 8, 8, 8, 8, 8, 8, 8, 8, 8, 8, 8, 8, 8, 8, 8, 8, 8, 8, 8, 8, 8, 8, 8, 8, 8, 8, 8, 8, 8, 8, 8, 8, 8, 8, 8, 8, 8, 8, 8, 8, 8, 8, 8, 8, 8, 8, 8, 8, 8, 8, 8, 8, 8, 8, 8, 8, 8, 8, 8, 8, 8, 8, 8, 8, 8, 8, 8, 8, 8, 8, 8, 8, 8, 8, 8, 8, 8, 8, 8, 8, 8, 8, 8, 8, 8, 8, 8, 8, 8, 8, 8, 8, 8, 8, 8, 8, 8, 8, 8, 8, 8, 8, 8, 8, 8, 8, 8, 8, 8, 8, 8, 8, 8, 8, 8, 8]⟩ : ByteArray) (ji19); replace p22 := eq_true p22; replace q22 := eq_true q22; go_wp2; go_ret; exact ⟨by first | rfl | (simp; done) | (simp only [← hji19] <;> (first | rfl | simp)) | (simp [*]; done), by repeat (first | exact dh.refl _ | apply dh.step)⟩
/-! ### jd: function 55 -/
def jd.f (k : Nat) (a0_0 : Int) (a0_1 : Int) : Option (Int) := if a0_0 = 0 then ((bits_Len64.f k a0_1).bind fun t121 => (some t121)) else ((bits_Len64.f k a0_0).bind fun t122 => (some (wrap64 (64 + t122))))
theorem jd.mono : ∀ a0 a1 k, LeO (jd.f k a0 a1) (jd.f (k + 1) a0 a1) := by
 intro a0 a1 k
 unfold jd.f
 repeat' with_reducible first | apply bits_Len64.mono | exact LeO.refl _ | exact LeO.none _ | refine LeO.ite ?_ ?_ | refine LeO.bind ?_ (fun _ => ?_)
set_option maxHeartbeats 8000000 in
set_option maxRecDepth 100000 in
theorem jd.calls (k : Nat) (a0_0 : Int) (a0_1 : Int) (r : Int) (w : World) (h : jd.f k a0_0 a0_1 = some r) :
  Calls Tryd.prog 55 #[.agg #[.int .u64 a0_0, .int .u64 a0_1]] w fun e w' => e = .returned (.int .i64 r) ∧ Below w.heap.size w w' := by
 have hu65 := Tryd.underlying65; have HB := aa.mk (Below.refl w.heap.size w); have H : (if a0_0 = 0 then ((bits_Len64.f k a0_1).bind fun t121 => (some t121)) else ((bits_Len64.f k a0_0).bind fun t122 => (some (wrap64 (64 + t122))))) = some r := h; clear h
 by_cases c2 : a0_0 = 0
 rotate_left
 ·
  rw [if_neg c2] at H; have c2b0 := beq_eq_false_iff_ne.mpr c2; have c2b1 := bne_iff_ne.mpr c2; obtain ⟨t122, A6, H⟩ := ob H; (try dsimp -simprocs only at H); obtain rfl := Option.some.inj H; go_enter Tryd.func55, Tryd.ntmps55
  go_wp2_with (first | ((with_reducible refine bq (N := 1) rfl ?_); refine l5 (N := 1) (cs := #[.int .u64 a0_0, .int .u64 a0_1]) (t := 65) ?_; intro gb120 hg w7 hbox hb; refine ax4 (af bel hb) hbox ((ge hg : w.heap.size ≤ gb120)) ((ge hg : w.heap.size ≤ gb120)) ?_; clear HB; intro HB BK120 GW120 GE120; clear hb hbox hg; have ⟨_, _⟩ := cf BK120 0 rfl; have ⟨_, _⟩ := cf BK120 1 rfl) | ((with_reducible refine ag (f := 69) rfl ?_); refine df (some 8) rfl rfl Tryd.func69 (by kernel_rfl) rfl #[.int .u64 a0_0] rfl ga ?_; (with_reducible refine (bits_Len64.calls k a0_0 t122 _ A6.out).mono ?_); rintro e w' ⟨rfl, ⟨nd, rfl⟩⟩; refine ⟨_, rfl, ?_⟩))
  go_ret; exact ⟨er, bes⟩

 rw [if_pos c2] at H; have c2b0 := beq_iff_eq.mpr c2; have c2b1 := bne_eq_false_iff_eq.mpr c2; clear c2; obtain ⟨t121, A3, H⟩ := ob H; (try dsimp -simprocs only at H); obtain rfl := Option.some.inj H; go_enter Tryd.func55, Tryd.ntmps55
 go_wp2_with (first | ((with_reducible refine bq (N := 1) rfl ?_); refine l5 (N := 1) (cs := #[.int .u64 a0_0, .int .u64 a0_1]) (t := 65) ?_; intro gb120 hg w4 hbox hb; refine ax4 (af bel hb) hbox ((ge hg : w.heap.size ≤ gb120)) ((ge hg : w.heap.size ≤ gb120)) ?_; clear HB; intro HB BK120 GW120 GE120; clear hb hbox hg; have ⟨_, _⟩ := cf BK120 0 rfl; have ⟨_, _⟩ := cf BK120 1 rfl) | ((with_reducible refine ag (f := 69) rfl ?_); refine df (some 12) rfl rfl Tryd.func69 (by kernel_rfl) rfl #[.int .u64 a0_1] rfl ga ?_; (with_reducible refine (bits_Len64.calls k a0_1 t121 _ A3.out).mono ?_); rintro e w' ⟨rfl, ⟨nd, rfl⟩⟩; refine ⟨_, rfl, ?_⟩))
 go_ret; exact ⟨er, bes⟩
end Go.Proofs.YtnjobojkoaknpaaDoor.F
