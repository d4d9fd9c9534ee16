-- Written by a program of this seat's session (mkprint), out of the translation.
import Derived.Test.YtenegelkbfmjkaaDoorShort
import Derived.Test.YtenegelkbfmjkaaDoorFx0
import Derived.Test.YtenegelkbfmjkaaDoorFx2
import Derived.Test.YtenegelkbfmjkaaDoorFx5
import Derived.Test.YtenegelkbfmjkaaDoorFx8
namespace Go.Proofs.YtenegelkbfmjkaaDoor.F
open Go.RowKit Go.Proofs.YtenegelkbfmjkaaDoorW.PrintWords Go.Proofs.YtenegelkbfmjkaaDoorW.PrintLast Go.Proofs.YtenegelkbfmjkaaDoorW.PrintMore
attribute [local go_sem] max2_int min2_int max_two min_two max_three min_three max_four min_four   -- for this text's walks alone
set_option linter.unusedVariables false
set_option linter.unusedSimpArgs false

/-! ### gimballaw09_Made: function 6 -/
mutual
def gimballaw09_Made.l0 : Nat → Int → Int → List Int → Int → Int → Int → Int → Int → List Int → Option (Int × Int × Int × List Int)
 | 0, _, _, _, _, _, _, _, _, _ => none
 | k + 1, x0, x1, x3, x32, x33, x495000, x495001, x495002, x495003 => if x33 < x32 then (if 0 ≤ x33 then (if x33 < (x495003.length : Int) then (gimballaw09_Made.l0 k x0 x1 x3 x32 (wrap64 (x33 + 1)) x495000 x495001 x495002 (x495003.set (x33 : Int).toNat 9221120237041090560)) else (none)) else (none)) else (gimballaw09_Made.l1 k x0 x1 x3 0 x495000 x495001 x495002 x495003)
def gimballaw09_Made.l1 : Nat → Int → Int → List Int → Int → Int → Int → Int → List Int → Option (Int × Int × Int × List Int)
 | 0, _, _, _, _, _, _, _, _ => none
 | k + 1, x0, x1, x3, x12, x495000, x495001, x495002, x495003 => if x12 < x0 then (gimballaw09_Made.l2 k x0 x1 x3 x12 0 x495000 x495001 x495002 x495003) else (some (x495000, x495001, x495002, x495003))
def gimballaw09_Made.l2 : Nat → Int → Int → List Int → Int → Int → Int → Int → Int → List Int → Option (Int × Int × Int × List Int)
 | 0, _, _, _, _, _, _, _, _, _ => none
 | k + 1, x0, x1, x3, x12, x13, x495000, x495001, x495002, x495003 => if x13 < x1 then (if (x3.length : Int) > 0 then (if (x3.length : Int) = 0 then (none) else (if 0 ≤ (Int.tmod (wrap64 ((wrap64 (x12 * x1)) + x13)) (x3.length : Int)) then (if (Int.tmod (wrap64 ((wrap64 (x12 * x1)) + x13)) (x3.length : Int)) < (x3.length : Int) then ((mat_Matrix_Set.f x495000 x495001 x495002 x495003 x12 x13 (rd x3 (Int.tmod (wrap64 ((wrap64 (x12 * x1)) + x13)) (x3.length : Int)))).bind fun t497 => (gimballaw09_Made.l2 k x0 x1 x3 x12 (wrap64 (x13 + 1)) x495000 x495001 x495002 t497)) else (none)) else (none))) else ((mat_Matrix_Set.f x495000 x495001 x495002 x495003 x12 x13 0).bind fun t498 => (gimballaw09_Made.l2 k x0 x1 x3 x12 (wrap64 (x13 + 1)) x495000 x495001 x495002 t498))) else (gimballaw09_Made.l1 k x0 x1 x3 (wrap64 (x12 + 1)) x495000 x495001 x495002 x495003)
end
def gimballaw09_Made.f (k : Nat) (a0 : Int) (a1 : Int) (a2 : Int) (l3 : List Int) : Option (Int × Int × Int × List Int) := if 0 ≤ (wrap64 ((Go.bits .and .i64 a0 7) * (wrap64 ((Go.bits .and .i64 a1 7) + (Go.bits .and .i64 a2 3))))) then (if (wrap64 ((Go.bits .and .i64 a0 7) * (wrap64 ((Go.bits .and .i64 a1 7) + (Go.bits .and .i64 a2 3)))) : Int).toNat ≤ 35184372088832 then ((some (List.replicate (wrap64 ((Go.bits .and .i64 a0 7) * (wrap64 ((Go.bits .and .i64 a1 7) + (Go.bits .and .i64 a2 3)))) : Int).toNat 0 : List Int)).bind fun y491 => (gimballaw09_Made.l0 k (Go.bits .and .i64 a0 7) (Go.bits .and .i64 a1 7) l3 (y491.length : Int) 0 (Go.bits .and .i64 a0 7) (Go.bits .and .i64 a1 7) (wrap64 ((Go.bits .and .i64 a1 7) + (Go.bits .and .i64 a2 3))) y491)) else (none)) else (none)
theorem gimballaw09_Made.mono_l : ∀ k, (∀ y0 y1 y2 y3 y4 y5 y6 y7 y8, LeO (gimballaw09_Made.l0 k y0 y1 y2 y3 y4 y5 y6 y7 y8) (gimballaw09_Made.l0 (k + 1) y0 y1 y2 y3 y4 y5 y6 y7 y8)) ∧ (∀ y0 y1 y2 y3 y4 y5 y6 y7, LeO (gimballaw09_Made.l1 k y0 y1 y2 y3 y4 y5 y6 y7) (gimballaw09_Made.l1 (k + 1) y0 y1 y2 y3 y4 y5 y6 y7)) ∧ (∀ y0 y1 y2 y3 y4 y5 y6 y7 y8, LeO (gimballaw09_Made.l2 k y0 y1 y2 y3 y4 y5 y6 y7 y8) (gimballaw09_Made.l2 (k + 1) y0 y1 y2 y3 y4 y5 y6 y7 y8))
 | 0 => ⟨fun _ _ _ _ _ _ _ _ _ r h => by simp [gimballaw09_Made.l0] at h, fun _ _ _ _ _ _ _ _ r h => by simp [gimballaw09_Made.l1] at h, fun _ _ _ _ _ _ _ _ _ r h => by simp [gimballaw09_Made.l2] at h⟩
 | k + 1 => by
  obtain ⟨ih0, ih1, ih2⟩ := gimballaw09_Made.mono_l k
  refine ⟨?_, ?_, ?_⟩ <;> intros <;> (first | unfold gimballaw09_Made.l0 | unfold gimballaw09_Made.l1 | unfold gimballaw09_Made.l2) <;>
   repeat' with_reducible first | apply ih0 | apply ih1 | apply ih2 | exact LeO.refl _ | exact LeO.none _ | refine LeO.ite ?_ ?_ | refine LeO.bind ?_ (fun _ => ?_)
theorem gimballaw09_Made.mono : ∀ a0 a1 a2 a3 k, LeO (gimballaw09_Made.f k a0 a1 a2 a3) (gimballaw09_Made.f (k + 1) a0 a1 a2 a3) := by
 intro a0 a1 a2 a3 k
 obtain ⟨ih0, ih1, ih2⟩ := gimballaw09_Made.mono_l k
 unfold gimballaw09_Made.f
 repeat' with_reducible first | apply ih0 | apply ih1 | apply ih2 | exact LeO.refl _ | exact LeO.none _ | refine LeO.ite ?_ ?_ | refine LeO.bind ?_ (fun _ => ?_)
def gimballaw09_Made.T17 : Bool × List (List Nat × List Nat) := (true, [([], []), ([], []), ([], []), ([], []), ([], []), ([], []), ([4, 5], [4, 5]), ([], []), ([6, 7], [6, 7]), ([], []), ([9], [9]), ([8, 10], [8, 10]), ([3, 11], [3, 11]), ([12], [12]), ([0, 1, 2, 13], [0, 1, 2, 13])])
def gimballaw09_Made.B17 : List Nat := [0, 0, 0, 0, 0, 0, 48, 0, 240, 0, 512, 2032, 4088, 8184, 16383]
theorem gimballaw09_Made.tab17 : rtab .any (opsOf Tryd.f6 17) = gimballaw09_Made.T17 := by kernel_rfl
theorem gimballaw09_Made.bits17 : waitsOk gimballaw09_Made.T17.2 gimballaw09_Made.B17 = true := by kernel_rfl
set_option maxHeartbeats 8000000 in
set_option maxRecDepth 100000 in
theorem gimballaw09_Made.calls (k : Nat) (a0 : Int) (a1 : Int) (a2 : Int) (A3 : Option Addr) (c3 : Nat) (l3 : List Int) (r1 : Int) (r2 : Int) (r3 : Int) (r4 : List Int) (w : World) (hr3 : Kd.C (Kd.int .u64) w A3 l3.length l3) (hc3 : l3.length ≤ c3) (h : gimballaw09_Made.f k a0 a1 a2 l3 = some (r1, r2, r3, r4)) :
  Calls Tryd.prog 6 #[.int .i64 a0, .int .i64 a1, .int .i64 a2, .slice A3 l3.length c3] w fun e w' => ∃ v3_ : Value, e = .returned (.agg #[.int .i64 r1, .int .i64 r2, .int .i64 r3, v3_]) ∧ Kd.R (Kd.int .u64) 32 w' w.heap.size (fun _ => True) v3_ r4 ∧ Below w.heap.size w w' := by
 have hu25 := Tryd.underlying25
 have HR3 := Aside0.mk hr3
 have HC3 := Aside0.mk hc3
 clear hr3 hc3
 have HB := Aside0.mk (Below.refl w.heap.size w)
 have H : (if 0 ≤ (wrap64 ((Go.bits .and .i64 a0 7) * (wrap64 ((Go.bits .and .i64 a1 7) + (Go.bits .and .i64 a2 3))))) then (if (wrap64 ((Go.bits .and .i64 a0 7) * (wrap64 ((Go.bits .and .i64 a1 7) + (Go.bits .and .i64 a2 3)))) : Int).toNat ≤ 35184372088832 then ((some (List.replicate (wrap64 ((Go.bits .and .i64 a0 7) * (wrap64 ((Go.bits .and .i64 a1 7) + (Go.bits .and .i64 a2 3)))) : Int).toNat 0 : List Int)).bind fun y491 => (gimballaw09_Made.l0 k (Go.bits .and .i64 a0 7) (Go.bits .and .i64 a1 7) l3 (y491.length : Int) 0 (Go.bits .and .i64 a0 7) (Go.bits .and .i64 a1 7) (wrap64 ((Go.bits .and .i64 a1 7) + (Go.bits .and .i64 a2 3))) y491)) else (none)) else (none)) = some (r1, r2, r3, r4) := h
 clear h
 obtain ⟨ji5, hji5⟩ : ∃ j_ : Int, (wrap64 ((Go.bits .and .i64 a0 7) * (wrap64 ((Go.bits .and .i64 a1 7) + (Go.bits .and .i64 a2 3))))) = j_ := ⟨_, rfl⟩
 replace H : (if 0 ≤ (ji5) then (if (ji5 : Int).toNat ≤ 35184372088832 then ((some (List.replicate (ji5 : Int).toNat 0 : List Int)).bind fun y491 => (gimballaw09_Made.l0 k (Go.bits .and .i64 a0 7) (Go.bits .and .i64 a1 7) l3 (y491.length : Int) 0 (Go.bits .and .i64 a0 7) (Go.bits .and .i64 a1 7) (wrap64 ((Go.bits .and .i64 a1 7) + (Go.bits .and .i64 a2 3))) y491)) else (none)) else (none)) = some (r1, r2, r3, r4) := by first | (rw [hji5] at H; exact H) | (simp only [hji5] at H ⊢; exact H)
 have hji5w : (IntKind.i64.wrap ((Go.bits .and .i64 a0 7) * (wrap64 ((Go.bits .and .i64 a1 7) + (Go.bits .and .i64 a2 3))))) = ji5 := (i64_w _).trans hji5
 by_cases c6 : 0 ≤ (ji5)
 rotate_left
 ·
  rw [if_neg c6] at H
  exact absurd H (by simp)

 rw [if_pos c6] at H
 have c6b0 := eq_true c6
 have c6b1 : decide (0 ≤ (ji5)) = true := decide_eq_true c6
 clear c6
 by_cases c7 : (ji5 : Int).toNat ≤ 35184372088832
 rotate_left
 ·
  rw [if_neg c7] at H
  exact absurd H (by simp)
 rw [if_pos c7] at H
 have c7b0 := eq_true c7
 have c7b1 : decide ((ji5 : Int).toNat ≤ 35184372088832) = true := decide_eq_true c7
 clear c7
 obtain ⟨y491, hy491⟩ : ∃ y_ : List Int, y_ = (List.replicate (ji5 : Int).toNat 0) := ⟨_, rfl⟩
 replace H : (gimballaw09_Made.l0 k (Go.bits .and .i64 a0 7) (Go.bits .and .i64 a1 7) l3 (y491.length : Int) 0 (Go.bits .and .i64 a0 7) (Go.bits .and .i64 a1 7) (wrap64 ((Go.bits .and .i64 a1 7) + (Go.bits .and .i64 a2 3))) y491) = some (r1, r2, r3, r4) := by first | (rw [hy491]; with_reducible exact H) | (have H2_ := (Option.bind_some _ _).symm.trans H; rw [hy491]; with_reducible exact H2_) | (have H2_ := (Option.bind_some _ _).symm.trans H; with_reducible exact H2_) | with_reducible exact H | (rw [hy491]; exact H) | exact H
 have Ny491 := Aside0.mk hy491
 clear hy491
 have H' := Aside0.mk H
 clear H
 go_enter Tryd.func6, Tryd.ntmps6
 go_wp2_with (first | ((with_reducible refine gate_dst (N := 8) rfl ?_); refine gbox (N := 8) (cs := #[.int .i64 0, .int .i64 0, .int .i64 0, .slice none 0 0]) (t := 25) ?_; intro gb490 hg w8 hbox hb; refine ax4 (below_step bel hb) hbox ((ge hg : w.heap.size ≤ gb490)) ((ge hg : w.heap.size ≤ gb490)) ?_; clear HB; intro HB BK490 GW490 GE490; clear hb hbox hg) | ((with_reducible refine gate_dst (N := 28) rfl ?_); refine Kd.R_make (Kd.int .u64) _ 32 rfl (N := 28) rfl 22 _ _ rfl ji5 rfl rfl Tryd.underlying22 (.int .u64 0) 8 info32 rfl (by decide) (by omega) 0 (ok := fun _ => True) (okp := fun _ => True) rfl (fun _ hk => hk) trivial (of_decide_eq_true (by first | (with_reducible assumption) | assumption)) (Nat.le_trans (Nat.mul_le_mul_right _ (of_decide_eq_true (by first | (with_reducible assumption) | assumption) : ji5.toNat ≤ 35184372088832)) (by omega)) (Below.refl _ _) (Nat.le_refl _) ?_; intro v492 w9 ho10 hb hg_ hnew_; clear hg_ hnew_; (first | rw [← Ny491.out] at ho10 | (simp only [Int.reduceToNat] at ho10; rw [← Ny491.out] at ho10)); refine ax3 (Kd.R_lower ho10 (below_size bes)) (bb BK490 hb) (below_step bes hb) ?_; clear BK490; clear HB; intro HO493 BK490 HB; clear hb ho10; obtain ⟨Ao11, co11, eo11⟩ := Kd.R_slice HO493.out; subst eo11) | ((with_reducible refine gate_dst (N := 10) rfl ?_); refine gbox (N := 10) (cs := #[.int .i64 0, .int .i64 0, .int .i64 0, .slice none 0 0]) (t := 25) ?_; intro gb494 hg w12 hbox hb; refine ax8 (Kd.R_below (kr HO493) hb) (bb BK490 hb) (below_step bes hb) hbox ((ge hg : w.heap.size ≤ gb494)) ((ge hg : w.heap.size ≤ gb494)) (nl hg BK490) (ng hg BK490) ?_; clear HO493; clear BK490; clear HB; intro HO493 BK490 HB BK494 GW494 GE494 NB490_494 NB494_490; clear hb hbox hg; have hnb13 := NB494_490.out; have hnc13 := NB490_494.out; have hcz14_0 := bc BK494 0 rfl; have hcz14_1 := bc BK494 1 rfl; have hcz14_2 := bc BK494 2 rfl; have hcz14_3 := bc BK494 3 rfl; have hfz14_0 := blk_frozen BK494.out 0; have hfz14_1 := blk_frozen BK494.out 1; have hfz14_2 := blk_frozen BK494.out 2; have hfz14_3 := blk_frozen BK494.out 3))
 go_loopg [33] k (fun kq v33 w' => ∃ (x33_1 : Int) (x495003_1 : List Int) (u495003 : Value), v33 = .int .i64 x33_1 ∧ Aside0 (gimballaw09_Made.l0 kq (Go.bits .and .i64 a0 7) (Go.bits .and .i64 a1 7) l3 (y491.length : Int) x33_1 (Go.bits .and .i64 a0 7) (Go.bits .and .i64 a1 7) (wrap64 ((Go.bits .and .i64 a1 7) + (Go.bits .and .i64 a2 3))) x495003_1 = some (r1, r2, r3, r4)) ∧ Aside0 (kq ≤ k) ∧ Aside0 (Kd.R (Kd.int .u64) 32 w' w.heap.size (fun _ => True) u495003 x495003_1) ∧ Aside0 (w'.heap[gb490]? = some (.cells #[.int .i64 0, .int .i64 0, .int .i64 0, (.slice none 0 0)] 25 (0, 0))) ∧ Aside0 (w'.heap[gb494]? = some (.cells #[.int .i64 (Go.bits .and .i64 a0 7), .int .i64 (Go.bits .and .i64 a1 7), .int .i64 (wrap64 ((Go.bits .and .i64 a1 7) + (Go.bits .and .i64 a2 3))), u495003] 25 (0, 0))) ∧ Aside0 (Below w.heap.size w w'))
 case atStart => exact ⟨(0), (y491), (.slice Ao11 y491.length co11), (by first | rfl | (simp; done) | (simp [*]; done)), H', ⟨Nat.le_refl _⟩, ⟨by (with_reducible repeat (first | apply Kd.R_alloc | apply Kd.R_drewN | apply Kd.R_drew)); exact Kd.R_mono (Kd.R_far (p := ⟨gb494, 3, none⟩) (Kd.R_far (p := ⟨gb494, 2, none⟩) (Kd.R_far (p := ⟨gb494, 1, none⟩) (Kd.R_far (p := ⟨gb494, 0, none⟩) (Kd.R_types HO493.out BK494.out (by decide)) (fun _ hk => hk.2) (.int .i64 (Go.bits .and .i64 a0 7))) (fun _ hk => hk.2) (.int .i64 (Go.bits .and .i64 a1 7))) (fun _ hk => hk.2) (.int .i64 (wrap64 ((Go.bits .and .i64 a1 7) + (Go.bits .and .i64 a2 3))))) (fun _ hk => hk.2) (.slice Ao11 y491.length co11)) (fun _ hk => trivial)⟩, ⟨by (with_reducible repeat (first | refine blk_drewN ?_ _ | refine blk_drew ?_ | refine blk_alloc ?_ _)); refine blk_far ?_ NB490_494.out _; (with_reducible repeat (first | refine blk_drewN ?_ _ | refine blk_drew ?_ | refine blk_alloc ?_ _)); refine blk_far ?_ NB490_494.out _; (with_reducible repeat (first | refine blk_drewN ?_ _ | refine blk_drew ?_ | refine blk_alloc ?_ _)); refine blk_far ?_ NB490_494.out _; (with_reducible repeat (first | refine blk_drewN ?_ _ | refine blk_drew ?_ | refine blk_alloc ?_ _)); refine blk_far ?_ NB490_494.out _; (with_reducible repeat (first | refine blk_drewN ?_ _ | refine blk_drew ?_ | refine blk_alloc ?_ _)); exact BK490.out⟩, ⟨by (with_reducible repeat (first | refine blk_drewN ?_ _ | refine blk_drew ?_ | refine blk_alloc ?_ _)); refine blk_put (cs := #[.int .i64 (Go.bits .and .i64 a0 7), .int .i64 (Go.bits .and .i64 a1 7), .int .i64 (wrap64 ((Go.bits .and .i64 a1 7) + (Go.bits .and .i64 a2 3))), .slice none 0 0]) ?_ 3 _ rfl; (with_reducible repeat (first | refine blk_drewN ?_ _ | refine blk_drew ?_ | refine blk_alloc ?_ _)); refine blk_put (cs := #[.int .i64 (Go.bits .and .i64 a0 7), .int .i64 (Go.bits .and .i64 a1 7), .int .i64 0, .slice none 0 0]) ?_ 2 _ rfl; (with_reducible repeat (first | refine blk_drewN ?_ _ | refine blk_drew ?_ | refine blk_alloc ?_ _)); refine blk_put (cs := #[.int .i64 (Go.bits .and .i64 a0 7), .int .i64 0, .int .i64 0, .slice none 0 0]) ?_ 1 _ rfl; (with_reducible repeat (first | refine blk_drewN ?_ _ | refine blk_drew ?_ | refine blk_alloc ?_ _)); refine blk_put (cs := #[.int .i64 0, .int .i64 0, .int .i64 0, .slice none 0 0]) ?_ 0 _ rfl; (with_reducible repeat (first | refine blk_drewN ?_ _ | refine blk_drew ?_ | refine blk_alloc ?_ _)); exact BK494.out⟩, ⟨bes⟩⟩
 case round =>
  clear H'
  try clear c1
  try clear p2
  try clear c3
  try clear c6
  try clear c6b0
  try clear c6b1
  try clear p6
  try clear c7
  try clear c7b0
  try clear c7b1
  try clear c13
  try clear hcz14_0
  try clear hcz14_1
  try clear hcz14_2
  try clear hcz14_3
  try clear hfz14_0
  try clear hfz14_1
  try clear hfz14_2
  try clear hfz14_3
  obtain ⟨x33_1, x495003_1, u495003, rfl, HA, HK1, HO_495003, BK490, BK494, HB⟩ := hrel
  cases gk with
  | zero => exact absurd HA.out (by simp [gimballaw09_Made.l0])
  | succ k1 =>
   have H := HA.out
   clear HA
   simp only [gimballaw09_Made.l0] at H
   by_cases c15 : x33_1 < (y491.length : Int)
   ·
    rw [if_pos c15] at H
    have c15b0 : decide (x33_1 < (y491.length : Int)) = true := decide_eq_true c15
    clear c15
    by_cases c16 : 0 ≤ x33_1
    rotate_left
    ·
     rw [if_neg c16] at H
     exact absurd H (by simp)
    rw [if_pos c16] at H
    have c16b0 : decide (0 ≤ x33_1) = true := decide_eq_true c16
    clear c16
    by_cases c17 : x33_1 < (x495003_1.length : Int)
    rotate_left
    ·
     rw [if_neg c17] at H
     exact absurd H (by simp)
    rw [if_pos c17] at H
    have c17b0 : decide (x33_1 < (x495003_1.length : Int)) = true := decide_eq_true c17
    clear c17
    obtain ⟨y495, hy495⟩ : ∃ y_ : List Int, y_ = (x495003_1.set (x33_1 : Int).toNat 9221120237041090560) := ⟨_, rfl⟩
    replace H : (gimballaw09_Made.l0 k1 (Go.bits .and .i64 a0 7) (Go.bits .and .i64 a1 7) l3 (y491.length : Int) (wrap64 (x33_1 + 1)) (Go.bits .and .i64 a0 7) (Go.bits .and .i64 a1 7) (wrap64 ((Go.bits .and .i64 a1 7) + (Go.bits .and .i64 a2 3))) y495) = some (r1, r2, r3, r4) := by first | (rw [hy495]; with_reducible exact H) | (have H2_ := (Option.bind_some _ _).symm.trans H; rw [hy495]; with_reducible exact H2_) | (have H2_ := (Option.bind_some _ _).symm.trans H; with_reducible exact H2_) | with_reducible exact H | (rw [hy495]; exact H) | exact H
    have Ny495 := Aside0.mk hy495
    clear hy495
    have H' := Aside0.mk H
    clear H
    have hnb19 := NB494_490.out
    have hnc19 := NB490_494.out
    have hcz20_0 := bc BK494 0 rfl
    have hcz20_1 := bc BK494 1 rfl
    have hcz20_2 := bc BK494 2 rfl
    have hcz20_3 := bc BK494 3 rfl
    have hfz20_0 := blk_frozen BK494.out 0
    have hfz20_1 := blk_frozen BK494.out 1
    have hfz20_2 := blk_frozen BK494.out 2
    have hfz20_3 := blk_frozen BK494.out 3
    have p18 : 0 ≤ (x33_1 : Int) := of_decide_eq_true (by first | (with_reducible assumption) | assumption)
    have q18 : (x33_1 : Int) < ((x495003_1.length : Int) : Int) := of_decide_eq_true (by first | (with_reducible assumption) | assumption)
    obtain ⟨go18, co18, eo18, gb18, gl18, cl18, HG18⟩ := Kd.R_form HO_495003.out (by omega)
    (first | cases eo18 | (injection eo18 with ea_ en_ ec_; (first | subst ea_ | (injection ea_ with ea_; subst ea_)); subst ec_; clear en_))
    have GB18 := Aside0.mk gb18
    have GG18 := Aside0.mk HG18
    clear gb18 gl18 HG18
    obtain ⟨hx18_0, hf18_0⟩ := Kd.R_celln 0 HO_495003.out (x33_1 : Int) p18 q18
    replace p18 := eq_true p18
    replace q18 := eq_true q18
    have HP21 := Kd.R_putg HO_495003.out (x33_1 : Int) 9221120237041090560
    go_wp2_with (first | ((with_reducible refine gate_store (t := 32) (p := 39) rfl ?_); refine store_event (t := 32) (p := 39) (v := ?vo_w22) (w1 := (wr.setCell ⟨go18, (x33_1 : Int).toNat, none⟩ (.int .u64 9221120237041090560))) ?hg ?ho ?hn ?hr ?_; (case ho => rfl); (case hg => rfl); (case hn => rfl); (case hr => first | (go_simp; done) | (go_simp; rfl)); intro w22 hw; have hg : wr.grownBy w22 (some go18) := (by rw [hw]; exact HP21.2); have hp_ : Kd.R (Kd.int .u64) 32 w22 w.heap.size (fun _ => True) (.slice (some ⟨go18, 0, none⟩) x495003_1.length co18) y495 := (by rw [hw, Ny495.out]; exact HP21.1); clear HP21; refine ax4 hp_ (blk_grown (g := gb490) (o := .cells #[.int .i64 0, .int .i64 0, .int .i64 0, .slice none 0 0] 25 (0, 0)) (kb BK490) hg (Kd.R_ne HO_495003.out BK490.out (by decide))) (blk_grown (g := gb494) (o := .cells #[.int .i64 (Go.bits .and .i64 a0 7), .int .i64 (Go.bits .and .i64 a1 7), .int .i64 (wrap64 ((Go.bits .and .i64 a1 7) + (Go.bits .and .i64 a2 3))), .slice (some ⟨go18, 0, none⟩) x495003_1.length co18] 25 (0, 0)) (kb BK494) hg (Kd.R_ne HO_495003.out BK494.out (by decide))) ((by rw [hw]; exact below_set (HB.out) GB18.out : Below w.heap.size w w22)) ?_; clear HO_495003; clear BK490; clear BK494; clear HB; intro HO_495003 BK490 BK494 HB; clear hg hw hp_))
    go_roundg k1
    case measure => have := HK1.out; omega
    case rel => exact ⟨(wrap64 (x33_1 + 1)), (y495), (.slice (some ⟨go18, 0, none⟩) x495003_1.length co18), (by first | rfl | (simp; done) | (simp [*]; done)), H', ⟨by have := HK1.out; omega⟩, ⟨kr HO_495003⟩, ⟨kb BK490⟩, ⟨kb BK494⟩, ⟨bes⟩⟩
   ·
    rw [if_neg c15] at H
    have c15b0 : decide (x33_1 < (y491.length : Int)) = false := decide_eq_false c15
    clear c15
    have H' := Aside0.mk H
    clear H
    go_wp2
    go_loopg [12] k1 (fun kq v12 w' => ∃ (x12_2 : Int) (x495003_2 : List Int) (u495003 : Value), v12 = .int .i64 x12_2 ∧ Aside0 (gimballaw09_Made.l1 kq (Go.bits .and .i64 a0 7) (Go.bits .and .i64 a1 7) l3 x12_2 (Go.bits .and .i64 a0 7) (Go.bits .and .i64 a1 7) (wrap64 ((Go.bits .and .i64 a1 7) + (Go.bits .and .i64 a2 3))) x495003_2 = some (r1, r2, r3, r4)) ∧ Aside0 (kq ≤ k1) ∧ Aside0 (Kd.R (Kd.int .u64) 32 w' w.heap.size (fun _ => True) u495003 x495003_2) ∧ Aside0 (w'.heap[gb490]? = some (.cells #[.int .i64 0, .int .i64 0, .int .i64 0, (.slice none 0 0)] 25 (0, 0))) ∧ Aside0 (w'.heap[gb494]? = some (.cells #[.int .i64 (Go.bits .and .i64 a0 7), .int .i64 (Go.bits .and .i64 a1 7), .int .i64 (wrap64 ((Go.bits .and .i64 a1 7) + (Go.bits .and .i64 a2 3))), u495003] 25 (0, 0))) ∧ Aside0 (Below w.heap.size w w'))
    case atStart => exact ⟨(0), (x495003_1), (u495003), (by first | rfl | (simp; done) | (simp [*]; done)), H', ⟨Nat.le_refl _⟩, ⟨kr HO_495003⟩, ⟨kb BK490⟩, ⟨kb BK494⟩, ⟨bes⟩⟩
    case round =>
     clear H'
     try clear c1
     try clear p1
     try clear q1
     try clear hx1
     try clear p2
     try clear c3
     try clear c6
     try clear c6b0
     try clear c6b1
     try clear p6
     try clear c7
     try clear c7b0
     try clear c7b1
     try clear c13
     try clear c15
     try clear c15b0
     try clear c16
     try clear c16b0
     try clear c17
     try clear c17b0
     try clear p18
     try clear q18
     try clear hx18
     try clear hf18
     try clear c19
     try clear hcz14_0
     try clear hcz14_1
     try clear hcz14_2
     try clear hcz14_3
     try clear hcz20_0
     try clear hcz20_1
     try clear hcz20_2
     try clear hcz20_3
     try clear hfz14_0
     try clear hfz14_1
     try clear hfz14_2
     try clear hfz14_3
     try clear hfz20_0
     try clear hfz20_1
     try clear hfz20_2
     try clear hfz20_3
     try clear hx18_0
     try clear p18
     try clear p2
     try clear p6
     try clear q18
     obtain ⟨x12_2, x495003_2, u495003, rfl, HA, HK2, HO_495003, BK490, BK494, HB⟩ := hrel
     cases gk with
     | zero => exact absurd HA.out (by simp [gimballaw09_Made.l1])
     | succ k2 =>
      have H := HA.out
      clear HA
      simp only [gimballaw09_Made.l1] at H
      by_cases c23 : x12_2 < (Go.bits .and .i64 a0 7)
      ·
       rw [if_pos c23] at H
       have c23b0 : decide (x12_2 < (Go.bits .and .i64 a0 7)) = true := decide_eq_true c23
       clear c23
       have H' := Aside0.mk H
       clear H
       go_wp2
       go_loopg [13] k2 (fun kq v13 w' => ∃ (x13_3 : Int) (x495003_3 : List Int) (u495003 : Value), v13 = .int .i64 x13_3 ∧ Aside0 (gimballaw09_Made.l2 kq (Go.bits .and .i64 a0 7) (Go.bits .and .i64 a1 7) l3 x12_2 x13_3 (Go.bits .and .i64 a0 7) (Go.bits .and .i64 a1 7) (wrap64 ((Go.bits .and .i64 a1 7) + (Go.bits .and .i64 a2 3))) x495003_3 = some (r1, r2, r3, r4)) ∧ Aside0 (kq ≤ k2) ∧ Aside0 (Kd.R (Kd.int .u64) 32 w' w.heap.size (fun _ => True) u495003 x495003_3) ∧ Aside0 (w'.heap[gb490]? = some (.cells #[.int .i64 0, .int .i64 0, .int .i64 0, (.slice none 0 0)] 25 (0, 0))) ∧ Aside0 (w'.heap[gb494]? = some (.cells #[.int .i64 (Go.bits .and .i64 a0 7), .int .i64 (Go.bits .and .i64 a1 7), .int .i64 (wrap64 ((Go.bits .and .i64 a1 7) + (Go.bits .and .i64 a2 3))), u495003] 25 (0, 0))) ∧ Aside0 (Below w.heap.size w w'))
       case atStart => exact ⟨(0), (x495003_2), (u495003), (by first | rfl | (simp; done) | (simp [*]; done)), H', ⟨Nat.le_refl _⟩, ⟨kr HO_495003⟩, ⟨kb BK490⟩, ⟨kb BK494⟩, ⟨bes⟩⟩
       case round =>
        clear H'
        try clear c1
        try clear p1
        try clear q1
        try clear hx1
        try clear c2
        try clear p2
        try clear c3
        try clear c6
        try clear c6b0
        try clear c6b1
        try clear p6
        try clear c7
        try clear c7b0
        try clear c7b1
        try clear c13
        try clear c15
        try clear c15b0
        try clear c16
        try clear c16b0
        try clear c17
        try clear c17b0
        try clear p18
        try clear q18
        try clear hx18
        try clear hf18
        try clear c19
        try clear c23
        try clear c23b0
        try clear hcz14_0
        try clear hcz14_1
        try clear hcz14_2
        try clear hcz14_3
        try clear hcz20_0
        try clear hcz20_1
        try clear hcz20_2
        try clear hcz20_3
        try clear hfz14_0
        try clear hfz14_1
        try clear hfz14_2
        try clear hfz14_3
        try clear hfz20_0
        try clear hfz20_1
        try clear hfz20_2
        try clear hfz20_3
        try clear hx18_0
        try clear p1
        try clear p18
        try clear p2
        try clear p6
        try clear q1
        try clear q18
        obtain ⟨x13_3, x495003_3, u495003, rfl, HA, HK3, HO_495003, BK490, BK494, HB⟩ := hrel
        cases gk with
        | zero => exact absurd HA.out (by simp [gimballaw09_Made.l2])
        | succ k3 =>
         have H := HA.out
         clear HA
         simp only [gimballaw09_Made.l2] at H
         by_cases c24 : x13_3 < (Go.bits .and .i64 a1 7)
         rotate_left
         ·
          rw [if_neg c24] at H
          have c24b0 : decide (x13_3 < (Go.bits .and .i64 a1 7)) = false := decide_eq_false c24
          clear c24
          have H' := Aside0.mk H
          clear H
          go_wp2
          go_roundg k3
          case measure => have := HK1.out; have := HK2.out; have := HK3.out; omega
          case rel => exact ⟨(wrap64 (x12_2 + 1)), (x495003_3), (u495003), (by first | rfl | (simp; done) | (simp [*]; done)), H', ⟨by have := HK1.out; have := HK2.out; have := HK3.out; omega⟩, ⟨kr HO_495003⟩, ⟨kb BK490⟩, ⟨kb BK494⟩, ⟨bes⟩⟩
         rw [if_pos c24] at H
         have c24b0 : decide (x13_3 < (Go.bits .and .i64 a1 7)) = true := decide_eq_true c24
         clear c24
         by_cases c25 : (l3.length : Int) > 0
         ·
          rw [if_pos c25] at H
          have c25b0 : decide (0 < (l3.length : Int)) = true := decide_eq_true c25
          have c25b1 : decide (0 < l3.length) = true := decide_eq_true (by omega)
          clear c25
          by_cases c26 : (l3.length : Int) = 0
          ·
           rw [if_pos c26] at H
           exact absurd H (by simp)
          ·
           rw [if_neg c26] at H
           have c26b0 : ((l3.length : Int) == 0) = false := beq_eq_false_iff_ne.mpr c26
           have c26b1 : ((l3.length : Int) != 0) = true := bne_iff_ne.mpr c26
           have c26b2 : ¬ (l3 = []) := fun h_ => c26 (by rw [h_]; rfl)
           obtain ⟨ji27, hji27⟩ : ∃ j_ : Int, (Int.tmod (wrap64 ((wrap64 (x12_2 * (Go.bits .and .i64 a1 7))) + x13_3)) (l3.length : Int)) = j_ := ⟨_, rfl⟩
           replace H : (if 0 ≤ (ji27) then (if (ji27) < (l3.length : Int) then ((mat_Matrix_Set.f (Go.bits .and .i64 a0 7) (Go.bits .and .i64 a1 7) (wrap64 ((Go.bits .and .i64 a1 7) + (Go.bits .and .i64 a2 3))) x495003_3 x12_2 x13_3 (rd l3 (ji27))).bind fun t497 => (gimballaw09_Made.l2 k3 (Go.bits .and .i64 a0 7) (Go.bits .and .i64 a1 7) l3 x12_2 (wrap64 (x13_3 + 1)) (Go.bits .and .i64 a0 7) (Go.bits .and .i64 a1 7) (wrap64 ((Go.bits .and .i64 a1 7) + (Go.bits .and .i64 a2 3))) t497)) else (none)) else (none)) = some (r1, r2, r3, r4) := by first | (rw [hji27] at H; exact H) | (simp only [hji27] at H ⊢; exact H)
           by_cases c28 : 0 ≤ (ji27)
           rotate_left
           ·
            rw [if_neg c28] at H
            exact absurd H (by simp)
           rw [if_pos c28] at H
           have c28b0 : decide (0 ≤ (ji27)) = true := decide_eq_true c28
           clear c28
           by_cases c29 : (ji27) < (l3.length : Int)
           rotate_left
           ·
            rw [if_neg c29] at H
            exact absurd H (by simp)
           rw [if_pos c29] at H
           have c29b0 : decide ((ji27) < (l3.length : Int)) = true := decide_eq_true c29
           clear c29
           obtain ⟨t497, A300, H⟩ := Option.bind_eq_some_iff.mp H
           (try dsimp -simprocs only at H)
           have A30 := Aside0.mk A300
           clear A300
           have H' := Aside0.mk H
           clear H
           try go_wp2
           refine ax4 (Kd.R_drew HO_495003.out) (blk_drew BK490.out) (blk_drew BK494.out) (below_drew1 HB.out) ?_
           clear HO_495003 BK490 BK494 HB
           intro HO_495003 BK490 BK494 HB
           have p496 : 0 ≤ ((ji27) : Int) := of_decide_eq_true (by first | (with_reducible assumption) | assumption)
           have q496 : (ji27) < (l3.length : Int) := of_decide_eq_true (by first | (with_reducible assumption) | assumption)
           obtain ⟨ad496, e496, hx496_0⟩ := Kd.at_int HR3.out (ji27) p496 q496
           have hw496_0 := hx496_0
           cases e496
           replace hx496_0 := (HB.out.cell (World.block_lt_of_cell? w _ hx496_0)).trans hx496_0
           replace p496 := eq_true p496
           replace q496 := eq_true q496
           obtain ⟨Ao32, co32, eo32⟩ := Kd.R_slice HO_495003.out
           (first | subst eo32 | (injection eo32 with f1_ f2_ f3_; have f4_ := f1_.symm; have f5_ := f3_.symm; clear f1_ f2_ f3_; subst f4_; subst f5_))
           refine start_ (n := 15) (S := fun w' => w'.cell? ⟨gb494, 0, none⟩ = some (.int .i64 (Go.bits .and .i64 a0 7)) ∧ w'.cell? ⟨gb494, 1, none⟩ = some (.int .i64 (Go.bits .and .i64 a1 7)) ∧ w'.cell? ⟨gb494, 2, none⟩ = some (.int .i64 (wrap64 ((Go.bits .and .i64 a1 7) + (Go.bits .and .i64 a2 3)))) ∧ w'.cell? ⟨gb494, 3, none⟩ = some (.slice Ao32 x495003_3.length co32) ∧ w'.cell? (ad496.add ((ji27)).toNat) = some (.int .u64 (rd l3 (ji27)))) (ds := []) #[false, false, false, false, false, false, false, false, false, false, false, false, false, false, false] (by kernel_rfl) rfl rfl ⟨(blk_cell BK494.out 0).trans rfl, (blk_cell BK494.out 1).trans rfl, (blk_cell BK494.out 2).trans rfl, (blk_cell BK494.out 3).trans rfl, ((HB.out.cell (World.block_lt_of_cell? w _ hw496_0)).trans hw496_0)⟩ (fun hHeld => ?_); refine with_tabW gimballaw09_Made.tab17 gimballaw09_Made.bits17 (fun HT_ HW_ => ?_)
           generalize wr.drew = w31 at HO_495003 BK490 BK494 HB hx496_0 hHeld ⊢
           refine pure_ (i := 1) (N := some 55) (v := ?_) (a' := ?_) #[false, true, false, false, false, false, false, false, false, false, false, false, false, false, false] rfl rfl (any_of HT_.out (by kernel_rfl)) (fun _ _ _ h => h) (Or.inl ⟨by rfl, ?_⟩) ?_ ?_
           rotate_left
           ·
            intro w'
            go_simp
            with_reducible rfl
           rotate_left
           ·
            simp only [Act.put, sa0, sa1, sa2, i64_w, i32_w]
            rfl
           refine pure_ (i := 2) (N := some 56) (v := ?_) (a' := ?_) #[false, true, true, false, false, false, false, false, false, false, false, false, false, false, false] rfl rfl (any_of HT_.out (by kernel_rfl)) (fun _ _ _ h => h) (Or.inl ⟨by rfl, ?_⟩) ?_ ?_
           rotate_left
           ·
            intro w'
            go_simp
            with_reducible rfl
           rotate_left
           ·
            simp only [Act.put, sa0, sa1, sa2, i64_w, i32_w]
            rfl
           refine pure_ (i := 3) (N := some 57) (v := ?_) (a' := ?_) #[false, true, true, true, false, false, false, false, false, false, false, false, false, false, false] rfl rfl (any_of HT_.out (by kernel_rfl)) (fun _ _ _ h => h) (Or.inl ⟨by rfl, ?_⟩) ?_ ?_
           rotate_left
           ·
            intro w'
            go_simp
            with_reducible rfl
           rotate_left
           ·
            simp only [Act.put, sa0, sa1, sa2, i64_w, i32_w]
            rfl
           refine pure_ (i := 4) (N := some 58) (v := ?_) (a' := ?_) #[false, true, true, true, true, false, false, false, false, false, false, false, false, false, false] rfl rfl (any_of HT_.out (by kernel_rfl)) (fun _ _ _ h => h) (Or.inl ⟨by rfl, ?_⟩) ?_ ?_
           rotate_left
           ·
            intro w'
            go_simp
            with_reducible rfl
           rotate_left
           ·
            simp only [Act.put, sa0, sa1, sa2, i64_w, i32_w]
            rfl
           refine pure_ (i := 5) (N := some 59) (v := ?_) (a' := ?_) #[false, true, true, true, true, true, false, false, false, false, false, false, false, false, false] rfl rfl (any_of HT_.out (by kernel_rfl)) (fun _ _ _ h => h) (Or.inl ⟨by rfl, ?_⟩) ?_ ?_
           rotate_left
           ·
            intro w'
            go_simp
            with_reducible rfl
           rotate_left
           ·
            simp only [Act.put, sa0, sa1, sa2, i64_w, i32_w]
            rfl
           refine pure_ (i := 6) (N := some 60) (v := ?_) (a' := ?_) #[false, true, true, true, true, true, true, false, false, false, false, false, false, false, false] rfl rfl (any_of HT_.out (by kernel_rfl)) (fun _ _ _ h => h) (Or.inl ⟨by rfl, ?_⟩) ?_ ?_
           rotate_left
           ·
            intro w'
            go_simp
            with_reducible rfl
           rotate_left
           ·
            simp only [Act.put, sa0, sa1, sa2, i64_w, i32_w]
            rfl
           refine pure_ (i := 7) (N := some 61) (v := ?_) (a' := ?_) #[false, true, true, true, true, true, true, true, false, false, false, false, false, false, false] rfl rfl (any_of HT_.out (by kernel_rfl)) (fun _ _ _ h => h) (Or.inl ⟨by rfl, ?_⟩) ?_ ?_
           rotate_left
           ·
            intro w'
            go_simp
            with_reducible rfl
           rotate_left
           ·
            simp only [Act.put, sa0, sa1, sa2, i64_w, i32_w]
            rfl
           refine pure_ (i := 8) (N := some 62) (v := ?_) (a' := ?_) #[false, true, true, true, true, true, true, true, true, false, false, false, false, false, false] rfl rfl (any_of HT_.out (by kernel_rfl)) (fun _ _ _ h => h) (Or.inl ⟨by rfl, ?_⟩) ?_ ?_
           rotate_left
           ·
            intro w'
            go_simp
            with_reducible rfl
           rotate_left
           ·
            simp only [Act.put, sa0, sa1, sa2, i64_w, i32_w]
            rfl
           refine pure_ (i := 9) (N := some 63) (v := ?_) (a' := ?_) #[false, true, true, true, true, true, true, true, true, true, false, false, false, false, false] rfl rfl (any_of HT_.out (by kernel_rfl)) (fun _ _ _ h => h) (Or.inl ⟨by rfl, ?_⟩) ?_ ?_
           rotate_left
           ·
            intro w'
            go_simp
            with_reducible rfl
           rotate_left
           ·
            simp only [Act.put, sa0, sa1, sa2, i64_w, i32_w]
            rfl
           refine pure_ (i := 10) (N := some 64) (v := ?_) (a' := ?_) #[false, true, true, true, true, true, true, true, true, true, true, false, false, false, false] rfl rfl (any_of HT_.out (by kernel_rfl)) (fun _ _ _ h => h) (Or.inl ⟨by rfl, ?_⟩) ?_ ?_
           rotate_left
           ·
            intro w'
            go_simp
            with_reducible rfl
           rotate_left
           ·
            simp only [Act.put, sa0, sa1, sa2, i64_w, i32_w]
            rfl
           refine pure_ (i := 11) (N := some 65) (v := ?_) (a' := ?_) #[false, true, true, true, true, true, true, true, true, true, true, true, false, false, false] rfl rfl (any_of HT_.out (by kernel_rfl)) (fun _ _ _ h => h) (Or.inl ⟨by rfl, ?_⟩) ?_ ?_
           rotate_left
           ·
            intro w'
            go_simp
            with_reducible rfl
           rotate_left
           ·
            simp only [Act.put, sa0, sa1, sa2, i64_w, i32_w]
            rfl
           refine pure_ (i := 12) (N := some 66) (v := ?_) (a' := ?_) #[false, true, true, true, true, true, true, true, true, true, true, true, true, false, false] rfl rfl (any_of HT_.out (by kernel_rfl)) (fun _ _ _ h => h) (Or.inl ⟨by rfl, ?_⟩) ?_ ?_
           rotate_left
           ·
            intro w'
            go_simp
            with_reducible rfl
           rotate_left
           ·
            simp only [Act.put, sa0, sa1, sa2, i64_w, i32_w]
            rfl
           refine take_ (i := 0) (N := some 54) (v := ?_) (a' := ?_) #[true, true, true, true, true, true, true, true, true, true, true, true, true, false, false] rfl rfl (take_ofW HT_.out HW_.out (by kernel_rfl)) (fun _ _ _ h => h) (Or.inl ⟨by rfl, ?_⟩) hHeld ?_ ?_
           rotate_left
           ·
            rintro w' ⟨s0, s1, s2, s3, s4⟩
            go_simp
            with_reducible rfl
           rotate_left
           ·
            simp only [Act.put, sa0, sa1, sa2, i64_w, i32_w]
            rfl
           refine take_ (i := 13) (N := some 67) (v := ?_) (a' := ?_) #[true, true, true, true, true, true, true, true, true, true, true, true, true, true, false] rfl rfl (take_ofW HT_.out HW_.out (by kernel_rfl)) (fun _ _ _ h => h) (Or.inl ⟨by rfl, ?_⟩) hHeld ?_ ?_
           rotate_left
           ·
            rintro w' ⟨s0, s1, s2, s3, s4⟩
            go_simp
            with_reducible rfl
           rotate_left
           ·
            simp only [Act.put, sa0, sa1, sa2, i64_w, i32_w]
            rfl
           refine one_ (i := 14) (N := some 68) #[true, true, true, true, true, true, true, true, true, true, true, true, true, true, true] rfl rfl (one_of HT_.out (by kernel_rfl)) (by decide) (fun K hK => ?_)
           refine goes_ Tryd.func24 (by kernel_rfl) rfl #[.agg #[.int .i64 (Go.bits .and .i64 a0 7), .int .i64 (Go.bits .and .i64 a1 7), .int .i64 (wrap64 ((Go.bits .and .i64 a1 7) + (Go.bits .and .i64 a2 3))), .slice Ao32 x495003_3.length co32], .int .i64 x12_2, .int .i64 x13_3, .int .u64 (rd l3 (ji27))] (by rfl) rfl rfl (by (try simp only [List.map_toArray, List.map_cons, List.map_nil]); first | done | (simp only [hji27]; rfl) | rfl | (simp only [List.length_drop, List.length_take]; rfl)) ?_
           with_reducible refine (mat_Matrix_Set.calls (Go.bits .and .i64 a0 7) (Go.bits .and .i64 a1 7) (wrap64 ((Go.bits .and .i64 a1 7) + (Go.bits .and .i64 a2 3))) (fun k_ => some k_ = (.slice Ao32 x495003_3.length co32 : Value).ownBlock) (.slice Ao32 x495003_3.length co32) x495003_3 x12_2 x13_3 (rd l3 (ji27)) t497 w _ ?side1 ?side2 A30.out).mono ?_
           (case side1 => repeat (first | (with_reducible first | exact HB.out | apply below_alloc | apply pw_below_drewN | apply below_drew1 | refine below_set ?_ GE490.out | refine below_set ?_ GE494.out) | exact HB.out))
           (case side2 => exact Kd.R_tight rfl HO_495003.out)
           rintro e w33 ⟨rfl, hy0, hb, hkp⟩
           refine ⟨_, rfl, ?_⟩
           refine ax4 (Kd.R_reok rfl hy0 (fun k_ e_ => HO_495003.out.1 k_ e_)) (blk_kept (kb BK490) hkp (fun hs_ => (fun e_ => (Kd.R_ne HO_495003.out BK490.out (by decide)) e_) hs_)) (blk_kept (kb BK494) hkp (fun hs_ => (fun e_ => (Kd.R_ne HO_495003.out BK494.out (by decide)) e_) hs_)) hb ?_
           clear HO_495003 BK490 BK494 HB
           intro HO_495003 BK490 BK494 HB
           (try clear hb)
           (try clear hkp)
           (try clear hy0)
           refine hK.out _ _ ⟨(blk_cell BK494.out 0).trans rfl, (blk_cell BK494.out 1).trans rfl, (blk_cell BK494.out 2).trans rfl, (blk_cell BK494.out 3).trans rfl, ((HB.out.cell (World.block_lt_of_cell? w _ hw496_0)).trans hw496_0)⟩ (fun hHeld => ?_)
           clear hK K
           refine norm_ (a' := ?_) ?_ ?_
           rotate_left
           ·
            show Act.put _ (some 68) _ = _
            simp only [Act.put, sa0, sa1, sa2, i64_w, i32_w]
            rfl
           refine done_ (done_of HT_.out (by kernel_rfl)) ?_
           try go_wp2
           go_roundg k3
           case measure => have := HK1.out; have := HK2.out; have := HK3.out; omega
           case rel => exact ⟨(wrap64 (x13_3 + 1)), (t497), (.slice Ao32 x495003_3.length co32), (by first | rfl | (simp; done) | (simp [*]; done)), H', ⟨by have := HK1.out; have := HK2.out; have := HK3.out; omega⟩, ⟨kr HO_495003⟩, ⟨kb BK490⟩, ⟨kb BK494⟩, ⟨bes⟩⟩
         ·
          rw [if_neg c25] at H
          have c25b0 : decide (0 < (l3.length : Int)) = false := decide_eq_false c25
          have c25b1 : decide (0 < l3.length) = false := decide_eq_false (by omega)
          clear c25
          obtain ⟨t498, A340, H⟩ := Option.bind_eq_some_iff.mp H
          (try dsimp -simprocs only at H)
          have A34 := Aside0.mk A340
          clear A340
          have H' := Aside0.mk H
          clear H
          have hnb35 := NB494_490.out
          have hnc35 := NB490_494.out
          have hcz36_0 := bc BK494 0 rfl
          have hcz36_1 := bc BK494 1 rfl
          have hcz36_2 := bc BK494 2 rfl
          have hcz36_3 := bc BK494 3 rfl
          have hfz36_0 := blk_frozen BK494.out 0
          have hfz36_1 := blk_frozen BK494.out 1
          have hfz36_2 := blk_frozen BK494.out 2
          have hfz36_3 := blk_frozen BK494.out 3
          obtain ⟨Ao37, co37, eo37⟩ := Kd.R_slice HO_495003.out
          subst eo37
          go_wp2_with (first | ((with_reducible refine gate_callee (f := 24) rfl ?_); refine goesL_ (some 72) rfl rfl Tryd.func24 (by kernel_rfl) rfl #[.agg #[.int .i64 (Go.bits .and .i64 a0 7), .int .i64 (Go.bits .and .i64 a1 7), .int .i64 (wrap64 ((Go.bits .and .i64 a1 7) + (Go.bits .and .i64 a2 3))), .slice Ao37 x495003_3.length co37], .int .i64 x12_2, .int .i64 x13_3, .int .u64 0] rfl ga ?_; (with_reducible refine (mat_Matrix_Set.calls (Go.bits .and .i64 a0 7) (Go.bits .and .i64 a1 7) (wrap64 ((Go.bits .and .i64 a1 7) + (Go.bits .and .i64 a2 3))) (fun k_ => some k_ = (.slice Ao37 x495003_3.length co37 : Value).ownBlock) (.slice Ao37 x495003_3.length co37) x495003_3 x12_2 x13_3 0 t498 w _ ?side1 ?side2 A34.out).mono ?_); (case side1 => repeat (first | (with_reducible first | exact HB.out | apply below_alloc | apply pw_below_drewN | apply below_drew1 | refine below_set ?_ GE490.out | refine below_set ?_ GE494.out) | exact HB.out)); (case side2 => exact Kd.R_tight rfl HO_495003.out); rintro e w38 ⟨rfl, hy0, hb, hkp⟩; refine ⟨_, rfl, ?_⟩; refine ax4 (Kd.R_reok rfl hy0 (fun k_ e_ => HO_495003.out.1 k_ e_)) (blk_kept (kb BK490) hkp (fun hs_ => (fun e_ => (Kd.R_ne HO_495003.out BK490.out (by decide)) e_) hs_)) (blk_kept (kb BK494) hkp (fun hs_ => (fun e_ => (Kd.R_ne HO_495003.out BK494.out (by decide)) e_) hs_)) hb ?_; clear HO_495003; clear BK490; clear BK494; clear HB; intro HO_495003 BK490 BK494 HB; (try clear hb); (try clear hkp); (try clear hy0)))
          go_roundg k3
          case measure => have := HK1.out; have := HK2.out; have := HK3.out; omega
          case rel => exact ⟨(wrap64 (x13_3 + 1)), (t498), (.slice Ao37 x495003_3.length co37), (by first | rfl | (simp; done) | (simp [*]; done)), H', ⟨by have := HK1.out; have := HK2.out; have := HK3.out; omega⟩, ⟨kr HO_495003⟩, ⟨kb BK490⟩, ⟨kb BK494⟩, ⟨bes⟩⟩
      ·
       rw [if_neg c23] at H
       have c23b0 : decide (x12_2 < (Go.bits .and .i64 a0 7)) = false := decide_eq_false c23
       clear c23
       simp only [Option.some.injEq, Prod.mk.injEq] at H
       obtain ⟨rfl, rfl, rfl, rfl⟩ := H
       have hnb39 := NB494_490.out
       have hnc39 := NB490_494.out
       have hcz40_0 := bc BK494 0 rfl
       have hcz40_1 := bc BK494 1 rfl
       have hcz40_2 := bc BK494 2 rfl
       have hcz40_3 := bc BK494 3 rfl
       have hfz40_0 := blk_frozen BK494.out 0
       have hfz40_1 := blk_frozen BK494.out 1
       have hfz40_2 := blk_frozen BK494.out 2
       have hfz40_3 := blk_frozen BK494.out 3
       have hcz41_0 := bc BK490 0 rfl
       have hcz41_1 := bc BK490 1 rfl
       have hcz41_2 := bc BK490 2 rfl
       have hcz41_3 := bc BK490 3 rfl
       have hfz41_0 := blk_frozen BK490.out 0
       have hfz41_1 := blk_frozen BK490.out 1
       have hfz41_2 := blk_frozen BK490.out 2
       have hfz41_3 := blk_frozen BK490.out 3
       obtain ⟨Ao42, co42, eo42⟩ := Kd.R_slice HO_495003.out
       subst eo42
       go_wp2
       refine bodyPost_ret (results_cell_row rfl _ _ gb490 25 #[.int .i64 (Go.bits .and .i64 a0 7), .int .i64 (Go.bits .and .i64 a1 7), .int .i64 (wrap64 ((Go.bits .and .i64 a1 7) + (Go.bits .and .i64 a2 3))), .slice Ao42 x495003_2.length co42] (0, 0) _ rfl (by (with_reducible repeat (first | refine blk_drewN ?_ _ | refine blk_drew ?_ | refine blk_alloc ?_ _)); refine blk_put (cs := #[.int .i64 (Go.bits .and .i64 a0 7), .int .i64 (Go.bits .and .i64 a1 7), .int .i64 (wrap64 ((Go.bits .and .i64 a1 7) + (Go.bits .and .i64 a2 3))), .slice none 0 0]) ?_ 3 _ rfl; (with_reducible repeat (first | refine blk_drewN ?_ _ | refine blk_drew ?_ | refine blk_alloc ?_ _)); refine blk_put (cs := #[.int .i64 (Go.bits .and .i64 a0 7), .int .i64 (Go.bits .and .i64 a1 7), .int .i64 0, .slice none 0 0]) ?_ 2 _ rfl; (with_reducible repeat (first | refine blk_drewN ?_ _ | refine blk_drew ?_ | refine blk_alloc ?_ _)); refine blk_put (cs := #[.int .i64 (Go.bits .and .i64 a0 7), .int .i64 0, .int .i64 0, .slice none 0 0]) ?_ 1 _ rfl; (with_reducible repeat (first | refine blk_drewN ?_ _ | refine blk_drew ?_ | refine blk_alloc ?_ _)); refine blk_put (cs := #[.int .i64 0, .int .i64 0, .int .i64 0, .slice none 0 0]) ?_ 0 _ rfl; (with_reducible repeat (first | refine blk_drewN ?_ _ | refine blk_drew ?_ | refine blk_alloc ?_ _)); exact BK490.out) Tryd.underlying25 rfl (by kernel_rfl)) rfl ?_
       exact ⟨_, by first | rfl | (simp [errW_none, errW_some] <;> rfl) | (simp only [← hji5]; first | rfl | (simp [errW_none, errW_some] <;> rfl)) | (simp [*, errW_none, errW_some] <;> rfl), by (with_reducible repeat (first | apply Kd.R_alloc | apply Kd.R_drewN | apply Kd.R_drew)); exact Kd.R_mono (Kd.R_far (p := ⟨gb490, 3, none⟩) (Kd.R_far (p := ⟨gb490, 2, none⟩) (Kd.R_far (p := ⟨gb490, 1, none⟩) (Kd.R_far (p := ⟨gb490, 0, none⟩) (Kd.R_types HO_495003.out BK490.out (by decide)) (fun _ hk => hk.2) (.int .i64 (Go.bits .and .i64 a0 7))) (fun _ hk => hk.2) (.int .i64 (Go.bits .and .i64 a1 7))) (fun _ hk => hk.2) (.int .i64 (wrap64 ((Go.bits .and .i64 a1 7) + (Go.bits .and .i64 a2 3))))) (fun _ hk => hk.2) (.slice Ao42 x495003_2.length co42)) (fun _ hk => trivial), bes⟩
/-! ### dyad_Num_Abs: function 15 -/
def dyad_Num_Abs.f (a0_0 : Bool) (l0_1 : List Int) (a0_2 : Int) : Option (Bool × List Int × Int) := some (false, l0_1, a0_2)
set_option maxHeartbeats 8000000 in
set_option maxRecDepth 100000 in
theorem dyad_Num_Abs.calls (a0_0 : Bool) (P0_1_ : Nat → Prop) (A0_1 : Option Addr) (c0_1 : Nat) (l0_1 : List Int) (a0_2 : Int) (r1 : Bool) (r2 : List Int) (r3 : Int) (w : World) (hs0_1 : Kd.V (Kd.int .u32) 56 w w.heap.size (fun k_ => P0_1_ k_) (.slice A0_1 l0_1.length c0_1) l0_1) (h : dyad_Num_Abs.f a0_0 l0_1 a0_2 = some (r1, r2, r3)) :
  Calls Tryd.prog 15 #[.agg #[.bool a0_0, .slice A0_1 l0_1.length c0_1, .int .i64 a0_2]] w fun e w' => ∃ v1_ : Value, e = .returned (.agg #[.bool r1, v1_, .int .i64 r3]) ∧ Kd.V (Kd.int .u32) 56 w' w.heap.size (fun k_ => (P0_1_ k_ ∨ w.heap.size ≤ k_)) v1_ r2 ∧ Below w.heap.size w w' := by
 have hu29 := Tryd.underlying29
 have HO0_1 := Aside0.mk (show Kd.V (Kd.int .u32) 56 w w.heap.size (fun k_ => (P0_1_ k_ ∨ w.heap.size ≤ k_)) (.slice A0_1 l0_1.length c0_1) l0_1 from Kd.V_mono hs0_1 (fun k_ hk => .inl hk))
 have HB := Aside0.mk (Below.refl w.heap.size w)
 have H : (some (false, l0_1, a0_2)) = some (r1, r2, r3) := h
 clear h
 simp only [Option.some.injEq, Prod.mk.injEq] at H
 obtain ⟨rfl, rfl, rfl⟩ := H
 go_enter Tryd.func15, Tryd.ntmps15
 go_wp2_with (first | ((with_reducible refine gate_dst (N := 1) rfl ?_); refine gbox (N := 1) (cs := #[.bool a0_0, .slice A0_1 l0_1.length c0_1, .int .i64 a0_2]) (t := 29) ?_; intro gb499 hg w2 hbox hb; refine ax5 (Kd.V_below (Kd.V_elderB (kv HO0_1) gb499 (Nat.le_of_eq hg.symm)) hb) (below_step bel hb) hbox ((ge hg : w.heap.size ≤ gb499)) ((ge hg : w.heap.size ≤ gb499)) ?_; clear HO0_1; clear HB; intro HO0_1 HB BK499 GW499 GE499; clear hb hbox hg) | ((with_reducible refine gate_dst (N := 2) rfl ?_); refine gbox (N := 2) (cs := #[.bool false, .slice none 0 0, .int .i64 0]) (t := 29) ?_; intro gb500 hg w3 hbox hb; refine ax8 (Kd.V_below (Kd.V_elderB (kv HO0_1) gb500 (Nat.le_of_eq hg.symm)) hb) (bb BK499 hb) (below_step bes hb) hbox ((ge hg : w.heap.size ≤ gb500)) ((ge hg : w.heap.size ≤ gb500)) (nl hg BK499) (ng hg BK499) ?_; clear HO0_1; clear BK499; clear HB; intro HO0_1 BK499 HB BK500 GW500 GE500 NB499_500 NB500_499; clear hb hbox hg; have hnb4 := NB499_500.out; have hnc4 := NB500_499.out; have hcz5_0 := bc BK499 0 rfl; have hcz5_1 := bc BK499 1 rfl; have hcz5_2 := bc BK499 2 rfl; have hfz5_0 := blk_frozen BK499.out 0; have hfz5_1 := blk_frozen BK499.out 1; have hfz5_2 := blk_frozen BK499.out 2; have hcz6_0 := bc BK500 0 rfl; have hcz6_1 := bc BK500 1 rfl; have hcz6_2 := bc BK500 2 rfl; have hfz6_0 := blk_frozen BK500.out 0; have hfz6_1 := blk_frozen BK500.out 1; have hfz6_2 := blk_frozen BK500.out 2))
 refine bodyPost_ret (results_cell_row rfl _ _ gb500 29 #[.bool false, .slice A0_1 l0_1.length c0_1, .int .i64 a0_2] (0, 0) _ rfl (by (with_reducible repeat (first | refine blk_drewN ?_ _ | refine blk_drew ?_ | refine blk_alloc ?_ _)); refine blk_put (cs := #[.bool false, .slice A0_1 l0_1.length c0_1, .int .i64 0]) ?_ 2 _ rfl; (with_reducible repeat (first | refine blk_drewN ?_ _ | refine blk_drew ?_ | refine blk_alloc ?_ _)); refine blk_put (cs := #[.bool false, .slice none 0 0, .int .i64 0]) ?_ 1 _ rfl; (with_reducible repeat (first | refine blk_drewN ?_ _ | refine blk_drew ?_ | refine blk_alloc ?_ _)); refine blk_put (cs := #[.bool false, .slice none 0 0, .int .i64 0]) ?_ 0 _ rfl; (with_reducible repeat (first | refine blk_drewN ?_ _ | refine blk_drew ?_ | refine blk_alloc ?_ _)); refine blk_far ?_ NB500_499.out _; (with_reducible repeat (first | refine blk_drewN ?_ _ | refine blk_drew ?_ | refine blk_alloc ?_ _)); exact BK500.out) Tryd.underlying29 rfl (by kernel_rfl)) rfl ?_
 exact ⟨_, er, by (with_reducible repeat (first | apply Kd.V_alloc | apply Kd.V_drewN | apply Kd.V_drew)); exact Kd.V_mono (Kd.V_far (p := ⟨gb500, 2, none⟩) (Kd.V_far (p := ⟨gb500, 1, none⟩) (Kd.V_far (p := ⟨gb500, 0, none⟩) (Kd.V_far (p := ⟨gb499, 0, none⟩) (Kd.V_mono (Kd.V_mono HO0_1.out (fun k_ hk => (⟨hk, hk.1.2⟩ : _ ∧ k_ ≠ gb499))) (fun k_ hk => (⟨hk, hk.1.2⟩ : _ ∧ k_ ≠ gb500))) (fun _ hk => hk.1.2) (.bool false)) (fun _ hk => hk.2) (.bool false)) (fun _ hk => hk.2) (.slice A0_1 l0_1.length c0_1)) (fun _ hk => hk.2) (.int .i64 a0_2)) (fun _ hk => hk.1.1.1.1), bes⟩

/-! ### dyad_Num_Sign: function 18 -/
def dyad_Num_Sign.f (a0_0 : Bool) (l0_1 : List Int) (a0_2 : Int) : Option (Int) := if (l0_1.length : Int) = 0 then (some 0) else (if a0_0 = true then (some (-1)) else (some 1))
set_option maxHeartbeats 8000000 in
set_option maxRecDepth 100000 in
theorem dyad_Num_Sign.calls (a0_0 : Bool) (A0_1 : Option Addr) (c0_1 : Nat) (l0_1 : List Int) (a0_2 : Int) (r : Int) (w : World) (hr0_1 : Kd.C (Kd.int .u32) w A0_1 l0_1.length l0_1) (hc0_1 : l0_1.length ≤ c0_1) (h : dyad_Num_Sign.f a0_0 l0_1 a0_2 = some r) :
  Calls Tryd.prog 18 #[.agg #[.bool a0_0, .slice A0_1 l0_1.length c0_1, .int .i64 a0_2]] w fun e w' => e = .returned (.int .i64 r) ∧ Below w.heap.size w w' := by
 have hu29 := Tryd.underlying29
 have HR0_1 := Aside0.mk hr0_1
 have HC0_1 := Aside0.mk hc0_1
 clear hr0_1 hc0_1
 have HB := Aside0.mk (Below.refl w.heap.size w)
 have H : (if (l0_1.length : Int) = 0 then (some 0) else (if a0_0 = true then (some (-1)) else (some 1))) = some r := h
 clear h
 by_cases c2 : (l0_1.length : Int) = 0
 ·
  rw [if_pos c2] at H
  have c2b0 : ((l0_1.length : Int) == 0) = true := beq_iff_eq.mpr c2
  have c2b1 : ((l0_1.length : Int) != 0) = false := bne_eq_false_iff_eq.mpr c2
  clear c2
  obtain rfl := Option.some.inj H
  go_enter Tryd.func18, Tryd.ntmps18
  go_wp2_with (first | ((with_reducible refine gate_dst (N := 1) rfl ?_); refine gbox (N := 1) (cs := #[.bool a0_0, .slice A0_1 l0_1.length c0_1, .int .i64 a0_2]) (t := 29) ?_; intro gb501 hg w3 hbox hb; refine ax4 (below_step bel hb) hbox ((ge hg : w.heap.size ≤ gb501)) ((ge hg : w.heap.size ≤ gb501)) ?_; clear HB; intro HB BK501 GW501 GE501; clear hb hbox hg; have hcz4_0 := bc BK501 0 rfl; have hcz4_1 := bc BK501 1 rfl; have hcz4_2 := bc BK501 2 rfl; have hfz4_0 := blk_frozen BK501.out 0; have hfz4_1 := blk_frozen BK501.out 1; have hfz4_2 := blk_frozen BK501.out 2))
  go_ret
  exact ⟨er, bes⟩
 ·
  rw [if_neg c2] at H
  have c2b0 : ((l0_1.length : Int) == 0) = false := beq_eq_false_iff_ne.mpr c2
  have c2b1 : ((l0_1.length : Int) != 0) = true := bne_iff_ne.mpr c2
  have c2b2 : ¬ (l0_1 = []) := fun h_ => c2 (by rw [h_]; rfl)
  by_cases c5 : a0_0 = true
  ·
   subst c5
   rw [if_pos rfl] at H
   obtain rfl := Option.some.inj H
   go_enter Tryd.func18, Tryd.ntmps18
   go_wp2_with (first | ((with_reducible refine gate_dst (N := 1) rfl ?_); refine gbox (N := 1) (cs := #[.bool true, .slice A0_1 l0_1.length c0_1, .int .i64 a0_2]) (t := 29) ?_; intro gb501 hg w6 hbox hb; refine ax4 (below_step bel hb) hbox ((ge hg : w.heap.size ≤ gb501)) ((ge hg : w.heap.size ≤ gb501)) ?_; clear HB; intro HB BK501 GW501 GE501; clear hb hbox hg; have hcz7_0 := bc BK501 0 rfl; have hcz7_1 := bc BK501 1 rfl; have hcz7_2 := bc BK501 2 rfl; have hfz7_0 := blk_frozen BK501.out 0; have hfz7_1 := blk_frozen BK501.out 1; have hfz7_2 := blk_frozen BK501.out 2))
   go_ret
   exact ⟨er, bes⟩
  ·
   replace c5 := Bool.eq_false_iff.mpr c5
   subst c5
   rw [if_neg (show ¬ (false = true) by decide)] at H
   obtain rfl := Option.some.inj H
   go_enter Tryd.func18, Tryd.ntmps18
   go_wp2_with (first | ((with_reducible refine gate_dst (N := 1) rfl ?_); refine gbox (N := 1) (cs := #[.bool false, .slice A0_1 l0_1.length c0_1, .int .i64 a0_2]) (t := 29) ?_; intro gb501 hg w8 hbox hb; refine ax4 (below_step bel hb) hbox ((ge hg : w.heap.size ≤ gb501)) ((ge hg : w.heap.size ≤ gb501)) ?_; clear HB; intro HB BK501 GW501 GE501; clear hb hbox hg; have hcz9_0 := bc BK501 0 rfl; have hcz9_1 := bc BK501 1 rfl; have hcz9_2 := bc BK501 2 rfl; have hfz9_0 := blk_frozen BK501.out 0; have hfz9_1 := blk_frozen BK501.out 1; have hfz9_2 := blk_frozen BK501.out 2))
   go_ret
   exact ⟨er, bes⟩

/-! ### dyad_Num_Neg: function 46 -/
def dyad_Num_Neg.f (a0_0 : Bool) (l0_1 : List Int) (a0_2 : Int) : Option (Bool × List Int × Int) := if (l0_1.length : Int) > 0 then (some (!a0_0, l0_1, a0_2)) else (some (false, l0_1, a0_2))
set_option maxHeartbeats 8000000 in
set_option maxRecDepth 100000 in
theorem dyad_Num_Neg.calls (a0_0 : Bool) (P0_1_ : Nat → Prop) (A0_1 : Option Addr) (c0_1 : Nat) (l0_1 : List Int) (a0_2 : Int) (r1 : Bool) (r2 : List Int) (r3 : Int) (w : World) (hs0_1 : Kd.V (Kd.int .u32) 56 w w.heap.size (fun k_ => P0_1_ k_) (.slice A0_1 l0_1.length c0_1) l0_1) (h : dyad_Num_Neg.f a0_0 l0_1 a0_2 = some (r1, r2, r3)) :
  Calls Tryd.prog 46 #[.agg #[.bool a0_0, .slice A0_1 l0_1.length c0_1, .int .i64 a0_2]] w fun e w' => ∃ v1_ : Value, e = .returned (.agg #[.bool r1, v1_, .int .i64 r3]) ∧ Kd.V (Kd.int .u32) 56 w' w.heap.size (fun k_ => (P0_1_ k_ ∨ w.heap.size ≤ k_)) v1_ r2 ∧ Below w.heap.size w w' := by
 have hu29 := Tryd.underlying29
 have HO0_1 := Aside0.mk (show Kd.V (Kd.int .u32) 56 w w.heap.size (fun k_ => (P0_1_ k_ ∨ w.heap.size ≤ k_)) (.slice A0_1 l0_1.length c0_1) l0_1 from Kd.V_mono hs0_1 (fun k_ hk => .inl hk))
 have HB := Aside0.mk (Below.refl w.heap.size w)
 have H : (if (l0_1.length : Int) > 0 then (some (!a0_0, l0_1, a0_2)) else (some (false, l0_1, a0_2))) = some (r1, r2, r3) := h
 clear h
 by_cases c2 : (l0_1.length : Int) > 0
 ·
  rw [if_pos c2] at H
  have c2b0 : decide (0 < (l0_1.length : Int)) = true := decide_eq_true c2
  have c2b1 : decide (0 < l0_1.length) = true := decide_eq_true (by omega)
  clear c2
  simp only [Option.some.injEq, Prod.mk.injEq] at H
  obtain ⟨rfl, rfl, rfl⟩ := H
  go_enter Tryd.func46, Tryd.ntmps46
  go_wp2_with (first | ((with_reducible refine gate_dst (N := 1) rfl ?_); refine gbox (N := 1) (cs := #[.bool a0_0, .slice A0_1 l0_1.length c0_1, .int .i64 a0_2]) (t := 29) ?_; intro gb502 hg w3 hbox hb; refine ax5 (Kd.V_below (Kd.V_elderB (kv HO0_1) gb502 (Nat.le_of_eq hg.symm)) hb) (below_step bel hb) hbox ((ge hg : w.heap.size ≤ gb502)) ((ge hg : w.heap.size ≤ gb502)) ?_; clear HO0_1; clear HB; intro HO0_1 HB BK502 GW502 GE502; clear hb hbox hg) | ((with_reducible refine gate_dst (N := 2) rfl ?_); refine gbox (N := 2) (cs := #[.bool false, .slice none 0 0, .int .i64 0]) (t := 29) ?_; intro gb503 hg w4 hbox hb; refine ax8 (Kd.V_below (Kd.V_elderB (kv HO0_1) gb503 (Nat.le_of_eq hg.symm)) hb) (bb BK502 hb) (below_step bes hb) hbox ((ge hg : w.heap.size ≤ gb503)) ((ge hg : w.heap.size ≤ gb503)) (nl hg BK502) (ng hg BK502) ?_; clear HO0_1; clear BK502; clear HB; intro HO0_1 BK502 HB BK503 GW503 GE503 NB502_503 NB503_502; clear hb hbox hg; have hnb5 := NB502_503.out; have hnc5 := NB503_502.out; have hcz6_0 := bc BK502 0 rfl; have hcz6_1 := bc BK502 1 rfl; have hcz6_2 := bc BK502 2 rfl; have hfz6_0 := blk_frozen BK502.out 0; have hfz6_1 := blk_frozen BK502.out 1; have hfz6_2 := blk_frozen BK502.out 2; have hcz7_0 := bc BK503 0 rfl; have hcz7_1 := bc BK503 1 rfl; have hcz7_2 := bc BK503 2 rfl; have hfz7_0 := blk_frozen BK503.out 0; have hfz7_1 := blk_frozen BK503.out 1; have hfz7_2 := blk_frozen BK503.out 2))
  refine bodyPost_ret (results_cell_row rfl _ _ gb503 29 #[.bool (!a0_0), .slice A0_1 l0_1.length c0_1, .int .i64 a0_2] (0, 0) _ rfl (by (with_reducible repeat (first | refine blk_drewN ?_ _ | refine blk_drew ?_ | refine blk_alloc ?_ _)); refine blk_put (cs := #[.bool (!a0_0), .slice A0_1 l0_1.length c0_1, .int .i64 0]) ?_ 2 _ rfl; (with_reducible repeat (first | refine blk_drewN ?_ _ | refine blk_drew ?_ | refine blk_alloc ?_ _)); refine blk_put (cs := #[.bool (!a0_0), .slice none 0 0, .int .i64 0]) ?_ 1 _ rfl; (with_reducible repeat (first | refine blk_drewN ?_ _ | refine blk_drew ?_ | refine blk_alloc ?_ _)); refine blk_put (cs := #[.bool false, .slice none 0 0, .int .i64 0]) ?_ 0 _ rfl; (with_reducible repeat (first | refine blk_drewN ?_ _ | refine blk_drew ?_ | refine blk_alloc ?_ _)); refine blk_far ?_ NB503_502.out _; (with_reducible repeat (first | refine blk_drewN ?_ _ | refine blk_drew ?_ | refine blk_alloc ?_ _)); exact BK503.out) Tryd.underlying29 rfl (by kernel_rfl)) rfl ?_
  exact ⟨_, er, by (with_reducible repeat (first | apply Kd.V_alloc | apply Kd.V_drewN | apply Kd.V_drew)); exact Kd.V_mono (Kd.V_far (p := ⟨gb503, 2, none⟩) (Kd.V_far (p := ⟨gb503, 1, none⟩) (Kd.V_far (p := ⟨gb503, 0, none⟩) (Kd.V_far (p := ⟨gb502, 0, none⟩) (Kd.V_mono (Kd.V_mono HO0_1.out (fun k_ hk => (⟨hk, hk.1.2⟩ : _ ∧ k_ ≠ gb502))) (fun k_ hk => (⟨hk, hk.1.2⟩ : _ ∧ k_ ≠ gb503))) (fun _ hk => hk.1.2) (.bool (!a0_0))) (fun _ hk => hk.2) (.bool (!a0_0))) (fun _ hk => hk.2) (.slice A0_1 l0_1.length c0_1)) (fun _ hk => hk.2) (.int .i64 a0_2)) (fun _ hk => hk.1.1.1.1), bes⟩
 ·
  rw [if_neg c2] at H
  have c2b0 : decide (0 < (l0_1.length : Int)) = false := decide_eq_false c2
  have c2b1 : decide (0 < l0_1.length) = false := decide_eq_false (by omega)
  clear c2
  simp only [Option.some.injEq, Prod.mk.injEq] at H
  obtain ⟨rfl, rfl, rfl⟩ := H
  go_enter Tryd.func46, Tryd.ntmps46
  go_wp2_with (first | ((with_reducible refine gate_dst (N := 1) rfl ?_); refine gbox (N := 1) (cs := #[.bool a0_0, .slice A0_1 l0_1.length c0_1, .int .i64 a0_2]) (t := 29) ?_; intro gb502 hg w8 hbox hb; refine ax5 (Kd.V_below (Kd.V_elderB (kv HO0_1) gb502 (Nat.le_of_eq hg.symm)) hb) (below_step bel hb) hbox ((ge hg : w.heap.size ≤ gb502)) ((ge hg : w.heap.size ≤ gb502)) ?_; clear HO0_1; clear HB; intro HO0_1 HB BK502 GW502 GE502; clear hb hbox hg) | ((with_reducible refine gate_dst (N := 2) rfl ?_); refine gbox (N := 2) (cs := #[.bool false, .slice none 0 0, .int .i64 0]) (t := 29) ?_; intro gb503 hg w9 hbox hb; refine ax8 (Kd.V_below (Kd.V_elderB (kv HO0_1) gb503 (Nat.le_of_eq hg.symm)) hb) (bb BK502 hb) (below_step bes hb) hbox ((ge hg : w.heap.size ≤ gb503)) ((ge hg : w.heap.size ≤ gb503)) (nl hg BK502) (ng hg BK502) ?_; clear HO0_1; clear BK502; clear HB; intro HO0_1 BK502 HB BK503 GW503 GE503 NB502_503 NB503_502; clear hb hbox hg; have hnb10 := NB502_503.out; have hnc10 := NB503_502.out; have hcz11_0 := bc BK502 0 rfl; have hcz11_1 := bc BK502 1 rfl; have hcz11_2 := bc BK502 2 rfl; have hfz11_0 := blk_frozen BK502.out 0; have hfz11_1 := blk_frozen BK502.out 1; have hfz11_2 := blk_frozen BK502.out 2; have hcz12_0 := bc BK503 0 rfl; have hcz12_1 := bc BK503 1 rfl; have hcz12_2 := bc BK503 2 rfl; have hfz12_0 := blk_frozen BK503.out 0; have hfz12_1 := blk_frozen BK503.out 1; have hfz12_2 := blk_frozen BK503.out 2))
  refine bodyPost_ret (results_cell_row rfl _ _ gb503 29 #[.bool false, .slice A0_1 l0_1.length c0_1, .int .i64 a0_2] (0, 0) _ rfl (by (with_reducible repeat (first | refine blk_drewN ?_ _ | refine blk_drew ?_ | refine blk_alloc ?_ _)); refine blk_put (cs := #[.bool false, .slice A0_1 l0_1.length c0_1, .int .i64 0]) ?_ 2 _ rfl; (with_reducible repeat (first | refine blk_drewN ?_ _ | refine blk_drew ?_ | refine blk_alloc ?_ _)); refine blk_put (cs := #[.bool false, .slice none 0 0, .int .i64 0]) ?_ 1 _ rfl; (with_reducible repeat (first | refine blk_drewN ?_ _ | refine blk_drew ?_ | refine blk_alloc ?_ _)); refine blk_put (cs := #[.bool false, .slice none 0 0, .int .i64 0]) ?_ 0 _ rfl; (with_reducible repeat (first | refine blk_drewN ?_ _ | refine blk_drew ?_ | refine blk_alloc ?_ _)); refine blk_far ?_ NB503_502.out _; (with_reducible repeat (first | refine blk_drewN ?_ _ | refine blk_drew ?_ | refine blk_alloc ?_ _)); exact BK503.out) Tryd.underlying29 rfl (by kernel_rfl)) rfl ?_
  exact ⟨_, er, by (with_reducible repeat (first | apply Kd.V_alloc | apply Kd.V_drewN | apply Kd.V_drew)); exact Kd.V_mono (Kd.V_far (p := ⟨gb503, 2, none⟩) (Kd.V_far (p := ⟨gb503, 1, none⟩) (Kd.V_far (p := ⟨gb503, 0, none⟩) (Kd.V_far (p := ⟨gb502, 0, none⟩) (Kd.V_mono (Kd.V_mono HO0_1.out (fun k_ hk => (⟨hk, hk.1.2⟩ : _ ∧ k_ ≠ gb502))) (fun k_ hk => (⟨hk, hk.1.2⟩ : _ ∧ k_ ≠ gb503))) (fun _ hk => hk.1.2) (.bool false)) (fun _ hk => hk.2) (.bool false)) (fun _ hk => hk.2) (.slice A0_1 l0_1.length c0_1)) (fun _ hk => hk.2) (.int .i64 a0_2)) (fun _ hk => hk.1.1.1.1), bes⟩

/-! ### dyad_Num_Sub: function 36 -/
def dyad_Num_Sub.f (k : Nat) (a0_0 : Bool) (l0_1 : List Int) (a0_2 : Int) (a1_0 : Bool) (l1_1 : List Int) (a1_2 : Int) : Option (Bool × List Int × Int) := (dyad_Num_Neg.f a1_0 l1_1 a1_2).bind fun bt507 => ((dyad_Num_Add.f k a0_0 l0_1 a0_2 bt507.1 bt507.2.1 bt507.2.2).bind fun bt512 => (some (bt512.1, bt512.2.1, bt512.2.2)))
theorem dyad_Num_Sub.mono : ∀ a0 a1 a2 a3 a4 a5 k, LeO (dyad_Num_Sub.f k a0 a1 a2 a3 a4 a5) (dyad_Num_Sub.f (k + 1) a0 a1 a2 a3 a4 a5) := by
 intro a0 a1 a2 a3 a4 a5 k
 unfold dyad_Num_Sub.f
 repeat' with_reducible first | apply dyad_Num_Add.mono | exact LeO.refl _ | exact LeO.none _ | refine LeO.ite ?_ ?_ | refine LeO.bind ?_ (fun _ => ?_)
set_option maxHeartbeats 8000000 in
set_option maxRecDepth 100000 in
theorem dyad_Num_Sub.calls (k : Nat) (a0_0 : Bool) (P0_1_ : Nat → Prop) (A0_1 : Option Addr) (c0_1 : Nat) (l0_1 : List Int) (a0_2 : Int) (a1_0 : Bool) (P1_1_ : Nat → Prop) (A1_1 : Option Addr) (c1_1 : Nat) (l1_1 : List Int) (a1_2 : Int) (r1 : Bool) (r2 : List Int) (r3 : Int) (w : World) (hs0_1 : Kd.V (Kd.int .u32) 56 w w.heap.size (fun k_ => P0_1_ k_) (.slice A0_1 l0_1.length c0_1) l0_1) (hs1_1 : Kd.V (Kd.int .u32) 56 w w.heap.size (fun k_ => P1_1_ k_) (.slice A1_1 l1_1.length c1_1) l1_1) (hT : TabW w) (h : dyad_Num_Sub.f k a0_0 l0_1 a0_2 a1_0 l1_1 a1_2 = some (r1, r2, r3)) :
  Calls Tryd.prog 36 #[.agg #[.bool a0_0, .slice A0_1 l0_1.length c0_1, .int .i64 a0_2], .agg #[.bool a1_0, .slice A1_1 l1_1.length c1_1, .int .i64 a1_2]] w fun e w' => ∃ v1_ : Value, e = .returned (.agg #[.bool r1, v1_, .int .i64 r3]) ∧ Kd.V (Kd.int .u32) 56 w' w.heap.size (fun k_ => ((P0_1_ k_ ∨ P1_1_ k_) ∨ w.heap.size ≤ k_)) v1_ r2 ∧ Below w.heap.size w w' := by
 have hu29 := Tryd.underlying29
 have HO0_1 := Aside0.mk (show Kd.V (Kd.int .u32) 56 w w.heap.size (fun k_ => ((P0_1_ k_ ∨ P1_1_ k_) ∨ w.heap.size ≤ k_)) (.slice A0_1 l0_1.length c0_1) l0_1 from Kd.V_mono hs0_1 (fun k_ hk => .inl (.inl hk)))
 have HO1_1 := Aside0.mk (show Kd.V (Kd.int .u32) 56 w w.heap.size (fun k_ => ((P0_1_ k_ ∨ P1_1_ k_) ∨ w.heap.size ≤ k_)) (.slice A1_1 l1_1.length c1_1) l1_1 from Kd.V_mono hs1_1 (fun k_ hk => .inl (.inr hk)))
 have HB := Aside0.mk (Below.refl w.heap.size w)
 have H : ((dyad_Num_Neg.f a1_0 l1_1 a1_2).bind fun bt507 => ((dyad_Num_Add.f k a0_0 l0_1 a0_2 bt507.1 bt507.2.1 bt507.2.2).bind fun bt512 => (some (bt512.1, bt512.2.1, bt512.2.2)))) = some (r1, r2, r3) := h
 clear h
 obtain ⟨⟨t507, t508, t511⟩, A30, H⟩ := Option.bind_eq_some_iff.mp H
 (try dsimp -simprocs only at H)
 have A3 := Aside0.mk A30
 clear A30
 obtain ⟨⟨t512, t513, t516⟩, A40, H⟩ := Option.bind_eq_some_iff.mp H
 (try dsimp -simprocs only at H)
 have A4 := Aside0.mk A40
 clear A40
 simp only [Option.some.injEq, Prod.mk.injEq] at H
 obtain ⟨rfl, rfl, rfl⟩ := H
 go_enter Tryd.func36, Tryd.ntmps36
 try go_wp2_with (first | ((with_reducible refine gate_dst (N := 2) rfl ?_); refine gbox (N := 2) (cs := #[.bool a0_0, .slice A0_1 l0_1.length c0_1, .int .i64 a0_2]) (t := 29) ?_; intro gb504 hg w5 hbox hb; refine ax6 (Kd.V_below (Kd.V_elderB (kv HO0_1) gb504 (Nat.le_of_eq hg.symm)) hb) (Kd.V_below (Kd.V_elderB (kv HO1_1) gb504 (Nat.le_of_eq hg.symm)) hb) (below_step bel hb) hbox ((ge hg : w.heap.size ≤ gb504)) ((ge hg : w.heap.size ≤ gb504)) ?_; clear HO0_1; clear HO1_1; clear HB; intro HO0_1 HO1_1 HB BK504 GW504 GE504; clear hb hbox hg) | ((with_reducible refine gate_dst (N := 3) rfl ?_); refine gbox (N := 3) (cs := #[.bool a1_0, .slice A1_1 l1_1.length c1_1, .int .i64 a1_2]) (t := 29) ?_; intro gb505 hg w6 hbox hb; refine ax9 (Kd.V_below (Kd.V_elderB (kv HO0_1) gb505 (Nat.le_of_eq hg.symm)) hb) (Kd.V_below (Kd.V_elderB (kv HO1_1) gb505 (Nat.le_of_eq hg.symm)) hb) (bb BK504 hb) (below_step bes hb) hbox ((ge hg : w.heap.size ≤ gb505)) ((ge hg : w.heap.size ≤ gb505)) (nl hg BK504) (ng hg BK504) ?_; clear HO0_1; clear HO1_1; clear BK504; clear HB; intro HO0_1 HO1_1 BK504 HB BK505 GW505 GE505 NB504_505 NB505_504; clear hb hbox hg) | ((with_reducible refine gate_dst (N := 4) rfl ?_); refine gbox (N := 4) (cs := #[.bool false, .slice none 0 0, .int .i64 0]) (t := 29) ?_; intro gb506 hg w7 hbox hb; refine ax12 (Kd.V_below (Kd.V_elderB (kv HO0_1) gb506 (Nat.le_of_eq hg.symm)) hb) (Kd.V_below (Kd.V_elderB (kv HO1_1) gb506 (Nat.le_of_eq hg.symm)) hb) (bb BK504 hb) (bb BK505 hb) (below_step bes hb) hbox ((ge hg : w.heap.size ≤ gb506)) ((ge hg : w.heap.size ≤ gb506)) (nl hg BK504) (ng hg BK504) (nl hg BK505) (ng hg BK505) ?_; clear HO0_1; clear HO1_1; clear BK504; clear BK505; clear HB; intro HO0_1 HO1_1 BK504 BK505 HB BK506 GW506 GE506 NB504_506 NB506_504 NB505_506 NB506_505; clear hb hbox hg))
 refine ax6 (Kd.V_drew HO0_1.out) (Kd.V_drew HO1_1.out) (blk_drew BK504.out) (blk_drew BK505.out) (blk_drew BK506.out) (below_drew1 HB.out) ?_
 clear HO0_1 HO1_1 BK504 BK505 BK506 HB
 intro HO0_1 HO1_1 BK504 BK505 BK506 HB
 refine start_ (n := 5) (S := fun w' => w'.cell? ⟨gb504, 0, none⟩ = some (.bool a0_0) ∧ w'.cell? ⟨gb504, 1, none⟩ = some (.slice A0_1 l0_1.length c0_1) ∧ w'.cell? ⟨gb504, 2, none⟩ = some (.int .i64 a0_2) ∧ w'.cell? ⟨gb505, 0, none⟩ = some (.bool a1_0) ∧ w'.cell? ⟨gb505, 1, none⟩ = some (.slice A1_1 l1_1.length c1_1) ∧ w'.cell? ⟨gb505, 2, none⟩ = some (.int .i64 a1_2)) (ds := []) #[false, false, false, false, false] (by kernel_rfl) rfl rfl ⟨(blk_cell BK504.out 0).trans rfl, (blk_cell BK504.out 1).trans rfl, (blk_cell BK504.out 2).trans rfl, (blk_cell BK505.out 0).trans rfl, (blk_cell BK505.out 1).trans rfl, (blk_cell BK505.out 2).trans rfl⟩ (fun hHeld => ?_)
 generalize w7.drew = w8 at HO0_1 HO1_1 BK504 BK505 BK506 HB hHeld ⊢
 refine take_ (i := 0) (N := some 5) (v := ?_) (a' := ?_) #[true, false, false, false, false] rfl rfl (by kernel_rfl) (fun _ _ _ h => h) (Or.inl ⟨by rfl, ?_⟩) hHeld ?_ ?_
 rotate_left
 ·
  rintro w' ⟨s0, s1, s2, s3, s4, s5⟩
  go_simp
  with_reducible rfl
 rotate_left
 ·
  simp only [Act.put, sa0, sa1, sa2, i64_w, i32_w]
  rfl
 refine take_ (i := 1) (N := some 6) (v := ?_) (a' := ?_) #[true, true, false, false, false] rfl rfl (by kernel_rfl) (fun _ _ _ h => h) (Or.inl ⟨by rfl, ?_⟩) hHeld ?_ ?_
 rotate_left
 ·
  rintro w' ⟨s0, s1, s2, s3, s4, s5⟩
  go_simp
  with_reducible rfl
 rotate_left
 ·
  simp only [Act.put, sa0, sa1, sa2, i64_w, i32_w]
  rfl
 refine one_ (i := 2) (N := some 7) #[true, true, true, false, false] rfl rfl (by kernel_rfl) (by decide) (fun K hK => ?_)
 refine goes_ Tryd.func46 (by kernel_rfl) rfl #[.agg #[.bool a1_0, .slice A1_1 l1_1.length c1_1, .int .i64 a1_2]] (by rfl) rfl rfl ga ?_
 with_reducible refine (dyad_Num_Neg.calls a1_0 (fun k_ => (((((P0_1_ k_ ∨ P1_1_ k_) ∨ w.heap.size ≤ k_) ∧ k_ ≠ gb504) ∧ k_ ≠ gb505) ∧ k_ ≠ gb506)) _ _ l1_1 a1_2 t507 t508 t511 _ ?side1 A3.out).mono ?_
 (case side1 => exact HO1_1.out)
 rintro e w9 ⟨v509, rfl, ho0, hb⟩
 refine ⟨_, rfl, ?_⟩
 refine ax7 (Kd.V_below (kv HO0_1) hb) (Kd.V_below (kv HO1_1) hb) (Kd.V_lower (Kd.V_mono (ok' := fun k_ => ((P0_1_ k_ ∨ P1_1_ k_) ∨ w.heap.size ≤ k_) ∧ k_ ≠ gb504 ∧ k_ ≠ gb505 ∧ k_ ≠ gb506) ho0 (fun k_ hk_ => ⟨Or.elim hk_ (fun hs_ => hs_.1.1.1) (fun hn_ => (.inr (Nat.le_trans (below_size bes) hn_))), Or.elim hk_ (fun hs_ => hs_.1.1.2) (fun hn_ => (fb BK504 k_ hn_)), Or.elim hk_ (fun hs_ => hs_.1.2) (fun hn_ => (fb BK505 k_ hn_)), Or.elim hk_ (fun hs_ => hs_.2) (fun hn_ => (fb BK506 k_ hn_))⟩)) (below_size bes)) (bb BK504 hb) (bb BK505 hb) (bb BK506 hb) (below_step bes hb) ?_
 clear HO0_1 HO1_1 BK504 BK505 BK506 HB
 intro HO0_1 HO1_1 HO510 BK504 BK505 BK506 HB
 (try clear hb)
 (try clear hb2)
 (try clear hk)
 (try clear hi)
 (try clear ho0)
 obtain ⟨Ao10, co10, eo10⟩ := Kd.V_slice HO510.out
 (first | subst eo10 | (injection eo10 with f1_ f2_ f3_; have f4_ := f1_.symm; have f5_ := f3_.symm; clear f1_ f2_ f3_; subst f4_; subst f5_))
 refine hK.out _ _ ⟨(blk_cell BK504.out 0).trans rfl, (blk_cell BK504.out 1).trans rfl, (blk_cell BK504.out 2).trans rfl, (blk_cell BK505.out 0).trans rfl, (blk_cell BK505.out 1).trans rfl, (blk_cell BK505.out 2).trans rfl⟩ (fun hHeld => ?_)
 clear hK K
 refine norm_ (a' := ?_) ?_ ?_
 rotate_left
 ·
  show Act.put _ (some 7) _ = _
  simp only [Act.put, sa0, sa1, sa2, i64_w, i32_w]
  rfl
 refine one_ (i := 3) (N := some 8) #[true, true, true, true, false] rfl rfl (by kernel_rfl) (by decide) (fun K hK => ?_)
 refine goes_ Tryd.func9 (by kernel_rfl) rfl #[.agg #[.bool a0_0, .slice A0_1 l0_1.length c0_1, .int .i64 a0_2], .agg #[.bool t507, .slice Ao10 t508.length co10, .int .i64 t511]] (by rfl) rfl rfl ga ?_
 with_reducible refine (dyad_Num_Add.calls k a0_0 (fun k_ => (((((P0_1_ k_ ∨ P1_1_ k_) ∨ w.heap.size ≤ k_) ∧ k_ ≠ gb504) ∧ k_ ≠ gb505) ∧ k_ ≠ gb506)) _ _ l0_1 a0_2 t507 (fun k_ => (((P0_1_ k_ ∨ P1_1_ k_) ∨ w.heap.size ≤ k_) ∧ (k_ ≠ gb504 ∧ (k_ ≠ gb505 ∧ k_ ≠ gb506)))) _ _ t508 t511 t512 t513 t516 _ ?side1 ?side2 ?side3 A4.out).mono ?_
 (case side1 => exact HO0_1.out)
 (case side2 => exact HO510.out)
 (case side3 => first | exact hT | exact TabW.drewN hT _ | exact TabW.drew hT | exact TabW.below hT bes)
 rintro e w11 ⟨v514, rfl, ho0, hb⟩
 refine ⟨_, rfl, ?_⟩
 refine ax8 (Kd.V_below (kv HO0_1) hb) (Kd.V_below (kv HO1_1) hb) (Kd.V_below (kv HO510) hb) (Kd.V_lower (Kd.V_mono (ok' := fun k_ => ((P0_1_ k_ ∨ P1_1_ k_) ∨ w.heap.size ≤ k_) ∧ k_ ≠ gb504 ∧ k_ ≠ gb505 ∧ k_ ≠ gb506) ho0 (fun k_ hk_ => ⟨Or.elim hk_ (fun hs_ => Or.elim hs_ (fun hs_ => hs_.1.1.1) (fun hs_ => hs_.1)) (fun hn_ => (.inr (Nat.le_trans (below_size bes) hn_))), Or.elim hk_ (fun hs_ => Or.elim hs_ (fun hs_ => hs_.1.1.2) (fun hs_ => hs_.2.1)) (fun hn_ => (fb BK504 k_ hn_)), Or.elim hk_ (fun hs_ => Or.elim hs_ (fun hs_ => hs_.1.2) (fun hs_ => hs_.2.2.1)) (fun hn_ => (fb BK505 k_ hn_)), Or.elim hk_ (fun hs_ => Or.elim hs_ (fun hs_ => hs_.2) (fun hs_ => hs_.2.2.2)) (fun hn_ => (fb BK506 k_ hn_))⟩)) (below_size bes)) (bb BK504 hb) (bb BK505 hb) (bb BK506 hb) (below_step bes hb) ?_
 clear HO0_1 HO1_1 HO510 BK504 BK505 BK506 HB
 intro HO0_1 HO1_1 HO510 HO515 BK504 BK505 BK506 HB
 (try clear hb)
 (try clear hb2)
 (try clear hk)
 (try clear hi)
 (try clear ho0)
 obtain ⟨Ao13, co13, eo13⟩ := Kd.V_slice HO515.out
 (first | subst eo13 | (injection eo13 with f1_ f2_ f3_; have f4_ := f1_.symm; have f5_ := f3_.symm; clear f1_ f2_ f3_; subst f4_; subst f5_))
 refine hK.out _ _ ⟨(blk_cell BK504.out 0).trans rfl, (blk_cell BK504.out 1).trans rfl, (blk_cell BK504.out 2).trans rfl, (blk_cell BK505.out 0).trans rfl, (blk_cell BK505.out 1).trans rfl, (blk_cell BK505.out 2).trans rfl⟩ (fun hHeld => ?_)
 clear hK K
 refine norm_ (a' := ?_) ?_ ?_
 rotate_left
 ·
  show Act.put _ (some 8) _ = _
  simp only [Act.put, sa0, sa1, sa2, i64_w, i32_w]
  rfl
 refine one_ (i := 4) (N := none) #[true, true, true, true, true] rfl rfl (by kernel_rfl) (by decide) (fun K hK => ?_)
 have hs12 : w11.cell? ⟨gb506, 0, none⟩ = some (.bool false) := (blk_cell BK506.out 0).trans rfl
 have hfs12 := blk_frozen BK506.out 0
 have hns12_0 := NB504_506.out
 have hns12_1 := NB505_506.out
 have hms12_0 := NB506_504.out
 have hms12_1 := NB506_505.out
 have hs14 : w11.cell? ⟨gb506, 1, none⟩ = some (.slice none 0 0) := (blk_cell BK506.out 1).trans rfl
 have hfs14 := blk_frozen BK506.out 1
 have hns14_0 := NB504_506.out
 have hns14_1 := NB505_506.out
 have hms14_0 := NB506_504.out
 have hms14_1 := NB506_505.out
 have hs15 : w11.cell? ⟨gb506, 2, none⟩ = some (.int .i64 0) := (blk_cell BK506.out 2).trans rfl
 have hfs15 := blk_frozen BK506.out 2
 have hns15_0 := NB504_506.out
 have hns15_1 := NB505_506.out
 have hms15_0 := NB506_504.out
 have hms15_1 := NB506_505.out
 refine skip_ (w1 := ?_) (by rfl) rfl ?_ ?_
 rotate_left
 ·
  go_simp
  rfl
 refine hK.out _ _ ⟨((cell_far (p := ⟨gb506, _, none⟩) NB504_506.out _).trans (((cell_far (p := ⟨gb506, _, none⟩) NB504_506.out _).trans (((cell_far (p := ⟨gb506, _, none⟩) NB504_506.out _).trans (hHeld.1)))))), ((cell_far (p := ⟨gb506, _, none⟩) NB504_506.out _).trans (((cell_far (p := ⟨gb506, _, none⟩) NB504_506.out _).trans (((cell_far (p := ⟨gb506, _, none⟩) NB504_506.out _).trans (hHeld.2.1)))))), ((cell_far (p := ⟨gb506, _, none⟩) NB504_506.out _).trans (((cell_far (p := ⟨gb506, _, none⟩) NB504_506.out _).trans (((cell_far (p := ⟨gb506, _, none⟩) NB504_506.out _).trans (hHeld.2.2.1)))))), ((cell_far (p := ⟨gb506, _, none⟩) NB505_506.out _).trans (((cell_far (p := ⟨gb506, _, none⟩) NB505_506.out _).trans (((cell_far (p := ⟨gb506, _, none⟩) NB505_506.out _).trans (hHeld.2.2.2.1)))))), ((cell_far (p := ⟨gb506, _, none⟩) NB505_506.out _).trans (((cell_far (p := ⟨gb506, _, none⟩) NB505_506.out _).trans (((cell_far (p := ⟨gb506, _, none⟩) NB505_506.out _).trans (hHeld.2.2.2.2.1)))))), ((cell_far (p := ⟨gb506, _, none⟩) NB505_506.out _).trans (((cell_far (p := ⟨gb506, _, none⟩) NB505_506.out _).trans (((cell_far (p := ⟨gb506, _, none⟩) NB505_506.out _).trans (hHeld.2.2.2.2.2))))))⟩ (fun hHeld => ?_)
 clear hK K
 refine done_ (by kernel_rfl) ?_
 try go_wp2
 refine bodyPost_ret (results_cell_row rfl _ _ gb506 29 #[.bool t512, .slice Ao13 t513.length co13, .int .i64 t516] (0, 0) _ rfl (by (with_reducible repeat (first | refine blk_drewN ?_ _ | refine blk_drew ?_ | refine blk_alloc ?_ _)); refine blk_put (cs := #[.bool t512, .slice Ao13 t513.length co13, .int .i64 0]) ?_ 2 _ rfl; (with_reducible repeat (first | refine blk_drewN ?_ _ | refine blk_drew ?_ | refine blk_alloc ?_ _)); refine blk_put (cs := #[.bool t512, .slice none 0 0, .int .i64 0]) ?_ 1 _ rfl; (with_reducible repeat (first | refine blk_drewN ?_ _ | refine blk_drew ?_ | refine blk_alloc ?_ _)); refine blk_put (cs := #[.bool false, .slice none 0 0, .int .i64 0]) ?_ 0 _ rfl; (with_reducible repeat (first | refine blk_drewN ?_ _ | refine blk_drew ?_ | refine blk_alloc ?_ _)); exact BK506.out) Tryd.underlying29 rfl (by kernel_rfl)) rfl ?_
 exact ⟨_, er, by (with_reducible repeat (first | apply Kd.V_alloc | apply Kd.V_drewN | apply Kd.V_drew)); exact Kd.V_mono (Kd.V_far (p := ⟨gb506, 2, none⟩) (Kd.V_far (p := ⟨gb506, 1, none⟩) (Kd.V_far (p := ⟨gb506, 0, none⟩) (Kd.V_mono HO515.out (fun k_ hk => (⟨hk, hk.2.2.2⟩ : _ ∧ k_ ≠ gb506))) (fun _ hk => hk.2) (.bool t512)) (fun _ hk => hk.2) (.slice Ao13 t513.length co13)) (fun _ hk => hk.2) (.int .i64 t516)) (fun _ hk => hk.1.1), bes⟩

/-! ### dyad_Num_Cmp: function 16 -/
def dyad_Num_Cmp.f (k : Nat) (a0_0 : Bool) (l0_1 : List Int) (a0_2 : Int) (a1_0 : Bool) (l1_1 : List Int) (a1_2 : Int) : Option (Int) := (dyad_Num_Sub.f k a0_0 l0_1 a0_2 a1_0 l1_1 a1_2).bind fun bt519 => ((dyad_Num_Sign.f bt519.1 bt519.2.1 bt519.2.2).bind fun t524 => (some t524))
theorem dyad_Num_Cmp.mono : ∀ a0 a1 a2 a3 a4 a5 k, LeO (dyad_Num_Cmp.f k a0 a1 a2 a3 a4 a5) (dyad_Num_Cmp.f (k + 1) a0 a1 a2 a3 a4 a5) := by
 intro a0 a1 a2 a3 a4 a5 k
 unfold dyad_Num_Cmp.f
 repeat' with_reducible first | apply dyad_Num_Sub.mono | exact LeO.refl _ | exact LeO.none _ | refine LeO.ite ?_ ?_ | refine LeO.bind ?_ (fun _ => ?_)
set_option maxHeartbeats 8000000 in
set_option maxRecDepth 100000 in
theorem dyad_Num_Cmp.calls (k : Nat) (a0_0 : Bool) (A0_1 : Option Addr) (c0_1 : Nat) (l0_1 : List Int) (a0_2 : Int) (a1_0 : Bool) (A1_1 : Option Addr) (c1_1 : Nat) (l1_1 : List Int) (a1_2 : Int) (r : Int) (w : World) (hr0_1 : Kd.C (Kd.int .u32) w A0_1 l0_1.length l0_1) (hc0_1 : l0_1.length ≤ c0_1) (hr1_1 : Kd.C (Kd.int .u32) w A1_1 l1_1.length l1_1) (hc1_1 : l1_1.length ≤ c1_1) (hT : TabW w) (h : dyad_Num_Cmp.f k a0_0 l0_1 a0_2 a1_0 l1_1 a1_2 = some r) :
  Calls Tryd.prog 16 #[.agg #[.bool a0_0, .slice A0_1 l0_1.length c0_1, .int .i64 a0_2], .agg #[.bool a1_0, .slice A1_1 l1_1.length c1_1, .int .i64 a1_2]] w fun e w' => e = .returned (.int .i64 r) ∧ Below w.heap.size w w' := by
 have hu29 := Tryd.underlying29
 have HR0_1 := Aside0.mk hr0_1
 have HC0_1 := Aside0.mk hc0_1
 clear hr0_1 hc0_1
 have HR1_1 := Aside0.mk hr1_1
 have HC1_1 := Aside0.mk hc1_1
 clear hr1_1 hc1_1
 have HB := Aside0.mk (Below.refl w.heap.size w)
 have H : ((dyad_Num_Sub.f k a0_0 l0_1 a0_2 a1_0 l1_1 a1_2).bind fun bt519 => ((dyad_Num_Sign.f bt519.1 bt519.2.1 bt519.2.2).bind fun t524 => (some t524))) = some r := h
 clear h
 obtain ⟨⟨t519, t520, t523⟩, A30, H⟩ := Option.bind_eq_some_iff.mp H
 (try dsimp -simprocs only at H)
 have A3 := Aside0.mk A30
 clear A30
 obtain ⟨t524, A40, H⟩ := Option.bind_eq_some_iff.mp H
 (try dsimp -simprocs only at H)
 have A4 := Aside0.mk A40
 clear A40
 obtain rfl := Option.some.inj H
 go_enter Tryd.func16, Tryd.ntmps16
 go_wp2_with (first | ((with_reducible refine gate_dst (N := 2) rfl ?_); refine gbox (N := 2) (cs := #[.bool a0_0, .slice A0_1 l0_1.length c0_1, .int .i64 a0_2]) (t := 29) ?_; intro gb517 hg w5 hbox hb; refine ax4 (below_step bel hb) hbox ((ge hg : w.heap.size ≤ gb517)) ((ge hg : w.heap.size ≤ gb517)) ?_; clear HB; intro HB BK517 GW517 GE517; clear hb hbox hg) | ((with_reducible refine gate_dst (N := 3) rfl ?_); refine gbox (N := 3) (cs := #[.bool a1_0, .slice A1_1 l1_1.length c1_1, .int .i64 a1_2]) (t := 29) ?_; intro gb518 hg w6 hbox hb; refine ax7 (bb BK517 hb) (below_step bes hb) hbox ((ge hg : w.heap.size ≤ gb518)) ((ge hg : w.heap.size ≤ gb518)) (nl hg BK517) (ng hg BK517) ?_; clear BK517; clear HB; intro BK517 HB BK518 GW518 GE518 NB517_518 NB518_517; clear hb hbox hg; have hnb7 := NB517_518.out; have hnc7 := NB518_517.out; have hcz8_0 := bc BK517 0 rfl; have hcz8_1 := bc BK517 1 rfl; have hcz8_2 := bc BK517 2 rfl; have hfz8_0 := blk_frozen BK517.out 0; have hfz8_1 := blk_frozen BK517.out 1; have hfz8_2 := blk_frozen BK517.out 2; have hcz9_0 := bc BK518 0 rfl; have hcz9_1 := bc BK518 1 rfl; have hcz9_2 := bc BK518 2 rfl; have hfz9_0 := blk_frozen BK518.out 0; have hfz9_1 := blk_frozen BK518.out 1; have hfz9_2 := blk_frozen BK518.out 2) | ((with_reducible refine gate_callee (f := 36) rfl ?_); refine goesL_ (some 7) rfl rfl Tryd.func36 (by kernel_rfl) rfl #[.agg #[.bool a0_0, .slice A0_1 l0_1.length c0_1, .int .i64 a0_2], .agg #[.bool a1_0, .slice A1_1 l1_1.length c1_1, .int .i64 a1_2]] rfl ga ?_; (with_reducible refine (dyad_Num_Sub.calls k a0_0 (fun k_ => k_ < w.heap.size) _ _ l0_1 a0_2 a1_0 (fun k_ => k_ < w.heap.size) _ _ l1_1 a1_2 t519 t520 t523 _ ?side1 ?side2 ?side3 A3.out).mono ?_); (case side1 => exact Kd.V_mk HC0_1.out (Kd.F_below (Kd.C_F (Kd.heap_int .u32) HR0_1.out) bes)); (case side2 => exact Kd.V_mk HC1_1.out (Kd.F_below (Kd.C_F (Kd.heap_int .u32) HR1_1.out) bes)); (case side3 => first | exact hT | exact TabW.drewN hT _ | exact TabW.drew hT | exact TabW.below hT bes); rintro e w10 ⟨v521, rfl, ho0, hb⟩; refine ⟨_, rfl, ?_⟩; refine ax4 (Kd.V_lower (Kd.V_mono (ok' := fun k_ => k_ ≠ gb517 ∧ k_ ≠ gb518) ho0 (fun k_ hk_ => ⟨Or.elim hk_ (fun hs_ => Or.elim hs_ (fun hs_ => fun e_ => Nat.not_le.2 hs_ (by rw [e_]; exact GW517.out)) (fun hs_ => fun e_ => Nat.not_le.2 hs_ (by rw [e_]; exact GW517.out))) (fun hn_ => (fb BK517 k_ hn_)), Or.elim hk_ (fun hs_ => Or.elim hs_ (fun hs_ => fun e_ => Nat.not_le.2 hs_ (by rw [e_]; exact GW518.out)) (fun hs_ => fun e_ => Nat.not_le.2 hs_ (by rw [e_]; exact GW518.out))) (fun hn_ => (fb BK518 k_ hn_))⟩)) (below_size bes)) (bb BK517 hb) (bb BK518 hb) (below_step bes hb) ?_; clear BK517; clear BK518; clear HB; intro HO522 BK517 BK518 HB; (try clear hb); (try clear ho0); obtain ⟨Ao11, co11, eo11⟩ := Kd.V_slice HO522.out; subst eo11) | ((with_reducible refine gate_callee (f := 18) rfl ?_); refine goesL_ (some 8) rfl rfl Tryd.func18 (by kernel_rfl) rfl #[.agg #[.bool t519, .slice Ao11 t520.length co11, .int .i64 t523]] rfl ga ?_; (with_reducible refine (dyad_Num_Sign.calls t519 _ _ t520 t523 t524 _ ?side1 ?side2 A4.out).mono ?_); (case side1 => exact kvs HO522); (case side2 => exact (Kd.V_reads' HO522.out).2.1); rintro e w12 ⟨rfl, hb⟩; refine ⟨_, rfl, ?_⟩; refine ax4 (Kd.V_below (kv HO522) hb) (bb BK517 hb) (bb BK518 hb) (below_step bes hb) ?_; clear HO522; clear BK517; clear BK518; clear HB; intro HO522 BK517 BK518 HB; (try clear hb)))
 go_ret
 exact ⟨er, bes⟩

/-! ### dyad_Two: function 19 -/
def dyad_Two.f (a0 : Int) : Option (Bool × List Int × Int) := some (false, (([1] : List Int)), mx (-1048576) (mn a0 1048576))
set_option maxHeartbeats 8000000 in
set_option maxRecDepth 100000 in
theorem dyad_Two.calls (a0 : Int) (r1 : Bool) (r2 : List Int) (r3 : Int) (w : World) (h : dyad_Two.f a0 = some (r1, r2, r3)) :
  Calls Tryd.prog 19 #[.int .i64 a0] w fun e w' => ∃ v1_ : Value, e = .returned (.agg #[.bool r1, v1_, .int .i64 r3]) ∧ Kd.R (Kd.int .u32) 56 w' w.heap.size (fun _ => True) v1_ r2 ∧ Below w.heap.size w w' := by
 have hu29 := Tryd.underlying29
 have HB := Aside0.mk (Below.refl w.heap.size w)
 have H : (some (false, (([1] : List Int)), mx (-1048576) (mn a0 1048576))) = some (r1, r2, r3) := h
 clear h
 obtain ⟨y526, hy526⟩ : ∃ y_ : List Int, y_ = (([1] : List Int)) := ⟨_, rfl⟩
 replace H : (some (false, y526, mx (-1048576) (mn a0 1048576))) = some (r1, r2, r3) := by first | (rw [hy526]; with_reducible exact H) | (have H2_ := (Option.bind_some _ _).symm.trans H; rw [hy526]; with_reducible exact H2_) | (have H2_ := (Option.bind_some _ _).symm.trans H; with_reducible exact H2_) | with_reducible exact H | (rw [hy526]; exact H) | exact H
 have Ny526 := Aside0.mk hy526
 clear hy526
 obtain ⟨ji2, hji2⟩ : ∃ j_ : Int, (mn a0 1048576) = j_ := ⟨_, rfl⟩
 replace H : (some (false, y526, mx (-1048576) (ji2))) = some (r1, r2, r3) := by first | (rw [hji2] at H; exact H) | (simp only [hji2] at H ⊢; exact H)
 (try (have hji2h : ji2 ≤ 1048576 := by (rw [← hji2]; unfold mn; (repeat' split) <;> omega)))
 (try (have hji2g : ji2 ≤ 64 := by omega))
 have hji2_ : (if 1048576 < a0 then 1048576 else a0) = ji2 := hji2
 obtain ⟨ji3, hji3⟩ : ∃ j_ : Int, (mx (-1048576) (ji2)) = j_ := ⟨_, rfl⟩
 replace H : (some (false, y526, ji3)) = some (r1, r2, r3) := by first | (rw [hji3] at H; exact H) | (simp only [hji3] at H ⊢; exact H)
 have hji3_ : (if (-1048576) < (ji2) then (ji2) else (-1048576)) = ji3 := hji3
 simp only [Option.some.injEq, Prod.mk.injEq] at H
 obtain ⟨rfl, rfl, rfl⟩ := H
 go_enter Tryd.func19, Tryd.ntmps19
 go_wp2_with (first | ((with_reducible refine gate_dst (N := 2) rfl ?_); refine gbox (N := 2) (cs := #[.bool false, .slice none 0 0, .int .i64 0]) (t := 29) ?_; intro gb525 hg w4 hbox hb; refine ax4 (below_step bel hb) hbox ((ge hg : w.heap.size ≤ gb525)) ((ge hg : w.heap.size ≤ gb525)) ?_; clear HB; intro HB BK525 GW525 GE525; clear hb hbox hg) | ((with_reducible refine gate_dst (N := 3) rfl ?_); refine Kd.R_lit (Kd.int .u32) _ 56 ?hg (N := 3) ?hd (xs := ([1] : List Int)) (inner := [.int .u32 1]) (ok := fun _ => True) (okp := fun _ => True) ?hr ?hp (fun _ hk => hk) trivial (Below.refl _ _) (Nat.le_refl _) (by simp) ?_; (case hd => rfl); (case hg => rfl); (case hr => first | (go_simp; done) | (go_simp; rfl)); (case hp => exact (Reps.one (show Kd.M (Kd.int .u32) _ _ _ 1 [.int .u32 1] from rfl) (Reps.none _ _))); intro v527 w5 ho6 hb hg_ hnew_; clear hg_ hnew_; (first | rw [← Ny526.out] at ho6 | (simp only [Int.reduceToNat] at ho6; rw [← Ny526.out] at ho6)); refine ax3 (Kd.R_lower ho6 (below_size bes)) (bb BK525 hb) (below_step bes hb) ?_; clear BK525; clear HB; intro HO528 BK525 HB; clear hb ho6; obtain ⟨Ao7, co7, eo7⟩ := Kd.R_slice HO528.out; subst eo7; have hcz8_0 := bc BK525 0 rfl; have hcz8_1 := bc BK525 1 rfl; have hcz8_2 := bc BK525 2 rfl; have hfz8_0 := blk_frozen BK525.out 0; have hfz8_1 := blk_frozen BK525.out 1; have hfz8_2 := blk_frozen BK525.out 2))
 refine bodyPost_ret (results_cell_row rfl _ _ gb525 29 #[.bool false, .slice Ao7 y526.length co7, .int .i64 ji3] (0, 0) _ rfl (by (with_reducible repeat (first | refine blk_drewN ?_ _ | refine blk_drew ?_ | refine blk_alloc ?_ _)); refine blk_put (cs := #[.bool false, .slice Ao7 y526.length co7, .int .i64 0]) ?_ 2 _ rfl; (with_reducible repeat (first | refine blk_drewN ?_ _ | refine blk_drew ?_ | refine blk_alloc ?_ _)); refine blk_put (cs := #[.bool false, .slice none 0 0, .int .i64 0]) ?_ 1 _ rfl; (with_reducible repeat (first | refine blk_drewN ?_ _ | refine blk_drew ?_ | refine blk_alloc ?_ _)); refine blk_put (cs := #[.bool false, .slice none 0 0, .int .i64 0]) ?_ 0 _ rfl; (with_reducible repeat (first | refine blk_drewN ?_ _ | refine blk_drew ?_ | refine blk_alloc ?_ _)); exact BK525.out) Tryd.underlying29 rfl (by kernel_rfl)) rfl ?_
 exact ⟨_, by first | rfl | (simp [errW_none, errW_some] <;> rfl) | (simp only [← hji2, ← hji3]; first | rfl | (simp [errW_none, errW_some] <;> rfl)) | (simp [*, errW_none, errW_some] <;> rfl), by (with_reducible repeat (first | apply Kd.R_alloc | apply Kd.R_drewN | apply Kd.R_drew)); exact Kd.R_mono (Kd.R_far (p := ⟨gb525, 2, none⟩) (Kd.R_far (p := ⟨gb525, 1, none⟩) (Kd.R_far (p := ⟨gb525, 0, none⟩) (Kd.R_types HO528.out BK525.out (by decide)) (fun _ hk => hk.2) (.bool false)) (fun _ hk => hk.2) (.slice Ao7 y526.length co7)) (fun _ hk => hk.2) (.int .i64 ji3)) (fun _ hk => trivial), bes⟩

end Go.Proofs.YtenegelkbfmjkaaDoor.F
