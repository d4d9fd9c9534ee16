-- Written by a program of this seat's session (mkprint), out of the translation.
import Derived.Test.YtenegelkbfmjkaaShort
import Derived.Test.YtenegelkbfmjkaaFx0
import Derived.Test.YtenegelkbfmjkaaFx2
namespace Go.Proofs.Ytenegelkbfmjkaa.F
open Go.RowKit Go.Proofs.YtenegelkbfmjkaaW.PrintWords Go.Proofs.YtenegelkbfmjkaaW.PrintLast Go.Proofs.YtenegelkbfmjkaaW.PrintMore
attribute [local go_sem] max2_int min2_int max_two min_two max_three min_three max_four min_four   -- for this text's walks alone
set_option linter.unusedVariables false
set_option linter.unusedSimpArgs false

/-! ### gimballaw09_Made: function 8 -/
mutual
def gimballaw09_Made.l0 : Nat → Int → Int → List Int → Int → Int → Int → Int → Int → List Int → Option (Int × Int × Int × List Int)
 | 0, _, _, _, _, _, _, _, _, _ => none
 | k + 1, x0, x1, x3, x32, x33, x240000, x240001, x240002, x240003 => if x33 < x32 then (if 0 ≤ x33 then (if x33 < (x240003.length : Int) then (gimballaw09_Made.l0 k x0 x1 x3 x32 (wrap64 (x33 + 1)) x240000 x240001 x240002 (x240003.set (x33 : Int).toNat 9221120237041090560)) else (none)) else (none)) else (gimballaw09_Made.l1 k x0 x1 x3 0 x240000 x240001 x240002 x240003)
def gimballaw09_Made.l1 : Nat → Int → Int → List Int → Int → Int → Int → Int → List Int → Option (Int × Int × Int × List Int)
 | 0, _, _, _, _, _, _, _, _ => none
 | k + 1, x0, x1, x3, x12, x240000, x240001, x240002, x240003 => if x12 < x0 then (gimballaw09_Made.l2 k x0 x1 x3 x12 0 x240000 x240001 x240002 x240003) else (some (x240000, x240001, x240002, x240003))
def gimballaw09_Made.l2 : Nat → Int → Int → List Int → Int → Int → Int → Int → Int → List Int → Option (Int × Int × Int × List Int)
 | 0, _, _, _, _, _, _, _, _, _ => none
 | k + 1, x0, x1, x3, x12, x13, x240000, x240001, x240002, x240003 => if x13 < x1 then (if (x3.length : Int) > 0 then (if (x3.length : Int) = 0 then (none) else (if 0 ≤ (Int.tmod (wrap64 ((wrap64 (x12 * x1)) + x13)) (x3.length : Int)) then (if (Int.tmod (wrap64 ((wrap64 (x12 * x1)) + x13)) (x3.length : Int)) < (x3.length : Int) then ((mat_Matrix_Set.f x240000 x240001 x240002 x240003 x12 x13 (rd x3 (Int.tmod (wrap64 ((wrap64 (x12 * x1)) + x13)) (x3.length : Int)))).bind fun t242 => (gimballaw09_Made.l2 k x0 x1 x3 x12 (wrap64 (x13 + 1)) x240000 x240001 x240002 t242)) else (none)) else (none))) else ((mat_Matrix_Set.f x240000 x240001 x240002 x240003 x12 x13 0).bind fun t243 => (gimballaw09_Made.l2 k x0 x1 x3 x12 (wrap64 (x13 + 1)) x240000 x240001 x240002 t243))) else (gimballaw09_Made.l1 k x0 x1 x3 (wrap64 (x12 + 1)) x240000 x240001 x240002 x240003)
end
def gimballaw09_Made.f (k : Nat) (a0 : Int) (a1 : Int) (a2 : Int) (l3 : List Int) : Option (Int × Int × Int × List Int) := if 0 ≤ (wrap64 ((Go.bits .and .i64 a0 7) * (wrap64 ((Go.bits .and .i64 a1 7) + (Go.bits .and .i64 a2 3))))) then (if (wrap64 ((Go.bits .and .i64 a0 7) * (wrap64 ((Go.bits .and .i64 a1 7) + (Go.bits .and .i64 a2 3)))) : Int).toNat ≤ 35184372088832 then ((some (List.replicate (wrap64 ((Go.bits .and .i64 a0 7) * (wrap64 ((Go.bits .and .i64 a1 7) + (Go.bits .and .i64 a2 3)))) : Int).toNat 0 : List Int)).bind fun y236 => (gimballaw09_Made.l0 k (Go.bits .and .i64 a0 7) (Go.bits .and .i64 a1 7) l3 (y236.length : Int) 0 (Go.bits .and .i64 a0 7) (Go.bits .and .i64 a1 7) (wrap64 ((Go.bits .and .i64 a1 7) + (Go.bits .and .i64 a2 3))) y236)) else (none)) else (none)
theorem gimballaw09_Made.mono_l : ∀ k, (∀ y0 y1 y2 y3 y4 y5 y6 y7 y8, LeO (gimballaw09_Made.l0 k y0 y1 y2 y3 y4 y5 y6 y7 y8) (gimballaw09_Made.l0 (k + 1) y0 y1 y2 y3 y4 y5 y6 y7 y8)) ∧ (∀ y0 y1 y2 y3 y4 y5 y6 y7, LeO (gimballaw09_Made.l1 k y0 y1 y2 y3 y4 y5 y6 y7) (gimballaw09_Made.l1 (k + 1) y0 y1 y2 y3 y4 y5 y6 y7)) ∧ (∀ y0 y1 y2 y3 y4 y5 y6 y7 y8, LeO (gimballaw09_Made.l2 k y0 y1 y2 y3 y4 y5 y6 y7 y8) (gimballaw09_Made.l2 (k + 1) y0 y1 y2 y3 y4 y5 y6 y7 y8))
 | 0 => ⟨fun _ _ _ _ _ _ _ _ _ r h => by simp [gimballaw09_Made.l0] at h, fun _ _ _ _ _ _ _ _ r h => by simp [gimballaw09_Made.l1] at h, fun _ _ _ _ _ _ _ _ _ r h => by simp [gimballaw09_Made.l2] at h⟩
 | k + 1 => by
  obtain ⟨ih0, ih1, ih2⟩ := gimballaw09_Made.mono_l k
  refine ⟨?_, ?_, ?_⟩ <;> intros <;> (first | unfold gimballaw09_Made.l0 | unfold gimballaw09_Made.l1 | unfold gimballaw09_Made.l2) <;>
   repeat' with_reducible first | apply ih0 | apply ih1 | apply ih2 | exact LeO.refl _ | exact LeO.none _ | refine LeO.ite ?_ ?_ | refine LeO.bind ?_ (fun _ => ?_)
theorem gimballaw09_Made.mono : ∀ a0 a1 a2 a3 k, LeO (gimballaw09_Made.f k a0 a1 a2 a3) (gimballaw09_Made.f (k + 1) a0 a1 a2 a3) := by
 intro a0 a1 a2 a3 k
 obtain ⟨ih0, ih1, ih2⟩ := gimballaw09_Made.mono_l k
 unfold gimballaw09_Made.f
 repeat' with_reducible first | apply ih0 | apply ih1 | apply ih2 | exact LeO.refl _ | exact LeO.none _ | refine LeO.ite ?_ ?_ | refine LeO.bind ?_ (fun _ => ?_)
def gimballaw09_Made.T17 : Bool × List (List Nat × List Nat) := (true, [([], []), ([], []), ([], []), ([], []), ([], []), ([], []), ([4, 5], [4, 5]), ([], []), ([6, 7], [6, 7]), ([], []), ([9], [9]), ([8, 10], [8, 10]), ([3, 11], [3, 11]), ([12], [12]), ([0, 1, 2, 13], [0, 1, 2, 13])])
def gimballaw09_Made.B17 : List Nat := [0, 0, 0, 0, 0, 0, 48, 0, 240, 0, 512, 2032, 4088, 8184, 16383]
theorem gimballaw09_Made.tab17 : rtab .any (opsOf Try.f8 17) = gimballaw09_Made.T17 := by kernel_rfl
theorem gimballaw09_Made.bits17 : waitsOk gimballaw09_Made.T17.2 gimballaw09_Made.B17 = true := by kernel_rfl
set_option maxHeartbeats 8000000 in
set_option maxRecDepth 100000 in
theorem gimballaw09_Made.calls (k : Nat) (a0 : Int) (a1 : Int) (a2 : Int) (A3 : Option Addr) (c3 : Nat) (l3 : List Int) (r1 : Int) (r2 : Int) (r3 : Int) (r4 : List Int) (w : World) (hr3 : Kd.C (Kd.int .u64) w A3 l3.length l3) (hc3 : l3.length ≤ c3) (h : gimballaw09_Made.f k a0 a1 a2 l3 = some (r1, r2, r3, r4)) :
  Calls Try.prog 8 #[.int .i64 a0, .int .i64 a1, .int .i64 a2, .slice A3 l3.length c3] w fun e w' => ∃ v3_ : Value, e = .returned (.agg #[.int .i64 r1, .int .i64 r2, .int .i64 r3, v3_]) ∧ Kd.R (Kd.int .u64) 30 w' w.heap.size (fun _ => True) v3_ r4 ∧ Below w.heap.size w w' := by
 have hu25 := Try.underlying25
 have HR3 := Aside0.mk hr3
 have HC3 := Aside0.mk hc3
 clear hr3 hc3
 have HB := Aside0.mk (Below.refl w.heap.size w)
 have H : (if 0 ≤ (wrap64 ((Go.bits .and .i64 a0 7) * (wrap64 ((Go.bits .and .i64 a1 7) + (Go.bits .and .i64 a2 3))))) then (if (wrap64 ((Go.bits .and .i64 a0 7) * (wrap64 ((Go.bits .and .i64 a1 7) + (Go.bits .and .i64 a2 3)))) : Int).toNat ≤ 35184372088832 then ((some (List.replicate (wrap64 ((Go.bits .and .i64 a0 7) * (wrap64 ((Go.bits .and .i64 a1 7) + (Go.bits .and .i64 a2 3)))) : Int).toNat 0 : List Int)).bind fun y236 => (gimballaw09_Made.l0 k (Go.bits .and .i64 a0 7) (Go.bits .and .i64 a1 7) l3 (y236.length : Int) 0 (Go.bits .and .i64 a0 7) (Go.bits .and .i64 a1 7) (wrap64 ((Go.bits .and .i64 a1 7) + (Go.bits .and .i64 a2 3))) y236)) else (none)) else (none)) = some (r1, r2, r3, r4) := h
 clear h
 obtain ⟨ji5, hji5⟩ : ∃ j_ : Int, (wrap64 ((Go.bits .and .i64 a0 7) * (wrap64 ((Go.bits .and .i64 a1 7) + (Go.bits .and .i64 a2 3))))) = j_ := ⟨_, rfl⟩
 replace H : (if 0 ≤ (ji5) then (if (ji5 : Int).toNat ≤ 35184372088832 then ((some (List.replicate (ji5 : Int).toNat 0 : List Int)).bind fun y236 => (gimballaw09_Made.l0 k (Go.bits .and .i64 a0 7) (Go.bits .and .i64 a1 7) l3 (y236.length : Int) 0 (Go.bits .and .i64 a0 7) (Go.bits .and .i64 a1 7) (wrap64 ((Go.bits .and .i64 a1 7) + (Go.bits .and .i64 a2 3))) y236)) else (none)) else (none)) = some (r1, r2, r3, r4) := by first | (rw [hji5] at H; exact H) | (simp only [hji5] at H ⊢; exact H)
 have hji5w : (IntKind.i64.wrap ((Go.bits .and .i64 a0 7) * (wrap64 ((Go.bits .and .i64 a1 7) + (Go.bits .and .i64 a2 3))))) = ji5 := (i64_w _).trans hji5
 by_cases c6 : 0 ≤ (ji5)
 rotate_left
 ·
  rw [if_neg c6] at H
  exact absurd H (by simp)

 rw [if_pos c6] at H
 have c6b0 := eq_true c6
 have c6b1 : decide (0 ≤ (ji5)) = true := decide_eq_true c6
 clear c6
 by_cases c7 : (ji5 : Int).toNat ≤ 35184372088832
 rotate_left
 ·
  rw [if_neg c7] at H
  exact absurd H (by simp)
 rw [if_pos c7] at H
 have c7b0 := eq_true c7
 have c7b1 : decide ((ji5 : Int).toNat ≤ 35184372088832) = true := decide_eq_true c7
 clear c7
 obtain ⟨y236, hy236⟩ : ∃ y_ : List Int, y_ = (List.replicate (ji5 : Int).toNat 0) := ⟨_, rfl⟩
 replace H : (gimballaw09_Made.l0 k (Go.bits .and .i64 a0 7) (Go.bits .and .i64 a1 7) l3 (y236.length : Int) 0 (Go.bits .and .i64 a0 7) (Go.bits .and .i64 a1 7) (wrap64 ((Go.bits .and .i64 a1 7) + (Go.bits .and .i64 a2 3))) y236) = some (r1, r2, r3, r4) := by first | (rw [hy236]; with_reducible exact H) | (have H2_ := (Option.bind_some _ _).symm.trans H; rw [hy236]; with_reducible exact H2_) | (have H2_ := (Option.bind_some _ _).symm.trans H; with_reducible exact H2_) | with_reducible exact H | (rw [hy236]; exact H) | exact H
 have Ny236 := Aside0.mk hy236
 clear hy236
 have H' := Aside0.mk H
 clear H
 go_enter Try.func8, Try.ntmps8
 go_wp2_with (first | ((with_reducible refine gate_dst (N := 8) rfl ?_); refine gbox (N := 8) (cs := #[.int .i64 0, .int .i64 0, .int .i64 0, .slice none 0 0]) (t := 25) ?_; intro gb235 hg w8 hbox hb; refine ax4 (below_step bel hb) hbox ((ge hg : w.heap.size ≤ gb235)) ((ge hg : w.heap.size ≤ gb235)) ?_; clear HB; intro HB BK235 GW235 GE235; clear hb hbox hg) | ((with_reducible refine gate_dst (N := 28) rfl ?_); refine Kd.R_make (Kd.int .u64) _ 30 rfl (N := 28) rfl 22 _ _ rfl ji5 rfl rfl Try.underlying22 (.int .u64 0) 8 info30 rfl (by decide) (by omega) 0 (ok := fun _ => True) (okp := fun _ => True) rfl (fun _ hk => hk) trivial (of_decide_eq_true (by first | (with_reducible assumption) | assumption)) (Nat.le_trans (Nat.mul_le_mul_right _ (of_decide_eq_true (by first | (with_reducible assumption) | assumption) : ji5.toNat ≤ 35184372088832)) (by omega)) (Below.refl _ _) (Nat.le_refl _) ?_; intro v237 w9 ho10 hb hg_ hnew_; clear hg_ hnew_; (first | rw [← Ny236.out] at ho10 | (simp only [Int.reduceToNat] at ho10; rw [← Ny236.out] at ho10)); refine ax3 (Kd.R_lower ho10 (below_size bes)) (bb BK235 hb) (below_step bes hb) ?_; clear BK235; clear HB; intro HO238 BK235 HB; clear hb ho10; obtain ⟨Ao11, co11, eo11⟩ := Kd.R_slice HO238.out; subst eo11) | ((with_reducible refine gate_dst (N := 10) rfl ?_); refine gbox (N := 10) (cs := #[.int .i64 0, .int .i64 0, .int .i64 0, .slice none 0 0]) (t := 25) ?_; intro gb239 hg w12 hbox hb; refine ax8 (Kd.R_below (kr HO238) hb) (bb BK235 hb) (below_step bes hb) hbox ((ge hg : w.heap.size ≤ gb239)) ((ge hg : w.heap.size ≤ gb239)) (nl hg BK235) (ng hg BK235) ?_; clear HO238; clear BK235; clear HB; intro HO238 BK235 HB BK239 GW239 GE239 NB235_239 NB239_235; clear hb hbox hg; have hnb13 := NB239_235.out; have hnc13 := NB235_239.out; have hcz14_0 := bc BK239 0 rfl; have hcz14_1 := bc BK239 1 rfl; have hcz14_2 := bc BK239 2 rfl; have hcz14_3 := bc BK239 3 rfl; have hfz14_0 := blk_frozen BK239.out 0; have hfz14_1 := blk_frozen BK239.out 1; have hfz14_2 := blk_frozen BK239.out 2; have hfz14_3 := blk_frozen BK239.out 3))
 go_loopg [33] k (fun kq v33 w' => ∃ (x33_1 : Int) (x240003_1 : List Int) (u240003 : Value), v33 = .int .i64 x33_1 ∧ Aside0 (gimballaw09_Made.l0 kq (Go.bits .and .i64 a0 7) (Go.bits .and .i64 a1 7) l3 (y236.length : Int) x33_1 (Go.bits .and .i64 a0 7) (Go.bits .and .i64 a1 7) (wrap64 ((Go.bits .and .i64 a1 7) + (Go.bits .and .i64 a2 3))) x240003_1 = some (r1, r2, r3, r4)) ∧ Aside0 (kq ≤ k) ∧ Aside0 (Kd.R (Kd.int .u64) 30 w' w.heap.size (fun _ => True) u240003 x240003_1) ∧ Aside0 (w'.heap[gb235]? = some (.cells #[.int .i64 0, .int .i64 0, .int .i64 0, (.slice none 0 0)] 25 (0, 0))) ∧ Aside0 (w'.heap[gb239]? = some (.cells #[.int .i64 (Go.bits .and .i64 a0 7), .int .i64 (Go.bits .and .i64 a1 7), .int .i64 (wrap64 ((Go.bits .and .i64 a1 7) + (Go.bits .and .i64 a2 3))), u240003] 25 (0, 0))) ∧ Aside0 (Below w.heap.size w w'))
 case atStart => exact ⟨(0), (y236), (.slice Ao11 y236.length co11), (by first | rfl | (simp; done) | (simp [*]; done)), H', ⟨Nat.le_refl _⟩, ⟨by (with_reducible repeat (first | apply Kd.R_alloc | apply Kd.R_drewN | apply Kd.R_drew)); exact Kd.R_mono (Kd.R_far (p := ⟨gb239, 3, none⟩) (Kd.R_far (p := ⟨gb239, 2, none⟩) (Kd.R_far (p := ⟨gb239, 1, none⟩) (Kd.R_far (p := ⟨gb239, 0, none⟩) (Kd.R_types HO238.out BK239.out (by decide)) (fun _ hk => hk.2) (.int .i64 (Go.bits .and .i64 a0 7))) (fun _ hk => hk.2) (.int .i64 (Go.bits .and .i64 a1 7))) (fun _ hk => hk.2) (.int .i64 (wrap64 ((Go.bits .and .i64 a1 7) + (Go.bits .and .i64 a2 3))))) (fun _ hk => hk.2) (.slice Ao11 y236.length co11)) (fun _ hk => trivial)⟩, ⟨by (with_reducible repeat (first | refine blk_drewN ?_ _ | refine blk_drew ?_ | refine blk_alloc ?_ _)); refine blk_far ?_ NB235_239.out _; (with_reducible repeat (first | refine blk_drewN ?_ _ | refine blk_drew ?_ | refine blk_alloc ?_ _)); refine blk_far ?_ NB235_239.out _; (with_reducible repeat (first | refine blk_drewN ?_ _ | refine blk_drew ?_ | refine blk_alloc ?_ _)); refine blk_far ?_ NB235_239.out _; (with_reducible repeat (first | refine blk_drewN ?_ _ | refine blk_drew ?_ | refine blk_alloc ?_ _)); refine blk_far ?_ NB235_239.out _; (with_reducible repeat (first | refine blk_drewN ?_ _ | refine blk_drew ?_ | refine blk_alloc ?_ _)); exact BK235.out⟩, ⟨by (with_reducible repeat (first | refine blk_drewN ?_ _ | refine blk_drew ?_ | refine blk_alloc ?_ _)); refine blk_put (cs := #[.int .i64 (Go.bits .and .i64 a0 7), .int .i64 (Go.bits .and .i64 a1 7), .int .i64 (wrap64 ((Go.bits .and .i64 a1 7) + (Go.bits .and .i64 a2 3))), .slice none 0 0]) ?_ 3 _ rfl; (with_reducible repeat (first | refine blk_drewN ?_ _ | refine blk_drew ?_ | refine blk_alloc ?_ _)); refine blk_put (cs := #[.int .i64 (Go.bits .and .i64 a0 7), .int .i64 (Go.bits .and .i64 a1 7), .int .i64 0, .slice none 0 0]) ?_ 2 _ rfl; (with_reducible repeat (first | refine blk_drewN ?_ _ | refine blk_drew ?_ | refine blk_alloc ?_ _)); refine blk_put (cs := #[.int .i64 (Go.bits .and .i64 a0 7), .int .i64 0, .int .i64 0, .slice none 0 0]) ?_ 1 _ rfl; (with_reducible repeat (first | refine blk_drewN ?_ _ | refine blk_drew ?_ | refine blk_alloc ?_ _)); refine blk_put (cs := #[.int .i64 0, .int .i64 0, .int .i64 0, .slice none 0 0]) ?_ 0 _ rfl; (with_reducible repeat (first | refine blk_drewN ?_ _ | refine blk_drew ?_ | refine blk_alloc ?_ _)); exact BK239.out⟩, ⟨bes⟩⟩
 case round =>
  clear H'
  try clear c1
  try clear p2
  try clear c3
  try clear c6
  try clear c6b0
  try clear c6b1
  try clear p6
  try clear c7
  try clear c7b0
  try clear c7b1
  try clear c8
  try clear c13
  try clear hcz14_0
  try clear hcz14_1
  try clear hcz14_2
  try clear hcz14_3
  try clear hfz14_0
  try clear hfz14_1
  try clear hfz14_2
  try clear hfz14_3
  obtain ⟨x33_1, x240003_1, u240003, rfl, HA, HK1, HO_240003, BK235, BK239, HB⟩ := hrel
  cases gk with
  | zero => exact absurd HA.out (by simp [gimballaw09_Made.l0])
  | succ k1 =>
   have H := HA.out
   clear HA
   simp only [gimballaw09_Made.l0] at H
   by_cases c15 : x33_1 < (y236.length : Int)
   ·
    rw [if_pos c15] at H
    have c15b0 : decide (x33_1 < (y236.length : Int)) = true := decide_eq_true c15
    clear c15
    by_cases c16 : 0 ≤ x33_1
    rotate_left
    ·
     rw [if_neg c16] at H
     exact absurd H (by simp)
    rw [if_pos c16] at H
    have c16b0 : decide (0 ≤ x33_1) = true := decide_eq_true c16
    clear c16
    by_cases c17 : x33_1 < (x240003_1.length : Int)
    rotate_left
    ·
     rw [if_neg c17] at H
     exact absurd H (by simp)
    rw [if_pos c17] at H
    have c17b0 : decide (x33_1 < (x240003_1.length : Int)) = true := decide_eq_true c17
    clear c17
    obtain ⟨y240, hy240⟩ : ∃ y_ : List Int, y_ = (x240003_1.set (x33_1 : Int).toNat 9221120237041090560) := ⟨_, rfl⟩
    replace H : (gimballaw09_Made.l0 k1 (Go.bits .and .i64 a0 7) (Go.bits .and .i64 a1 7) l3 (y236.length : Int) (wrap64 (x33_1 + 1)) (Go.bits .and .i64 a0 7) (Go.bits .and .i64 a1 7) (wrap64 ((Go.bits .and .i64 a1 7) + (Go.bits .and .i64 a2 3))) y240) = some (r1, r2, r3, r4) := by first | (rw [hy240]; with_reducible exact H) | (have H2_ := (Option.bind_some _ _).symm.trans H; rw [hy240]; with_reducible exact H2_) | (have H2_ := (Option.bind_some _ _).symm.trans H; with_reducible exact H2_) | with_reducible exact H | (rw [hy240]; exact H) | exact H
    have Ny240 := Aside0.mk hy240
    clear hy240
    have H' := Aside0.mk H
    clear H
    have hnb19 := NB239_235.out
    have hnc19 := NB235_239.out
    have hcz20_0 := bc BK239 0 rfl
    have hcz20_1 := bc BK239 1 rfl
    have hcz20_2 := bc BK239 2 rfl
    have hcz20_3 := bc BK239 3 rfl
    have hfz20_0 := blk_frozen BK239.out 0
    have hfz20_1 := blk_frozen BK239.out 1
    have hfz20_2 := blk_frozen BK239.out 2
    have hfz20_3 := blk_frozen BK239.out 3
    have p18 : 0 ≤ (x33_1 : Int) := of_decide_eq_true (by first | (with_reducible assumption) | assumption)
    have q18 : (x33_1 : Int) < ((x240003_1.length : Int) : Int) := of_decide_eq_true (by first | (with_reducible assumption) | assumption)
    obtain ⟨go18, co18, eo18, gb18, gl18, cl18, HG18⟩ := Kd.R_form HO_240003.out (by omega)
    (first | cases eo18 | (injection eo18 with ea_ en_ ec_; (first | subst ea_ | (injection ea_ with ea_; subst ea_)); subst ec_; clear en_))
    have GB18 := Aside0.mk gb18
    have GG18 := Aside0.mk HG18
    clear gb18 gl18 HG18
    obtain ⟨hx18_0, hf18_0⟩ := Kd.R_celln 0 HO_240003.out (x33_1 : Int) p18 q18
    replace p18 := eq_true p18
    replace q18 := eq_true q18
    have HP21 := Kd.R_putg HO_240003.out (x33_1 : Int) 9221120237041090560
    go_wp2_with (first | ((with_reducible refine gate_store (t := 30) (p := 39) rfl ?_); refine store_event (t := 30) (p := 39) (v := ?vo_w22) (w1 := (wr.setCell ⟨go18, (x33_1 : Int).toNat, none⟩ (.int .u64 9221120237041090560))) ?hg ?ho ?hn ?hr ?_; (case ho => rfl); (case hg => rfl); (case hn => rfl); (case hr => first | (go_simp; done) | (go_simp; rfl)); intro w22 hw; have hg : wr.grownBy w22 (some go18) := (by rw [hw]; exact HP21.2); have hp_ : Kd.R (Kd.int .u64) 30 w22 w.heap.size (fun _ => True) (.slice (some ⟨go18, 0, none⟩) x240003_1.length co18) y240 := (by rw [hw, Ny240.out]; exact HP21.1); clear HP21; refine ax4 hp_ (blk_grown (g := gb235) (o := .cells #[.int .i64 0, .int .i64 0, .int .i64 0, .slice none 0 0] 25 (0, 0)) (kb BK235) hg (Kd.R_ne HO_240003.out BK235.out (by decide))) (blk_grown (g := gb239) (o := .cells #[.int .i64 (Go.bits .and .i64 a0 7), .int .i64 (Go.bits .and .i64 a1 7), .int .i64 (wrap64 ((Go.bits .and .i64 a1 7) + (Go.bits .and .i64 a2 3))), .slice (some ⟨go18, 0, none⟩) x240003_1.length co18] 25 (0, 0)) (kb BK239) hg (Kd.R_ne HO_240003.out BK239.out (by decide))) ((by rw [hw]; exact below_set (HB.out) GB18.out : Below w.heap.size w w22)) ?_; clear HO_240003; clear BK235; clear BK239; clear HB; intro HO_240003 BK235 BK239 HB; clear hg hw hp_))
    go_roundg k1
    case measure => have := HK1.out; omega
    case rel => exact ⟨(wrap64 (x33_1 + 1)), (y240), (.slice (some ⟨go18, 0, none⟩) x240003_1.length co18), (by first | rfl | (simp; done) | (simp [*]; done)), H', ⟨by have := HK1.out; omega⟩, ⟨kr HO_240003⟩, ⟨kb BK235⟩, ⟨kb BK239⟩, ⟨bes⟩⟩
   ·
    rw [if_neg c15] at H
    have c15b0 : decide (x33_1 < (y236.length : Int)) = false := decide_eq_false c15
    clear c15
    have H' := Aside0.mk H
    clear H
    go_wp2
    go_loopg [12] k1 (fun kq v12 w' => ∃ (x12_2 : Int) (x240003_2 : List Int) (u240003 : Value), v12 = .int .i64 x12_2 ∧ Aside0 (gimballaw09_Made.l1 kq (Go.bits .and .i64 a0 7) (Go.bits .and .i64 a1 7) l3 x12_2 (Go.bits .and .i64 a0 7) (Go.bits .and .i64 a1 7) (wrap64 ((Go.bits .and .i64 a1 7) + (Go.bits .and .i64 a2 3))) x240003_2 = some (r1, r2, r3, r4)) ∧ Aside0 (kq ≤ k1) ∧ Aside0 (Kd.R (Kd.int .u64) 30 w' w.heap.size (fun _ => True) u240003 x240003_2) ∧ Aside0 (w'.heap[gb235]? = some (.cells #[.int .i64 0, .int .i64 0, .int .i64 0, (.slice none 0 0)] 25 (0, 0))) ∧ Aside0 (w'.heap[gb239]? = some (.cells #[.int .i64 (Go.bits .and .i64 a0 7), .int .i64 (Go.bits .and .i64 a1 7), .int .i64 (wrap64 ((Go.bits .and .i64 a1 7) + (Go.bits .and .i64 a2 3))), u240003] 25 (0, 0))) ∧ Aside0 (Below w.heap.size w w'))
    case atStart => exact ⟨(0), (x240003_1), (u240003), (by first | rfl | (simp; done) | (simp [*]; done)), H', ⟨Nat.le_refl _⟩, ⟨kr HO_240003⟩, ⟨kb BK235⟩, ⟨kb BK239⟩, ⟨bes⟩⟩
    case round =>
     clear H'
     try clear c1
     try clear p1
     try clear q1
     try clear hx1
     try clear p2
     try clear c3
     try clear c6
     try clear c6b0
     try clear c6b1
     try clear p6
     try clear c7
     try clear c7b0
     try clear c7b1
     try clear c8
     try clear c13
     try clear c15
     try clear c15b0
     try clear c16
     try clear c16b0
     try clear c17
     try clear c17b0
     try clear p18
     try clear q18
     try clear hx18
     try clear hf18
     try clear c19
     try clear hcz14_0
     try clear hcz14_1
     try clear hcz14_2
     try clear hcz14_3
     try clear hcz20_0
     try clear hcz20_1
     try clear hcz20_2
     try clear hcz20_3
     try clear hfz14_0
     try clear hfz14_1
     try clear hfz14_2
     try clear hfz14_3
     try clear hfz20_0
     try clear hfz20_1
     try clear hfz20_2
     try clear hfz20_3
     try clear hx18_0
     try clear p18
     try clear p2
     try clear p6
     try clear q18
     obtain ⟨x12_2, x240003_2, u240003, rfl, HA, HK2, HO_240003, BK235, BK239, HB⟩ := hrel
     cases gk with
     | zero => exact absurd HA.out (by simp [gimballaw09_Made.l1])
     | succ k2 =>
      have H := HA.out
      clear HA
      simp only [gimballaw09_Made.l1] at H
      by_cases c23 : x12_2 < (Go.bits .and .i64 a0 7)
      ·
       rw [if_pos c23] at H
       have c23b0 : decide (x12_2 < (Go.bits .and .i64 a0 7)) = true := decide_eq_true c23
       clear c23
       have H' := Aside0.mk H
       clear H
       go_wp2
       go_loopg [13] k2 (fun kq v13 w' => ∃ (x13_3 : Int) (x240003_3 : List Int) (u240003 : Value), v13 = .int .i64 x13_3 ∧ Aside0 (gimballaw09_Made.l2 kq (Go.bits .and .i64 a0 7) (Go.bits .and .i64 a1 7) l3 x12_2 x13_3 (Go.bits .and .i64 a0 7) (Go.bits .and .i64 a1 7) (wrap64 ((Go.bits .and .i64 a1 7) + (Go.bits .and .i64 a2 3))) x240003_3 = some (r1, r2, r3, r4)) ∧ Aside0 (kq ≤ k2) ∧ Aside0 (Kd.R (Kd.int .u64) 30 w' w.heap.size (fun _ => True) u240003 x240003_3) ∧ Aside0 (w'.heap[gb235]? = some (.cells #[.int .i64 0, .int .i64 0, .int .i64 0, (.slice none 0 0)] 25 (0, 0))) ∧ Aside0 (w'.heap[gb239]? = some (.cells #[.int .i64 (Go.bits .and .i64 a0 7), .int .i64 (Go.bits .and .i64 a1 7), .int .i64 (wrap64 ((Go.bits .and .i64 a1 7) + (Go.bits .and .i64 a2 3))), u240003] 25 (0, 0))) ∧ Aside0 (Below w.heap.size w w'))
       case atStart => exact ⟨(0), (x240003_2), (u240003), (by first | rfl | (simp; done) | (simp [*]; done)), H', ⟨Nat.le_refl _⟩, ⟨kr HO_240003⟩, ⟨kb BK235⟩, ⟨kb BK239⟩, ⟨bes⟩⟩
       case round =>
        clear H'
        try clear c1
        try clear p1
        try clear q1
        try clear hx1
        try clear c2
        try clear p2
        try clear c3
        try clear c6
        try clear c6b0
        try clear c6b1
        try clear p6
        try clear c7
        try clear c7b0
        try clear c7b1
        try clear c8
        try clear c13
        try clear c15
        try clear c15b0
        try clear c16
        try clear c16b0
        try clear c17
        try clear c17b0
        try clear p18
        try clear q18
        try clear hx18
        try clear hf18
        try clear c19
        try clear c23
        try clear c23b0
        try clear hcz14_0
        try clear hcz14_1
        try clear hcz14_2
        try clear hcz14_3
        try clear hcz20_0
        try clear hcz20_1
        try clear hcz20_2
        try clear hcz20_3
        try clear hfz14_0
        try clear hfz14_1
        try clear hfz14_2
        try clear hfz14_3
        try clear hfz20_0
        try clear hfz20_1
        try clear hfz20_2
        try clear hfz20_3
        try clear hx18_0
        try clear p1
        try clear p18
        try clear p2
        try clear p6
        try clear q1
        try clear q18
        obtain ⟨x13_3, x240003_3, u240003, rfl, HA, HK3, HO_240003, BK235, BK239, HB⟩ := hrel
        cases gk with
        | zero => exact absurd HA.out (by simp [gimballaw09_Made.l2])
        | succ k3 =>
         have H := HA.out
         clear HA
         simp only [gimballaw09_Made.l2] at H
         by_cases c24 : x13_3 < (Go.bits .and .i64 a1 7)
         rotate_left
         ·
          rw [if_neg c24] at H
          have c24b0 : decide (x13_3 < (Go.bits .and .i64 a1 7)) = false := decide_eq_false c24
          clear c24
          have H' := Aside0.mk H
          clear H
          go_wp2
          go_roundg k3
          case measure => have := HK1.out; have := HK2.out; have := HK3.out; omega
          case rel => exact ⟨(wrap64 (x12_2 + 1)), (x240003_3), (u240003), (by first | rfl | (simp; done) | (simp [*]; done)), H', ⟨by have := HK1.out; have := HK2.out; have := HK3.out; omega⟩, ⟨kr HO_240003⟩, ⟨kb BK235⟩, ⟨kb BK239⟩, ⟨bes⟩⟩
         rw [if_pos c24] at H
         have c24b0 : decide (x13_3 < (Go.bits .and .i64 a1 7)) = true := decide_eq_true c24
         clear c24
         by_cases c25 : (l3.length : Int) > 0
         ·
          rw [if_pos c25] at H
          have c25b0 : decide (0 < (l3.length : Int)) = true := decide_eq_true c25
          have c25b1 : decide (0 < l3.length) = true := decide_eq_true (by omega)
          clear c25
          by_cases c26 : (l3.length : Int) = 0
          ·
           rw [if_pos c26] at H
           exact absurd H (by simp)
          ·
           rw [if_neg c26] at H
           have c26b0 : ((l3.length : Int) == 0) = false := beq_eq_false_iff_ne.mpr c26
           have c26b1 : ((l3.length : Int) != 0) = true := bne_iff_ne.mpr c26
           have c26b2 : ¬ (l3 = []) := fun h_ => c26 (by rw [h_]; rfl)
           obtain ⟨ji27, hji27⟩ : ∃ j_ : Int, (Int.tmod (wrap64 ((wrap64 (x12_2 * (Go.bits .and .i64 a1 7))) + x13_3)) (l3.length : Int)) = j_ := ⟨_, rfl⟩
           replace H : (if 0 ≤ (ji27) then (if (ji27) < (l3.length : Int) then ((mat_Matrix_Set.f (Go.bits .and .i64 a0 7) (Go.bits .and .i64 a1 7) (wrap64 ((Go.bits .and .i64 a1 7) + (Go.bits .and .i64 a2 3))) x240003_3 x12_2 x13_3 (rd l3 (ji27))).bind fun t242 => (gimballaw09_Made.l2 k3 (Go.bits .and .i64 a0 7) (Go.bits .and .i64 a1 7) l3 x12_2 (wrap64 (x13_3 + 1)) (Go.bits .and .i64 a0 7) (Go.bits .and .i64 a1 7) (wrap64 ((Go.bits .and .i64 a1 7) + (Go.bits .and .i64 a2 3))) t242)) else (none)) else (none)) = some (r1, r2, r3, r4) := by first | (rw [hji27] at H; exact H) | (simp only [hji27] at H ⊢; exact H)
           by_cases c28 : 0 ≤ (ji27)
           rotate_left
           ·
            rw [if_neg c28] at H
            exact absurd H (by simp)
           rw [if_pos c28] at H
           have c28b0 : decide (0 ≤ (ji27)) = true := decide_eq_true c28
           clear c28
           by_cases c29 : (ji27) < (l3.length : Int)
           rotate_left
           ·
            rw [if_neg c29] at H
            exact absurd H (by simp)
           rw [if_pos c29] at H
           have c29b0 : decide ((ji27) < (l3.length : Int)) = true := decide_eq_true c29
           clear c29
           obtain ⟨t242, A300, H⟩ := Option.bind_eq_some_iff.mp H
           (try dsimp -simprocs only at H)
           have A30 := Aside0.mk A300
           clear A300
           have H' := Aside0.mk H
           clear H
           try go_wp2
           refine ax4 (Kd.R_drew HO_240003.out) (blk_drew BK235.out) (blk_drew BK239.out) (below_drew1 HB.out) ?_
           clear HO_240003 BK235 BK239 HB
           intro HO_240003 BK235 BK239 HB
           have p241 : 0 ≤ ((ji27) : Int) := of_decide_eq_true (by first | (with_reducible assumption) | assumption)
           have q241 : (ji27) < (l3.length : Int) := of_decide_eq_true (by first | (with_reducible assumption) | assumption)
           obtain ⟨ad241, e241, hx241_0⟩ := Kd.at_int HR3.out (ji27) p241 q241
           have hw241_0 := hx241_0
           cases e241
           replace hx241_0 := (HB.out.cell (World.block_lt_of_cell? w _ hx241_0)).trans hx241_0
           replace p241 := eq_true p241
           replace q241 := eq_true q241
           obtain ⟨Ao32, co32, eo32⟩ := Kd.R_slice HO_240003.out
           (first | subst eo32 | (injection eo32 with f1_ f2_ f3_; have f4_ := f1_.symm; have f5_ := f3_.symm; clear f1_ f2_ f3_; subst f4_; subst f5_))
           refine start_ (n := 15) (S := fun w' => w'.cell? ⟨gb239, 0, none⟩ = some (.int .i64 (Go.bits .and .i64 a0 7)) ∧ w'.cell? ⟨gb239, 1, none⟩ = some (.int .i64 (Go.bits .and .i64 a1 7)) ∧ w'.cell? ⟨gb239, 2, none⟩ = some (.int .i64 (wrap64 ((Go.bits .and .i64 a1 7) + (Go.bits .and .i64 a2 3)))) ∧ w'.cell? ⟨gb239, 3, none⟩ = some (.slice Ao32 x240003_3.length co32) ∧ w'.cell? (ad241.add ((ji27)).toNat) = some (.int .u64 (rd l3 (ji27)))) (ds := []) #[false, false, false, false, false, false, false, false, false, false, false, false, false, false, false] (by kernel_rfl) rfl rfl ⟨(blk_cell BK239.out 0).trans rfl, (blk_cell BK239.out 1).trans rfl, (blk_cell BK239.out 2).trans rfl, (blk_cell BK239.out 3).trans rfl, ((HB.out.cell (World.block_lt_of_cell? w _ hw241_0)).trans hw241_0)⟩ (fun hHeld => ?_); refine with_tabW gimballaw09_Made.tab17 gimballaw09_Made.bits17 (fun HT_ HW_ => ?_)
           generalize wr.drew = w31 at HO_240003 BK235 BK239 HB hx241_0 hHeld ⊢
           refine pure_ (i := 1) (N := some 55) (v := ?_) (a' := ?_) #[false, true, false, false, false, false, false, false, false, false, false, false, false, false, false] rfl rfl (any_of HT_.out (by kernel_rfl)) (fun _ _ _ h => h) (Or.inl ⟨by rfl, ?_⟩) ?_ ?_
           rotate_left
           ·
            intro w'
            go_simp
            with_reducible rfl
           rotate_left
           ·
            simp only [Act.put, sa0, sa1, sa2, i64_w, i32_w]
            rfl
           refine pure_ (i := 2) (N := some 56) (v := ?_) (a' := ?_) #[false, true, true, false, false, false, false, false, false, false, false, false, false, false, false] rfl rfl (any_of HT_.out (by kernel_rfl)) (fun _ _ _ h => h) (Or.inl ⟨by rfl, ?_⟩) ?_ ?_
           rotate_left
           ·
            intro w'
            go_simp
            with_reducible rfl
           rotate_left
           ·
            simp only [Act.put, sa0, sa1, sa2, i64_w, i32_w]
            rfl
           refine pure_ (i := 3) (N := some 57) (v := ?_) (a' := ?_) #[false, true, true, true, false, false, false, false, false, false, false, false, false, false, false] rfl rfl (any_of HT_.out (by kernel_rfl)) (fun _ _ _ h => h) (Or.inl ⟨by rfl, ?_⟩) ?_ ?_
           rotate_left
           ·
            intro w'
            go_simp
            with_reducible rfl
           rotate_left
           ·
            simp only [Act.put, sa0, sa1, sa2, i64_w, i32_w]
            rfl
           refine pure_ (i := 4) (N := some 58) (v := ?_) (a' := ?_) #[false, true, true, true, true, false, false, false, false, false, false, false, false, false, false] rfl rfl (any_of HT_.out (by kernel_rfl)) (fun _ _ _ h => h) (Or.inl ⟨by rfl, ?_⟩) ?_ ?_
           rotate_left
           ·
            intro w'
            go_simp
            with_reducible rfl
           rotate_left
           ·
            simp only [Act.put, sa0, sa1, sa2, i64_w, i32_w]
            rfl
           refine pure_ (i := 5) (N := some 59) (v := ?_) (a' := ?_) #[false, true, true, true, true, true, false, false, false, false, false, false, false, false, false] rfl rfl (any_of HT_.out (by kernel_rfl)) (fun _ _ _ h => h) (Or.inl ⟨by rfl, ?_⟩) ?_ ?_
           rotate_left
           ·
            intro w'
            go_simp
            with_reducible rfl
           rotate_left
           ·
            simp only [Act.put, sa0, sa1, sa2, i64_w, i32_w]
            rfl
           refine pure_ (i := 6) (N := some 60) (v := ?_) (a' := ?_) #[false, true, true, true, true, true, true, false, false, false, false, false, false, false, false] rfl rfl (any_of HT_.out (by kernel_rfl)) (fun _ _ _ h => h) (Or.inl ⟨by rfl, ?_⟩) ?_ ?_
           rotate_left
           ·
            intro w'
            go_simp
            with_reducible rfl
           rotate_left
           ·
            simp only [Act.put, sa0, sa1, sa2, i64_w, i32_w]
            rfl
           refine pure_ (i := 7) (N := some 61) (v := ?_) (a' := ?_) #[false, true, true, true, true, true, true, true, false, false, false, false, false, false, false] rfl rfl (any_of HT_.out (by kernel_rfl)) (fun _ _ _ h => h) (Or.inl ⟨by rfl, ?_⟩) ?_ ?_
           rotate_left
           ·
            intro w'
            go_simp
            with_reducible rfl
           rotate_left
           ·
            simp only [Act.put, sa0, sa1, sa2, i64_w, i32_w]
            rfl
           refine pure_ (i := 8) (N := some 62) (v := ?_) (a' := ?_) #[false, true, true, true, true, true, true, true, true, false, false, false, false, false, false] rfl rfl (any_of HT_.out (by kernel_rfl)) (fun _ _ _ h => h) (Or.inl ⟨by rfl, ?_⟩) ?_ ?_
           rotate_left
           ·
            intro w'
            go_simp
            with_reducible rfl
           rotate_left
           ·
            simp only [Act.put, sa0, sa1, sa2, i64_w, i32_w]
            rfl
           refine pure_ (i := 9) (N := some 63) (v := ?_) (a' := ?_) #[false, true, true, true, true, true, true, true, true, true, false, false, false, false, false] rfl rfl (any_of HT_.out (by kernel_rfl)) (fun _ _ _ h => h) (Or.inl ⟨by rfl, ?_⟩) ?_ ?_
           rotate_left
           ·
            intro w'
            go_simp
            with_reducible rfl
           rotate_left
           ·
            simp only [Act.put, sa0, sa1, sa2, i64_w, i32_w]
            rfl
           refine pure_ (i := 10) (N := some 64) (v := ?_) (a' := ?_) #[false, true, true, true, true, true, true, true, true, true, true, false, false, false, false] rfl rfl (any_of HT_.out (by kernel_rfl)) (fun _ _ _ h => h) (Or.inl ⟨by rfl, ?_⟩) ?_ ?_
           rotate_left
           ·
            intro w'
            go_simp
            with_reducible rfl
           rotate_left
           ·
            simp only [Act.put, sa0, sa1, sa2, i64_w, i32_w]
            rfl
           refine pure_ (i := 11) (N := some 65) (v := ?_) (a' := ?_) #[false, true, true, true, true, true, true, true, true, true, true, true, false, false, false] rfl rfl (any_of HT_.out (by kernel_rfl)) (fun _ _ _ h => h) (Or.inl ⟨by rfl, ?_⟩) ?_ ?_
           rotate_left
           ·
            intro w'
            go_simp
            with_reducible rfl
           rotate_left
           ·
            simp only [Act.put, sa0, sa1, sa2, i64_w, i32_w]
            rfl
           refine pure_ (i := 12) (N := some 66) (v := ?_) (a' := ?_) #[false, true, true, true, true, true, true, true, true, true, true, true, true, false, false] rfl rfl (any_of HT_.out (by kernel_rfl)) (fun _ _ _ h => h) (Or.inl ⟨by rfl, ?_⟩) ?_ ?_
           rotate_left
           ·
            intro w'
            go_simp
            with_reducible rfl
           rotate_left
           ·
            simp only [Act.put, sa0, sa1, sa2, i64_w, i32_w]
            rfl
           refine take_ (i := 0) (N := some 54) (v := ?_) (a' := ?_) #[true, true, true, true, true, true, true, true, true, true, true, true, true, false, false] rfl rfl (take_ofW HT_.out HW_.out (by kernel_rfl)) (fun _ _ _ h => h) (Or.inl ⟨by rfl, ?_⟩) hHeld ?_ ?_
           rotate_left
           ·
            rintro w' ⟨s0, s1, s2, s3, s4⟩
            go_simp
            with_reducible rfl
           rotate_left
           ·
            simp only [Act.put, sa0, sa1, sa2, i64_w, i32_w]
            rfl
           refine take_ (i := 13) (N := some 67) (v := ?_) (a' := ?_) #[true, true, true, true, true, true, true, true, true, true, true, true, true, true, false] rfl rfl (take_ofW HT_.out HW_.out (by kernel_rfl)) (fun _ _ _ h => h) (Or.inl ⟨by rfl, ?_⟩) hHeld ?_ ?_
           rotate_left
           ·
            rintro w' ⟨s0, s1, s2, s3, s4⟩
            go_simp
            with_reducible rfl
           rotate_left
           ·
            simp only [Act.put, sa0, sa1, sa2, i64_w, i32_w]
            rfl
           refine one_ (i := 14) (N := some 68) #[true, true, true, true, true, true, true, true, true, true, true, true, true, true, true] rfl rfl (one_of HT_.out (by kernel_rfl)) (by decide) (fun K hK => ?_)
           refine goes_ Try.func14 (by kernel_rfl) rfl #[.agg #[.int .i64 (Go.bits .and .i64 a0 7), .int .i64 (Go.bits .and .i64 a1 7), .int .i64 (wrap64 ((Go.bits .and .i64 a1 7) + (Go.bits .and .i64 a2 3))), .slice Ao32 x240003_3.length co32], .int .i64 x12_2, .int .i64 x13_3, .int .u64 (rd l3 (ji27))] (by rfl) rfl rfl (by (try simp only [List.map_toArray, List.map_cons, List.map_nil]); first | done | (simp only [hji27]; rfl) | rfl | (simp only [List.length_drop, List.length_take]; rfl)) ?_
           with_reducible refine (mat_Matrix_Set.calls (Go.bits .and .i64 a0 7) (Go.bits .and .i64 a1 7) (wrap64 ((Go.bits .and .i64 a1 7) + (Go.bits .and .i64 a2 3))) (fun k_ => some k_ = (.slice Ao32 x240003_3.length co32 : Value).ownBlock) (.slice Ao32 x240003_3.length co32) x240003_3 x12_2 x13_3 (rd l3 (ji27)) t242 w _ ?side1 ?side2 A30.out).mono ?_
           (case side1 => repeat (first | (with_reducible first | exact HB.out | apply below_alloc | apply pw_below_drewN | apply below_drew1 | refine below_set ?_ GE235.out | refine below_set ?_ GE239.out) | exact HB.out))
           (case side2 => exact Kd.R_tight rfl HO_240003.out)
           rintro e w33 ⟨rfl, hy0, hb, hkp⟩
           refine ⟨_, rfl, ?_⟩
           refine ax4 (Kd.R_reok rfl hy0 (fun k_ e_ => HO_240003.out.1 k_ e_)) (blk_kept (kb BK235) hkp (fun hs_ => (fun e_ => (Kd.R_ne HO_240003.out BK235.out (by decide)) e_) hs_)) (blk_kept (kb BK239) hkp (fun hs_ => (fun e_ => (Kd.R_ne HO_240003.out BK239.out (by decide)) e_) hs_)) hb ?_
           clear HO_240003 BK235 BK239 HB
           intro HO_240003 BK235 BK239 HB
           (try clear hb)
           (try clear hkp)
           (try clear hy0)
           refine hK.out _ _ ⟨(blk_cell BK239.out 0).trans rfl, (blk_cell BK239.out 1).trans rfl, (blk_cell BK239.out 2).trans rfl, (blk_cell BK239.out 3).trans rfl, ((HB.out.cell (World.block_lt_of_cell? w _ hw241_0)).trans hw241_0)⟩ (fun hHeld => ?_)
           clear hK K
           refine norm_ (a' := ?_) ?_ ?_
           rotate_left
           ·
            show Act.put _ (some 68) _ = _
            simp only [Act.put, sa0, sa1, sa2, i64_w, i32_w]
            rfl
           refine done_ (done_of HT_.out (by kernel_rfl)) ?_
           try go_wp2
           go_roundg k3
           case measure => have := HK1.out; have := HK2.out; have := HK3.out; omega
           case rel => exact ⟨(wrap64 (x13_3 + 1)), (t242), (.slice Ao32 x240003_3.length co32), (by first | rfl | (simp; done) | (simp [*]; done)), H', ⟨by have := HK1.out; have := HK2.out; have := HK3.out; omega⟩, ⟨kr HO_240003⟩, ⟨kb BK235⟩, ⟨kb BK239⟩, ⟨bes⟩⟩
         ·
          rw [if_neg c25] at H
          have c25b0 : decide (0 < (l3.length : Int)) = false := decide_eq_false c25
          have c25b1 : decide (0 < l3.length) = false := decide_eq_false (by omega)
          clear c25
          obtain ⟨t243, A340, H⟩ := Option.bind_eq_some_iff.mp H
          (try dsimp -simprocs only at H)
          have A34 := Aside0.mk A340
          clear A340
          have H' := Aside0.mk H
          clear H
          have hnb35 := NB239_235.out
          have hnc35 := NB235_239.out
          have hcz36_0 := bc BK239 0 rfl
          have hcz36_1 := bc BK239 1 rfl
          have hcz36_2 := bc BK239 2 rfl
          have hcz36_3 := bc BK239 3 rfl
          have hfz36_0 := blk_frozen BK239.out 0
          have hfz36_1 := blk_frozen BK239.out 1
          have hfz36_2 := blk_frozen BK239.out 2
          have hfz36_3 := blk_frozen BK239.out 3
          obtain ⟨Ao37, co37, eo37⟩ := Kd.R_slice HO_240003.out
          subst eo37
          go_wp2_with (first | ((with_reducible refine gate_callee (f := 14) rfl ?_); refine goesL_ (some 72) rfl rfl Try.func14 (by kernel_rfl) rfl #[.agg #[.int .i64 (Go.bits .and .i64 a0 7), .int .i64 (Go.bits .and .i64 a1 7), .int .i64 (wrap64 ((Go.bits .and .i64 a1 7) + (Go.bits .and .i64 a2 3))), .slice Ao37 x240003_3.length co37], .int .i64 x12_2, .int .i64 x13_3, .int .u64 0] rfl ga ?_; (with_reducible refine (mat_Matrix_Set.calls (Go.bits .and .i64 a0 7) (Go.bits .and .i64 a1 7) (wrap64 ((Go.bits .and .i64 a1 7) + (Go.bits .and .i64 a2 3))) (fun k_ => some k_ = (.slice Ao37 x240003_3.length co37 : Value).ownBlock) (.slice Ao37 x240003_3.length co37) x240003_3 x12_2 x13_3 0 t243 w _ ?side1 ?side2 A34.out).mono ?_); (case side1 => repeat (first | (with_reducible first | exact HB.out | apply below_alloc | apply pw_below_drewN | apply below_drew1 | refine below_set ?_ GE235.out | refine below_set ?_ GE239.out) | exact HB.out)); (case side2 => exact Kd.R_tight rfl HO_240003.out); rintro e w38 ⟨rfl, hy0, hb, hkp⟩; refine ⟨_, rfl, ?_⟩; refine ax4 (Kd.R_reok rfl hy0 (fun k_ e_ => HO_240003.out.1 k_ e_)) (blk_kept (kb BK235) hkp (fun hs_ => (fun e_ => (Kd.R_ne HO_240003.out BK235.out (by decide)) e_) hs_)) (blk_kept (kb BK239) hkp (fun hs_ => (fun e_ => (Kd.R_ne HO_240003.out BK239.out (by decide)) e_) hs_)) hb ?_; clear HO_240003; clear BK235; clear BK239; clear HB; intro HO_240003 BK235 BK239 HB; (try clear hb); (try clear hkp); (try clear hy0)))
          go_roundg k3
          case measure => have := HK1.out; have := HK2.out; have := HK3.out; omega
          case rel => exact ⟨(wrap64 (x13_3 + 1)), (t243), (.slice Ao37 x240003_3.length co37), (by first | rfl | (simp; done) | (simp [*]; done)), H', ⟨by have := HK1.out; have := HK2.out; have := HK3.out; omega⟩, ⟨kr HO_240003⟩, ⟨kb BK235⟩, ⟨kb BK239⟩, ⟨bes⟩⟩
      ·
       rw [if_neg c23] at H
       have c23b0 : decide (x12_2 < (Go.bits .and .i64 a0 7)) = false := decide_eq_false c23
       clear c23
       simp only [Option.some.injEq, Prod.mk.injEq] at H
       obtain ⟨rfl, rfl, rfl, rfl⟩ := H
       have hnb39 := NB239_235.out
       have hnc39 := NB235_239.out
       have hcz40_0 := bc BK239 0 rfl
       have hcz40_1 := bc BK239 1 rfl
       have hcz40_2 := bc BK239 2 rfl
       have hcz40_3 := bc BK239 3 rfl
       have hfz40_0 := blk_frozen BK239.out 0
       have hfz40_1 := blk_frozen BK239.out 1
       have hfz40_2 := blk_frozen BK239.out 2
       have hfz40_3 := blk_frozen BK239.out 3
       have hcz41_0 := bc BK235 0 rfl
       have hcz41_1 := bc BK235 1 rfl
       have hcz41_2 := bc BK235 2 rfl
       have hcz41_3 := bc BK235 3 rfl
       have hfz41_0 := blk_frozen BK235.out 0
       have hfz41_1 := blk_frozen BK235.out 1
       have hfz41_2 := blk_frozen BK235.out 2
       have hfz41_3 := blk_frozen BK235.out 3
       obtain ⟨Ao42, co42, eo42⟩ := Kd.R_slice HO_240003.out
       subst eo42
       go_wp2
       refine bodyPost_ret (results_cell_row rfl _ _ gb235 25 #[.int .i64 (Go.bits .and .i64 a0 7), .int .i64 (Go.bits .and .i64 a1 7), .int .i64 (wrap64 ((Go.bits .and .i64 a1 7) + (Go.bits .and .i64 a2 3))), .slice Ao42 x240003_2.length co42] (0, 0) _ rfl (by (with_reducible repeat (first | refine blk_drewN ?_ _ | refine blk_drew ?_ | refine blk_alloc ?_ _)); refine blk_put (cs := #[.int .i64 (Go.bits .and .i64 a0 7), .int .i64 (Go.bits .and .i64 a1 7), .int .i64 (wrap64 ((Go.bits .and .i64 a1 7) + (Go.bits .and .i64 a2 3))), .slice none 0 0]) ?_ 3 _ rfl; (with_reducible repeat (first | refine blk_drewN ?_ _ | refine blk_drew ?_ | refine blk_alloc ?_ _)); refine blk_put (cs := #[.int .i64 (Go.bits .and .i64 a0 7), .int .i64 (Go.bits .and .i64 a1 7), .int .i64 0, .slice none 0 0]) ?_ 2 _ rfl; (with_reducible repeat (first | refine blk_drewN ?_ _ | refine blk_drew ?_ | refine blk_alloc ?_ _)); refine blk_put (cs := #[.int .i64 (Go.bits .and .i64 a0 7), .int .i64 0, .int .i64 0, .slice none 0 0]) ?_ 1 _ rfl; (with_reducible repeat (first | refine blk_drewN ?_ _ | refine blk_drew ?_ | refine blk_alloc ?_ _)); refine blk_put (cs := #[.int .i64 0, .int .i64 0, .int .i64 0, .slice none 0 0]) ?_ 0 _ rfl; (with_reducible repeat (first | refine blk_drewN ?_ _ | refine blk_drew ?_ | refine blk_alloc ?_ _)); exact BK235.out) Try.underlying25 rfl (by kernel_rfl)) rfl ?_
       exact ⟨_, by first | rfl | (simp [errW_none, errW_some] <;> rfl) | (simp only [← hji5]; first | rfl | (simp [errW_none, errW_some] <;> rfl)) | (simp [*, errW_none, errW_some] <;> rfl), by (with_reducible repeat (first | apply Kd.R_alloc | apply Kd.R_drewN | apply Kd.R_drew)); exact Kd.R_mono (Kd.R_far (p := ⟨gb235, 3, none⟩) (Kd.R_far (p := ⟨gb235, 2, none⟩) (Kd.R_far (p := ⟨gb235, 1, none⟩) (Kd.R_far (p := ⟨gb235, 0, none⟩) (Kd.R_types HO_240003.out BK235.out (by decide)) (fun _ hk => hk.2) (.int .i64 (Go.bits .and .i64 a0 7))) (fun _ hk => hk.2) (.int .i64 (Go.bits .and .i64 a1 7))) (fun _ hk => hk.2) (.int .i64 (wrap64 ((Go.bits .and .i64 a1 7) + (Go.bits .and .i64 a2 3))))) (fun _ hk => hk.2) (.slice Ao42 x240003_2.length co42)) (fun _ hk => trivial), bes⟩
/-! ### mat_Matrix_Check: function 12 -/
mutual
def mat_Matrix_Check.j0 : Nat → Bool → Int → Int → Int → List Int → Option (Int)
 | 0, _, _, _, _, _ => none
 | k + 1, x3, x245000, x245001, x245002, x245003 => if x3 = true then (some 4) else (if x245000 = 0 then (mat_Matrix_Check.j1 k true x245000 x245001 x245002 x245003) else (mat_Matrix_Check.j1 k (x245001 == 0) x245000 x245001 x245002 x245003))
def mat_Matrix_Check.j1 : Nat → Bool → Int → Int → Int → List Int → Option (Int)
 | 0, _, _, _, _, _ => none
 | k + 1, x34, x245000, x245001, x245002, x245003 => if x34 = true then (some 0) else (if (wrap64 ((wrap64 ((wrap64 (x245000 - 1)) * x245002)) + x245001)) > (x245003.length : Int) then (some 4) else (some 0))
end
def mat_Matrix_Check.f (k : Nat) (a0_0 : Int) (a0_1 : Int) (a0_2 : Int) (l0_3 : List Int) : Option (Int) := if a0_0 < 0 then (mat_Matrix_Check.j0 k true a0_0 a0_1 a0_2 l0_3) else (if a0_0 > 4096 then (mat_Matrix_Check.j0 k true a0_0 a0_1 a0_2 l0_3) else (if a0_1 < 0 then (mat_Matrix_Check.j0 k true a0_0 a0_1 a0_2 l0_3) else (if a0_1 > 4096 then (mat_Matrix_Check.j0 k true a0_0 a0_1 a0_2 l0_3) else (if a0_2 < a0_1 then (mat_Matrix_Check.j0 k true a0_0 a0_1 a0_2 l0_3) else (mat_Matrix_Check.j0 k (decide (a0_2 > 1099511627776)) a0_0 a0_1 a0_2 l0_3)))))
theorem mat_Matrix_Check.mono_l : ∀ k, (∀ y0 y1 y2 y3 y4, LeO (mat_Matrix_Check.j0 k y0 y1 y2 y3 y4) (mat_Matrix_Check.j0 (k + 1) y0 y1 y2 y3 y4)) ∧ (∀ y0 y1 y2 y3 y4, LeO (mat_Matrix_Check.j1 k y0 y1 y2 y3 y4) (mat_Matrix_Check.j1 (k + 1) y0 y1 y2 y3 y4))
 | 0 => ⟨fun _ _ _ _ _ r h => by simp [mat_Matrix_Check.j0] at h, fun _ _ _ _ _ r h => by simp [mat_Matrix_Check.j1] at h⟩
 | k + 1 => by
  obtain ⟨ih0, ih1⟩ := mat_Matrix_Check.mono_l k
  refine ⟨?_, ?_⟩ <;> intros <;> (first | unfold mat_Matrix_Check.j0 | unfold mat_Matrix_Check.j1) <;>
   repeat' with_reducible first | apply ih0 | apply ih1 | exact LeO.refl _ | exact LeO.none _ | refine LeO.ite ?_ ?_ | refine LeO.bind ?_ (fun _ => ?_)
theorem mat_Matrix_Check.mono : ∀ a0 a1 a2 a3 k, LeO (mat_Matrix_Check.f k a0 a1 a2 a3) (mat_Matrix_Check.f (k + 1) a0 a1 a2 a3) := by
 intro a0 a1 a2 a3 k
 obtain ⟨ih0, ih1⟩ := mat_Matrix_Check.mono_l k
 unfold mat_Matrix_Check.f
 repeat' with_reducible first | apply ih0 | apply ih1 | exact LeO.refl _ | exact LeO.none _ | refine LeO.ite ?_ ?_ | refine LeO.bind ?_ (fun _ => ?_)
set_option maxHeartbeats 8000000 in
set_option maxRecDepth 100000 in
theorem mat_Matrix_Check.calls (k : Nat) (a0_0 : Int) (a0_1 : Int) (a0_2 : Int) (A0_3 : Option Addr) (c0_3 : Nat) (l0_3 : List Int) (r : Int) (w : World) (hr0_3 : Kd.C (Kd.int .u64) w A0_3 l0_3.length l0_3) (hc0_3 : l0_3.length ≤ c0_3) (h : mat_Matrix_Check.f k a0_0 a0_1 a0_2 l0_3 = some r) :
  Calls Try.prog 12 #[.agg #[.int .i64 a0_0, .int .i64 a0_1, .int .i64 a0_2, .slice A0_3 l0_3.length c0_3]] w fun e w' => e = .returned (.int .i64 r) ∧ Below w.heap.size w w' := by
 have hu25 := Try.underlying25
 have HR0_3 := Aside0.mk hr0_3
 have HC0_3 := Aside0.mk hc0_3
 clear hr0_3 hc0_3
 have HB := Aside0.mk (Below.refl w.heap.size w)
 have H : (if a0_0 < 0 then (mat_Matrix_Check.j0 k true a0_0 a0_1 a0_2 l0_3) else (if a0_0 > 4096 then (mat_Matrix_Check.j0 k true a0_0 a0_1 a0_2 l0_3) else (if a0_1 < 0 then (mat_Matrix_Check.j0 k true a0_0 a0_1 a0_2 l0_3) else (if a0_1 > 4096 then (mat_Matrix_Check.j0 k true a0_0 a0_1 a0_2 l0_3) else (if a0_2 < a0_1 then (mat_Matrix_Check.j0 k true a0_0 a0_1 a0_2 l0_3) else (mat_Matrix_Check.j0 k (decide (a0_2 > 1099511627776)) a0_0 a0_1 a0_2 l0_3)))))) = some r := h
 clear h
 have HC2 := Aside0.mk H
 clear H
 go_enter Try.func12, Try.ntmps12
 go_upto_region 1 with (first | ((with_reducible refine gate_dst (N := 1) rfl ?_); refine gbox (N := 1) (cs := #[.int .i64 a0_0, .int .i64 a0_1, .int .i64 a0_2, .slice A0_3 l0_3.length c0_3]) (t := 25) ?_; intro gb244 hg w3 hbox hb; refine ax4 (below_step bel hb) hbox ((ge hg : w.heap.size ≤ gb244)) ((ge hg : w.heap.size ≤ gb244)) ?_; clear HB; intro HB BK244 GW244 GE244; clear hb hbox hg))
 (try simp only [Act.put, sa0, sa1, sa2])
 go_cut [3] (fun v3 wc => ∃ (kq : Nat) (x3_1 : Bool), v3 = .bool x3_1 ∧ Aside0 (mat_Matrix_Check.j0 kq x3_1 a0_0 a0_1 a0_2 l0_3 = some r) ∧ Aside0 (kq ≤ k) ∧ Aside0 (wc.heap[gb244]? = some (.cells #[.int .i64 a0_0, .int .i64 a0_1, .int .i64 a0_2, (.slice A0_3 l0_3.length c0_3)] 25 (0, 0))) ∧ Aside0 (Below w.heap.size w wc))
 case first =>
  have H := HC2.out
  clear HC2
  by_cases c4 : a0_0 < 0
  ·
   rw [if_pos c4] at H
   have c4b0 : decide (a0_0 < 0) = true := decide_eq_true c4
   clear c4
   (first | rw [c4b0] | (simp only [i64_w, i32_w]; rw [c4b0]) | skip)
   have H' := Aside0.mk H
   clear H
   have hcz5_0 := bc BK244 0 rfl
   have hcz5_1 := bc BK244 1 rfl
   have hcz5_2 := bc BK244 2 rfl
   have hcz5_3 := bc BK244 3 rfl
   have hfz5_0 := blk_frozen BK244.out 0
   have hfz5_1 := blk_frozen BK244.out 1
   have hfz5_2 := blk_frozen BK244.out 2
   have hfz5_3 := blk_frozen BK244.out 3
   go_wp2
   go_meet
   case rel => exact ⟨_, (true), (by first | rfl | (simp; done) | (simp [*]; done)), H', ⟨by first | omega | exact Nat.le_refl _⟩, ⟨kb BK244⟩, ⟨bes⟩⟩
  ·
   rw [if_neg c4] at H
   have c4b0 : decide (a0_0 < 0) = false := decide_eq_false c4
   clear c4
   (first | rw [c4b0] | (simp only [i64_w, i32_w]; rw [c4b0]) | skip)
   by_cases c6 : a0_0 > 4096
   ·
    rw [if_pos c6] at H
    have c6b0 : decide (4096 < a0_0) = true := decide_eq_true c6
    clear c6
    have H' := Aside0.mk H
    clear H
    have hcz7_0 := bc BK244 0 rfl
    have hcz7_1 := bc BK244 1 rfl
    have hcz7_2 := bc BK244 2 rfl
    have hcz7_3 := bc BK244 3 rfl
    have hfz7_0 := blk_frozen BK244.out 0
    have hfz7_1 := blk_frozen BK244.out 1
    have hfz7_2 := blk_frozen BK244.out 2
    have hfz7_3 := blk_frozen BK244.out 3
    go_wp2
    go_meet
    case rel => exact ⟨_, (true), (by first | rfl | (simp; done) | (simp [*]; done)), H', ⟨by first | omega | exact Nat.le_refl _⟩, ⟨kb BK244⟩, ⟨bes⟩⟩
   ·
    rw [if_neg c6] at H
    have c6b0 : decide (4096 < a0_0) = false := decide_eq_false c6
    clear c6
    by_cases c8 : a0_1 < 0
    ·
     rw [if_pos c8] at H
     have c8b0 : decide (a0_1 < 0) = true := decide_eq_true c8
     clear c8
     have H' := Aside0.mk H
     clear H
     have hcz9_0 := bc BK244 0 rfl
     have hcz9_1 := bc BK244 1 rfl
     have hcz9_2 := bc BK244 2 rfl
     have hcz9_3 := bc BK244 3 rfl
     have hfz9_0 := blk_frozen BK244.out 0
     have hfz9_1 := blk_frozen BK244.out 1
     have hfz9_2 := blk_frozen BK244.out 2
     have hfz9_3 := blk_frozen BK244.out 3
     go_wp2
     go_meet
     case rel => exact ⟨_, (true), (by first | rfl | (simp; done) | (simp [*]; done)), H', ⟨by first | omega | exact Nat.le_refl _⟩, ⟨kb BK244⟩, ⟨bes⟩⟩
    ·
     rw [if_neg c8] at H
     have c8b0 : decide (a0_1 < 0) = false := decide_eq_false c8
     clear c8
     by_cases c10 : a0_1 > 4096
     ·
      rw [if_pos c10] at H
      have c10b0 : decide (4096 < a0_1) = true := decide_eq_true c10
      clear c10
      have H' := Aside0.mk H
      clear H
      have hcz11_0 := bc BK244 0 rfl
      have hcz11_1 := bc BK244 1 rfl
      have hcz11_2 := bc BK244 2 rfl
      have hcz11_3 := bc BK244 3 rfl
      have hfz11_0 := blk_frozen BK244.out 0
      have hfz11_1 := blk_frozen BK244.out 1
      have hfz11_2 := blk_frozen BK244.out 2
      have hfz11_3 := blk_frozen BK244.out 3
      go_wp2
      go_meet
      case rel => exact ⟨_, (true), (by first | rfl | (simp; done) | (simp [*]; done)), H', ⟨by first | omega | exact Nat.le_refl _⟩, ⟨kb BK244⟩, ⟨bes⟩⟩
     ·
      rw [if_neg c10] at H
      have c10b0 : decide (4096 < a0_1) = false := decide_eq_false c10
      clear c10
      by_cases c12 : a0_2 < a0_1
      ·
       rw [if_pos c12] at H
       have c12b0 : decide (a0_2 < a0_1) = true := decide_eq_true c12
       clear c12
       have H' := Aside0.mk H
       clear H
       have hcz13_0 := bc BK244 0 rfl
       have hcz13_1 := bc BK244 1 rfl
       have hcz13_2 := bc BK244 2 rfl
       have hcz13_3 := bc BK244 3 rfl
       have hfz13_0 := blk_frozen BK244.out 0
       have hfz13_1 := blk_frozen BK244.out 1
       have hfz13_2 := blk_frozen BK244.out 2
       have hfz13_3 := blk_frozen BK244.out 3
       go_wp2
       go_meet
       case rel => exact ⟨_, (true), (by first | rfl | (simp; done) | (simp [*]; done)), H', ⟨by first | omega | exact Nat.le_refl _⟩, ⟨kb BK244⟩, ⟨bes⟩⟩
      ·
       rw [if_neg c12] at H
       have c12b0 : decide (a0_2 < a0_1) = false := decide_eq_false c12
       clear c12
       have H' := Aside0.mk H
       clear H
       have hcz14_0 := bc BK244 0 rfl
       have hcz14_1 := bc BK244 1 rfl
       have hcz14_2 := bc BK244 2 rfl
       have hcz14_3 := bc BK244 3 rfl
       have hfz14_0 := blk_frozen BK244.out 0
       have hfz14_1 := blk_frozen BK244.out 1
       have hfz14_2 := blk_frozen BK244.out 2
       have hfz14_3 := blk_frozen BK244.out 3
       go_wp2
       go_meet
       case rel => exact ⟨_, (decide (a0_2 > 1099511627776)), (by first | rfl | (simp; done) | (simp [*]; done)), H', ⟨by first | omega | exact Nat.le_refl _⟩, ⟨kb BK244⟩, ⟨bes⟩⟩
 case rest =>
  clear HC2
  try clear c1
  try clear p2
  try clear c4
  try clear c4b0
  try clear c6
  try clear c6b0
  try clear c8
  try clear c8b0
  try clear c10
  try clear c10b0
  try clear c12
  try clear c12b0
  try clear hcz11_0
  try clear hcz11_1
  try clear hcz11_2
  try clear hcz11_3
  try clear hcz13_0
  try clear hcz13_1
  try clear hcz13_2
  try clear hcz13_3
  try clear hcz14_0
  try clear hcz14_1
  try clear hcz14_2
  try clear hcz14_3
  try clear hcz5_0
  try clear hcz5_1
  try clear hcz5_2
  try clear hcz5_3
  try clear hcz7_0
  try clear hcz7_1
  try clear hcz7_2
  try clear hcz7_3
  try clear hcz9_0
  try clear hcz9_1
  try clear hcz9_2
  try clear hcz9_3
  try clear hfz11_0
  try clear hfz11_1
  try clear hfz11_2
  try clear hfz11_3
  try clear hfz13_0
  try clear hfz13_1
  try clear hfz13_2
  try clear hfz13_3
  try clear hfz14_0
  try clear hfz14_1
  try clear hfz14_2
  try clear hfz14_3
  try clear hfz5_0
  try clear hfz5_1
  try clear hfz5_2
  try clear hfz5_3
  try clear hfz7_0
  try clear hfz7_1
  try clear hfz7_2
  try clear hfz7_3
  try clear hfz9_0
  try clear hfz9_1
  try clear hfz9_2
  try clear hfz9_3
  obtain ⟨kq, x3_1, rfl, HA, HJ1, BK244, HB⟩ := hcut
  cases kq with
  | zero => exact absurd HA.out (by simp [mat_Matrix_Check.j0])
  | succ kj1 =>
   have H := HA.out
   clear HA
   simp only [mat_Matrix_Check.j0] at H
   by_cases c15 : x3_1 = true
   ·
    subst c15
    rw [if_pos rfl] at H
    obtain rfl := Option.some.inj H
    go_wp2
    go_ret
    exact ⟨er, bes⟩
   ·
    replace c15 := Bool.eq_false_iff.mpr c15
    subst c15
    rw [if_neg (show ¬ (false = true) by decide)] at H
    have HC16 := Aside0.mk H
    clear H
    go_upto_region 3 with (fail)
    go_cut [34] (fun v34 wc => ∃ (kq : Nat) (x34_15 : Bool), v34 = .bool x34_15 ∧ Aside0 (mat_Matrix_Check.j1 kq x34_15 a0_0 a0_1 a0_2 l0_3 = some r) ∧ Aside0 (kq ≤ kj1) ∧ Aside0 (wc.heap[gb244]? = some (.cells #[.int .i64 a0_0, .int .i64 a0_1, .int .i64 a0_2, (.slice A0_3 l0_3.length c0_3)] 25 (0, 0))) ∧ Aside0 (Below w.heap.size w wc))
    case first =>
     have H := HC16.out
     clear HC16
     by_cases c17 : a0_0 = 0
     ·
      rw [if_pos c17] at H
      have c17b0 : (a0_0 == 0) = true := beq_iff_eq.mpr c17
      have c17b1 : (a0_0 != 0) = false := bne_eq_false_iff_eq.mpr c17
      clear c17
      (first | rw [c17b0] | (simp only [i64_w, i32_w]; rw [c17b0]) | skip)
      have H' := Aside0.mk H
      clear H
      have hcz18_0 := bc BK244 0 rfl
      have hcz18_1 := bc BK244 1 rfl
      have hcz18_2 := bc BK244 2 rfl
      have hcz18_3 := bc BK244 3 rfl
      have hfz18_0 := blk_frozen BK244.out 0
      have hfz18_1 := blk_frozen BK244.out 1
      have hfz18_2 := blk_frozen BK244.out 2
      have hfz18_3 := blk_frozen BK244.out 3
      go_wp2
      go_meet
      case rel => exact ⟨_, (true), (by first | rfl | (simp; done) | (simp [*]; done)), H', ⟨by have := HJ1.out; first | omega | exact Nat.le_refl _⟩, ⟨kb BK244⟩, ⟨bes⟩⟩
     ·
      rw [if_neg c17] at H
      have c17b0 : (a0_0 == 0) = false := beq_eq_false_iff_ne.mpr c17
      have c17b1 : (a0_0 != 0) = true := bne_iff_ne.mpr c17
      (first | rw [c17b0] | (simp only [i64_w, i32_w]; rw [c17b0]) | skip)
      have H' := Aside0.mk H
      clear H
      have hcz19_0 := bc BK244 0 rfl
      have hcz19_1 := bc BK244 1 rfl
      have hcz19_2 := bc BK244 2 rfl
      have hcz19_3 := bc BK244 3 rfl
      have hfz19_0 := blk_frozen BK244.out 0
      have hfz19_1 := blk_frozen BK244.out 1
      have hfz19_2 := blk_frozen BK244.out 2
      have hfz19_3 := blk_frozen BK244.out 3
      go_wp2
      go_meet
      case rel => exact ⟨_, ((a0_1 == 0)), (by first | rfl | (simp; done) | (simp [*]; done)), H', ⟨by have := HJ1.out; first | omega | exact Nat.le_refl _⟩, ⟨kb BK244⟩, ⟨bes⟩⟩
    case rest =>
     clear HC16
     try clear c1
     try clear p2
     try clear c4
     try clear c4b0
     try clear c6
     try clear c6b0
     try clear c8
     try clear c8b0
     try clear c10
     try clear c10b0
     try clear c12
     try clear c12b0
     try clear c15
     try clear c17
     try clear c17b0
     try clear c17b1
     try clear hcz11_0
     try clear hcz11_1
     try clear hcz11_2
     try clear hcz11_3
     try clear hcz13_0
     try clear hcz13_1
     try clear hcz13_2
     try clear hcz13_3
     try clear hcz14_0
     try clear hcz14_1
     try clear hcz14_2
     try clear hcz14_3
     try clear hcz18_0
     try clear hcz18_1
     try clear hcz18_2
     try clear hcz18_3
     try clear hcz19_0
     try clear hcz19_1
     try clear hcz19_2
     try clear hcz19_3
     try clear hcz5_0
     try clear hcz5_1
     try clear hcz5_2
     try clear hcz5_3
     try clear hcz7_0
     try clear hcz7_1
     try clear hcz7_2
     try clear hcz7_3
     try clear hcz9_0
     try clear hcz9_1
     try clear hcz9_2
     try clear hcz9_3
     try clear hfz11_0
     try clear hfz11_1
     try clear hfz11_2
     try clear hfz11_3
     try clear hfz13_0
     try clear hfz13_1
     try clear hfz13_2
     try clear hfz13_3
     try clear hfz14_0
     try clear hfz14_1
     try clear hfz14_2
     try clear hfz14_3
     try clear hfz18_0
     try clear hfz18_1
     try clear hfz18_2
     try clear hfz18_3
     try clear hfz19_0
     try clear hfz19_1
     try clear hfz19_2
     try clear hfz19_3
     try clear hfz5_0
     try clear hfz5_1
     try clear hfz5_2
     try clear hfz5_3
     try clear hfz7_0
     try clear hfz7_1
     try clear hfz7_2
     try clear hfz7_3
     try clear hfz9_0
     try clear hfz9_1
     try clear hfz9_2
     try clear hfz9_3
     try clear p2
     obtain ⟨kq, x34_15, rfl, HA, HJ15, BK244, HB⟩ := hcut
     cases kq with
     | zero => exact absurd HA.out (by simp [mat_Matrix_Check.j1])
     | succ kj15 =>
      have H := HA.out
      clear HA
      simp only [mat_Matrix_Check.j1] at H
      by_cases c20 : x34_15 = true
      ·
       subst c20
       rw [if_pos rfl] at H
       obtain rfl := Option.some.inj H
       go_wp2
       go_ret
       exact ⟨er, bes⟩
      ·
       replace c20 := Bool.eq_false_iff.mpr c20
       subst c20
       rw [if_neg (show ¬ (false = true) by decide)] at H
       by_cases c21 : (wrap64 ((wrap64 ((wrap64 (a0_0 - 1)) * a0_2)) + a0_1)) > (l0_3.length : Int)
       ·
        rw [if_pos c21] at H
        have c21b0 : decide ((l0_3.length : Int) < (wrap64 ((wrap64 ((wrap64 (a0_0 - 1)) * a0_2)) + a0_1))) = true := decide_eq_true c21
        clear c21
        obtain rfl := Option.some.inj H
        have hcz22_0 := bc BK244 0 rfl
        have hcz22_1 := bc BK244 1 rfl
        have hcz22_2 := bc BK244 2 rfl
        have hcz22_3 := bc BK244 3 rfl
        have hfz22_0 := blk_frozen BK244.out 0
        have hfz22_1 := blk_frozen BK244.out 1
        have hfz22_2 := blk_frozen BK244.out 2
        have hfz22_3 := blk_frozen BK244.out 3
        go_wp2
        go_ret
        exact ⟨er, bes⟩
       ·
        rw [if_neg c21] at H
        have c21b0 : decide ((l0_3.length : Int) < (wrap64 ((wrap64 ((wrap64 (a0_0 - 1)) * a0_2)) + a0_1))) = false := decide_eq_false c21
        clear c21
        obtain rfl := Option.some.inj H
        have hcz23_0 := bc BK244 0 rfl
        have hcz23_1 := bc BK244 1 rfl
        have hcz23_2 := bc BK244 2 rfl
        have hcz23_3 := bc BK244 3 rfl
        have hfz23_0 := blk_frozen BK244.out 0
        have hfz23_1 := blk_frozen BK244.out 1
        have hfz23_2 := blk_frozen BK244.out 2
        have hfz23_3 := blk_frozen BK244.out 3
        go_wp2
        go_ret
        exact ⟨er, bes⟩

end Go.Proofs.Ytenegelkbfmjkaa.F
