-- Written by a program of this seat's session (mkprint), out of the translation.
import Derived.Test.YtenegelkbfmjkaaShort
import Derived.Test.YtenegelkbfmjkaaFx0
import Derived.Test.YtenegelkbfmjkaaFx2
namespace Go.Proofs.Ytenegelkbfmjkaa.F
open Go.RowKit Go.Proofs.YtenegelkbfmjkaaW.PrintWords Go.Proofs.YtenegelkbfmjkaaW.PrintLast Go.Proofs.YtenegelkbfmjkaaW.PrintMore
attribute [local go_sem] max2_int min2_int max_two min_two max_three min_three max_four min_four   -- for this text's walks alone
set_option linter.unusedVariables false
set_option linter.unusedSimpArgs false

/-! ### gimballaw09_Made: function 8 -/
mutual
def gimballaw09_Made.l0 : Nat → Int → Int → List Int → Int → Int → Int → Int → Int → List Int → Option (Int × Int × Int × List Int)
 | 0, _, _, _, _, _, _, _, _, _ => none
 | k + 1, x0, x1, x3, x32, x33, x240000, x240001, x240002, x240003 => if x33 < x32 then (if 0 ≤ x33 then (if x33 < (x240003.length : Int) then (gimballaw09_Made.l0 k x0 x1 x3 x32 (wrap64 (x33 + 1)) x240000 x240001 x240002 (x240003.set (x33 : Int).toNat 9221120237041090560)) else (none)) else (none)) else (gimballaw09_Made.l1 k x0 x1 x3 0 x240000 x240001 x240002 x240003)
def gimballaw09_Made.l1 : Nat → Int → Int → List Int → Int → Int → Int → Int → List Int → Option (Int × Int × Int × List Int)
 | 0, _, _, _, _, _, _, _, _ => none
 | k + 1, x0, x1, x3, x12, x240000, x240001, x240002, x240003 => if x12 < x0 then (gimballaw09_Made.l2 k x0 x1 x3 x12 0 x240000 x240001 x240002 x240003) else (some (x240000, x240001, x240002, x240003))
def gimballaw09_Made.l2 : Nat → Int → Int → List Int → Int → Int → Int → Int → Int → List Int → Option (Int × Int × Int × List Int)
 | 0, _, _, _, _, _, _, _, _, _ => none
 | k + 1, x0, x1, x3, x12, x13, x240000, x240001, x240002, x240003 => if x13 < x1 then (if (x3.length : Int) > 0 then (if (x3.length : Int) = 0 then (none) else (if 0 ≤ (Int.tmod (wrap64 ((wrap64 (x12 * x1)) + x13)) (x3.length : Int)) then (if (Int.tmod (wrap64 ((wrap64 (x12 * x1)) + x13)) (x3.length : Int)) < (x3.length : Int) then ((mat_Matrix_Set.f x240000 x240001 x240002 x240003 x12 x13 (rd x3 (Int.tmod (wrap64 ((wrap64 (x12 * x1)) + x13)) (x3.length : Int)))).bind fun t242 => (gimballaw09_Made.l2 k x0 x1 x3 x12 (wrap64 (x13 + 1)) x240000 x240001 x240002 t242)) else (none)) else (none))) else ((mat_Matrix_Set.f x240000 x240001 x240002 x240003 x12 x13 0).bind fun t243 => (gimballaw09_Made.l2 k x0 x1 x3 x12 (wrap64 (x13 + 1)) x240000 x240001 x240002 t243))) else (gimballaw09_Made.l1 k x0 x1 x3 (wrap64 (x12 + 1)) x240000 x240001 x240002 x240003)
end
def gimballaw09_Made.f (k : Nat) (a0 : Int) (a1 : Int) (a2 : Int) (l3 : List Int) : Option (Int × Int × Int × List Int) := if 0 ≤ (wrap64 ((Go.bits .and .i64 a0 7) * (wrap64 ((Go.bits .and .i64 a1 7) + (Go.bits .and .i64 a2 3))))) then (if (wrap64 ((Go.bits .and .i64 a0 7) * (wrap64 ((Go.bits .and .i64 a1 7) + (Go.bits .and .i64 a2 3)))) : Int).toNat ≤ 35184372088832 then ((some (List.replicate (wrap64 ((Go.bits .and .i64 a0 7) * (wrap64 ((Go.bits .and .i64 a1 7) + (Go.bits .and .i64 a2 3)))) : Int).toNat 0 : List Int)).bind fun y236 => (gimballaw09_Made.l0 k (Go.bits .and .i64 a0 7) (Go.bits .and .i64 a1 7) l3 (y236.length : Int) 0 (Go.bits .and .i64 a0 7) (Go.bits .and .i64 a1 7) (wrap64 ((Go.bits .and .i64 a1 7) + (Go.bits .and .i64 a2 3))) y236)) else (none)) else (none)
theorem gimballaw09_Made.mono_l : ∀ k, (∀ y0 y1 y2 y3 y4 y5 y6 y7 y8, LeO (gimballaw09_Made.l0 k y0 y1 y2 y3 y4 y5 y6 y7 y8) (gimballaw09_Made.l0 (k + 1) y0 y1 y2 y3 y4 y5 y6 y7 y8)) ∧ (∀ y0 y1 y2 y3 y4 y5 y6 y7, LeO (gimballaw09_Made.l1 k y0 y1 y2 y3 y4 y5 y6 y7) (gimballaw09_Made.l1 (k + 1) y0 y1 y2 y3 y4 y5 y6 y7)) ∧ (∀ y0 y1 y2 y3 y4 y5 y6 y7 y8, LeO (gimballaw09_Made.l2 k y0 y1 y2 y3 y4 y5 y6 y7 y8) (gimballaw09_Made.l2 (k + 1) y0 y1 y2 y3 y4 y5 y6 y7 y8))
 | 0 => ⟨fun _ _ _ _ _ _ _ _ _ r h => by simp [gimballaw09_Made.l0] at h, fun _ _ _ _ _ _ _ _ r h => by simp [gimballaw09_Made.l1] at h, fun _ _ _ _ _ _ _ _ _ r h => by simp [gimballaw09_Made.l2] at h⟩
 | k + 1 => by
  obtain ⟨ih0, ih1, ih2⟩ := gimballaw09_Made.mono_l k
  refine ⟨?_, ?_, ?_⟩
  ·
   intro y0 y1 y2 y3 y4 y5 y6 y7 y8
   unfold gimballaw09_Made.l0
   repeat' first
   | (with_reducible exact ih0 _ _ _ _ _ _ _ _ _)
   | (with_reducible exact ih1 _ _ _ _ _ _ _ _)
   | (with_reducible exact ih2 _ _ _ _ _ _ _ _ _)
   | (with_reducible exact LeO.refl _)
   | (with_reducible exact LeO.none _)
   | (with_reducible refine LeO.ite ?_ ?_)
   | (with_reducible refine LeO.bind ?_ (fun _ => ?_))
   | exact ih0 _ _ _ _ _ _ _ _ _
   | exact ih1 _ _ _ _ _ _ _ _
   | exact ih2 _ _ _ _ _ _ _ _ _
   | exact LeO.none _
   | refine LeO.ite ?_ ?_
   | refine LeO.bind ?_ (fun _ => ?_)
  ·
   intro y0 y1 y2 y3 y4 y5 y6 y7
   unfold gimballaw09_Made.l1
   repeat' first
   | (with_reducible exact ih0 _ _ _ _ _ _ _ _ _)
   | (with_reducible exact ih1 _ _ _ _ _ _ _ _)
   | (with_reducible exact ih2 _ _ _ _ _ _ _ _ _)
   | (with_reducible exact LeO.refl _)
   | (with_reducible exact LeO.none _)
   | (with_reducible refine LeO.ite ?_ ?_)
   | (with_reducible refine LeO.bind ?_ (fun _ => ?_))
   | exact ih0 _ _ _ _ _ _ _ _ _
   | exact ih1 _ _ _ _ _ _ _ _
   | exact ih2 _ _ _ _ _ _ _ _ _
   | exact LeO.none _
   | refine LeO.ite ?_ ?_
   | refine LeO.bind ?_ (fun _ => ?_)
  ·
   intro y0 y1 y2 y3 y4 y5 y6 y7 y8
   unfold gimballaw09_Made.l2
   repeat' first
   | (with_reducible exact ih0 _ _ _ _ _ _ _ _ _)
   | (with_reducible exact ih1 _ _ _ _ _ _ _ _)
   | (with_reducible exact ih2 _ _ _ _ _ _ _ _ _)
   | (with_reducible exact LeO.refl _)
   | (with_reducible exact LeO.none _)
   | (with_reducible refine LeO.ite ?_ ?_)
   | (with_reducible refine LeO.bind ?_ (fun _ => ?_))
   | exact ih0 _ _ _ _ _ _ _ _ _
   | exact ih1 _ _ _ _ _ _ _ _
   | exact ih2 _ _ _ _ _ _ _ _ _
   | exact LeO.none _
   | refine LeO.ite ?_ ?_
   | refine LeO.bind ?_ (fun _ => ?_)
theorem gimballaw09_Made.mono : ∀ a0 a1 a2 a3 k, LeO (gimballaw09_Made.f k a0 a1 a2 a3) (gimballaw09_Made.f (k + 1) a0 a1 a2 a3) := by
 intro a0 a1 a2 a3 k
 obtain ⟨ih0, ih1, ih2⟩ := gimballaw09_Made.mono_l k
 unfold gimballaw09_Made.f
 repeat' first
   | (with_reducible exact ih0 _ _ _ _ _ _ _ _ _)
   | (with_reducible exact ih1 _ _ _ _ _ _ _ _)
   | (with_reducible exact ih2 _ _ _ _ _ _ _ _ _)
   | (with_reducible exact LeO.refl _)
   | (with_reducible exact LeO.none _)
   | (with_reducible refine LeO.ite ?_ ?_)
   | (with_reducible refine LeO.bind ?_ (fun _ => ?_))
   | exact ih0 _ _ _ _ _ _ _ _ _
   | exact ih1 _ _ _ _ _ _ _ _
   | exact ih2 _ _ _ _ _ _ _ _ _
   | exact LeO.none _
   | refine LeO.ite ?_ ?_
   | refine LeO.bind ?_ (fun _ => ?_)
def gimballaw09_Made.T17 : Bool × List (List Nat × List Nat) := (true, [([], []), ([], []), ([], []), ([], []), ([], []), ([], []), ([4, 5], [4, 5]), ([], []), ([6, 7], [6, 7]), ([], []), ([9], [9]), ([8, 10], [8, 10]), ([3, 11], [3, 11]), ([12], [12]), ([0, 1, 2, 13], [0, 1, 2, 13])])
def gimballaw09_Made.B17 : List Nat := [0, 0, 0, 0, 0, 0, 48, 0, 240, 0, 512, 2032, 4088, 8184, 16383]
theorem gimballaw09_Made.tab17 : rtab .any (opsOf Try.f8 17) = gimballaw09_Made.T17 := by kernel_rfl
theorem gimballaw09_Made.bits17 : waitsOk gimballaw09_Made.T17.2 gimballaw09_Made.B17 = true := by kernel_rfl
set_option maxHeartbeats 8000000 in
set_option maxRecDepth 100000 in
theorem gimballaw09_Made.calls (k : Nat) (a0 : Int) (a1 : Int) (a2 : Int) (A3 : Option Addr) (c3 : Nat) (l3 : List Int) (r1 : Int) (r2 : Int) (r3 : Int) (r4 : List Int) (w : World) (hr3 : Kd.C (Kd.int .u64) w A3 l3.length l3) (hc3 : l3.length ≤ c3) (h : gimballaw09_Made.f k a0 a1 a2 l3 = some (r1, r2, r3, r4)) :
  Calls Try.prog 8 #[.int .i64 a0, .int .i64 a1, .int .i64 a2, .slice A3 l3.length c3] w fun e w' => ∃ v3_ : Value, e = .returned (.agg #[.int .i64 r1, .int .i64 r2, .int .i64 r3, v3_]) ∧ Kd.R (Kd.int .u64) 30 w' w.heap.size (fun _ => True) v3_ r4 ∧ Below w.heap.size w w' := by
 have hu25 := Try.underlying25
 have HR3 := Aside0.mk hr3
 have HC3 := Aside0.mk hc3
 clear hr3 hc3
 have HB := Aside0.mk (Below.refl w.heap.size w)
 have H : (if 0 ≤ (wrap64 ((Go.bits .and .i64 a0 7) * (wrap64 ((Go.bits .and .i64 a1 7) + (Go.bits .and .i64 a2 3))))) then (if (wrap64 ((Go.bits .and .i64 a0 7) * (wrap64 ((Go.bits .and .i64 a1 7) + (Go.bits .and .i64 a2 3)))) : Int).toNat ≤ 35184372088832 then ((some (List.replicate (wrap64 ((Go.bits .and .i64 a0 7) * (wrap64 ((Go.bits .and .i64 a1 7) + (Go.bits .and .i64 a2 3)))) : Int).toNat 0 : List Int)).bind fun y236 => (gimballaw09_Made.l0 k (Go.bits .and .i64 a0 7) (Go.bits .and .i64 a1 7) l3 (y236.length : Int) 0 (Go.bits .and .i64 a0 7) (Go.bits .and .i64 a1 7) (wrap64 ((Go.bits .and .i64 a1 7) + (Go.bits .and .i64 a2 3))) y236)) else (none)) else (none)) = some (r1, r2, r3, r4) := h
 clear h
 obtain ⟨ji5, hji5⟩ : ∃ j_ : Int, (wrap64 ((Go.bits .and .i64 a0 7) * (wrap64 ((Go.bits .and .i64 a1 7) + (Go.bits .and .i64 a2 3))))) = j_ := ⟨_, rfl⟩
 replace H : (if 0 ≤ (ji5) then (if (ji5 : Int).toNat ≤ 35184372088832 then ((some (List.replicate (ji5 : Int).toNat 0 : List Int)).bind fun y236 => (gimballaw09_Made.l0 k (Go.bits .and .i64 a0 7) (Go.bits .and .i64 a1 7) l3 (y236.length : Int) 0 (Go.bits .and .i64 a0 7) (Go.bits .and .i64 a1 7) (wrap64 ((Go.bits .and .i64 a1 7) + (Go.bits .and .i64 a2 3))) y236)) else (none)) else (none)) = some (r1, r2, r3, r4) := by first | (rw [hji5] at H; exact H) | (simp only [hji5] at H ⊢; exact H)
 have hji5w : (IntKind.i64.wrap ((Go.bits .and .i64 a0 7) * (wrap64 ((Go.bits .and .i64 a1 7) + (Go.bits .and .i64 a2 3))))) = ji5 := (i64_w _).trans hji5
 by_cases c6 : 0 ≤ (ji5)
 ·
  rw [if_pos c6] at H
  have c6b0 := eq_true c6
  have c6b1 : decide (0 ≤ (ji5)) = true := decide_eq_true c6
  clear c6
  by_cases c7 : (ji5 : Int).toNat ≤ 35184372088832
  ·
   rw [if_pos c7] at H
   have c7b0 := eq_true c7
   have c7b1 : decide ((ji5 : Int).toNat ≤ 35184372088832) = true := decide_eq_true c7
   clear c7
   obtain ⟨y236, hy236⟩ : ∃ y_ : List Int, y_ = (List.replicate (ji5 : Int).toNat 0) := ⟨_, rfl⟩
   replace H : (gimballaw09_Made.l0 k (Go.bits .and .i64 a0 7) (Go.bits .and .i64 a1 7) l3 (y236.length : Int) 0 (Go.bits .and .i64 a0 7) (Go.bits .and .i64 a1 7) (wrap64 ((Go.bits .and .i64 a1 7) + (Go.bits .and .i64 a2 3))) y236) = some (r1, r2, r3, r4) := by first | (rw [hy236]; with_reducible exact H) | (have H2_ := (Option.bind_some _ _).symm.trans H; rw [hy236]; with_reducible exact H2_) | (have H2_ := (Option.bind_some _ _).symm.trans H; with_reducible exact H2_) | with_reducible exact H | (rw [hy236]; exact H) | exact H
   have Ny236 := Aside0.mk hy236
   clear hy236
   have H' := Aside0.mk H
   clear H
   go_enter Try.func8, Try.ntmps8
   go_wp2_with (first | ((with_reducible refine gate_dst (N := 8) rfl ?_); refine box_event ?hg (N := 8) ?hd (cs := #[.int .i64 0, .int .i64 0, .int .i64 0, .slice none 0 0]) (t := 25) ?hr ?_; (case hd => rfl); (case hg => rfl); (case hr => first | (go_simp; done) | (go_simp; rfl)); intro gb235 hg w8 hbox hb; have n0_ := Aside0.mk (below_step bel hb); have n1_ := Aside0.mk (hbox); have n2_ := Aside0.mk ((by rw [hg]; exact (below_size bel) : w.heap.size ≤ gb235)); have n3_ := Aside0.mk ((by rw [hg]; exact (below_size bel) : w.heap.size ≤ gb235)); clear HB; have HB := n0_; have BK235 := n1_; have GW235 := n2_; have GE235 := n3_; clear n0_ n1_ n2_ n3_; clear hb hbox hg) | ((with_reducible refine gate_dst (N := 28) rfl ?_); refine Kd.R_make (Kd.int .u64) _ 30 rfl (N := 28) rfl 22 _ _ rfl ji5 rfl rfl Try.underlying22 (.int .u64 0) 8 info30 rfl (by decide) (by omega) 0 (ok := fun _ => True) (okp := fun _ => True) rfl (fun _ hk => hk) trivial (of_decide_eq_true (by first | (with_reducible assumption) | assumption)) (Nat.le_trans (Nat.mul_le_mul_right _ (of_decide_eq_true (by first | (with_reducible assumption) | assumption) : ji5.toNat ≤ 35184372088832)) (by omega)) (Below.refl _ _) (Nat.le_refl _) ?_; intro v237 w9 ho10 hb hg_ hnew_; clear hg_ hnew_; (first | rw [← Ny236.out] at ho10 | (simp only [Int.reduceToNat] at ho10; rw [← Ny236.out] at ho10)); have n0_ := Aside0.mk (Kd.R_lower ho10 (below_size bes)); have n1_ := Aside0.mk (blk_below (g := gb235) (o := .cells #[.int .i64 0, .int .i64 0, .int .i64 0, .slice none 0 0] 25 (0, 0)) (kb BK235) hb); have n2_ := Aside0.mk (below_step bes hb); clear BK235; clear HB; have HO238 := n0_; have BK235 := n1_; have HB := n2_; clear n0_ n1_ n2_; clear hb ho10; obtain ⟨Ao11, co11, eo11⟩ := Kd.R_slice HO238.out; subst eo11) | ((with_reducible refine gate_dst (N := 10) rfl ?_); refine box_event ?hg (N := 10) ?hd (cs := #[.int .i64 0, .int .i64 0, .int .i64 0, .slice none 0 0]) (t := 25) ?hr ?_; (case hd => rfl); (case hg => rfl); (case hr => first | (go_simp; done) | (go_simp; rfl)); intro gb239 hg w12 hbox hb; have n0_ := Aside0.mk (Kd.R_below (kr HO238) hb); have n1_ := Aside0.mk (blk_below (g := gb235) (o := .cells #[.int .i64 0, .int .i64 0, .int .i64 0, .slice none 0 0] 25 (0, 0)) (kb BK235) hb); have n2_ := Aside0.mk (below_step bes hb); have n3_ := Aside0.mk (hbox); have n4_ := Aside0.mk ((by rw [hg]; exact (below_size bes) : w.heap.size ≤ gb239)); have n5_ := Aside0.mk ((by rw [hg]; exact (below_size bes) : w.heap.size ≤ gb239)); have n6_ := Aside0.mk ((by rw [hg]; exact Nat.ne_of_lt (blk_lt (g := gb235) (o := .cells #[.int .i64 0, .int .i64 0, .int .i64 0, .slice none 0 0] 25 (0, 0)) (kb BK235)) : gb235 ≠ gb239)); have n7_ := Aside0.mk ((by rw [hg]; exact Nat.ne_of_gt (blk_lt (g := gb235) (o := .cells #[.int .i64 0, .int .i64 0, .int .i64 0, .slice none 0 0] 25 (0, 0)) (kb BK235)) : gb239 ≠ gb235)); clear HO238; clear BK235; clear HB; have HO238 := n0_; have BK235 := n1_; have HB := n2_; have BK239 := n3_; have GW239 := n4_; have GE239 := n5_; have NB235_239 := n6_; have NB239_235 := n7_; clear n0_ n1_ n2_ n3_ n4_ n5_ n6_ n7_; clear hb hbox hg; have hnb13 := NB239_235.out; have hnc13 := NB235_239.out; have hcz14_0 : w12.cell? ⟨gb239, 0, none⟩ = some (.int .i64 0) := (blk_cell BK239.out 0).trans rfl; have hcz14_1 : w12.cell? ⟨gb239, 1, none⟩ = some (.int .i64 0) := (blk_cell BK239.out 1).trans rfl; have hcz14_2 : w12.cell? ⟨gb239, 2, none⟩ = some (.int .i64 0) := (blk_cell BK239.out 2).trans rfl; have hcz14_3 : w12.cell? ⟨gb239, 3, none⟩ = some (.slice none 0 0) := (blk_cell BK239.out 3).trans rfl; have hfz14_0 := blk_frozen BK239.out 0; have hfz14_1 := blk_frozen BK239.out 1; have hfz14_2 := blk_frozen BK239.out 2; have hfz14_3 := blk_frozen BK239.out 3))
   go_loopg [33] k (fun kq v33 w' => ∃ (x33_1 : Int) (x240003_1 : List Int) (u240003 : Value), v33 = .int .i64 x33_1 ∧ Aside0 (gimballaw09_Made.l0 kq (Go.bits .and .i64 a0 7) (Go.bits .and .i64 a1 7) l3 (y236.length : Int) x33_1 (Go.bits .and .i64 a0 7) (Go.bits .and .i64 a1 7) (wrap64 ((Go.bits .and .i64 a1 7) + (Go.bits .and .i64 a2 3))) x240003_1 = some (r1, r2, r3, r4)) ∧ Aside0 (kq ≤ k) ∧ Aside0 (Kd.R (Kd.int .u64) 30 w' w.heap.size (fun _ => True) u240003 x240003_1) ∧ Aside0 (w'.heap[gb235]? = some (.cells #[.int .i64 0, .int .i64 0, .int .i64 0, (.slice none 0 0)] 25 (0, 0))) ∧ Aside0 (w'.heap[gb239]? = some (.cells #[.int .i64 (Go.bits .and .i64 a0 7), .int .i64 (Go.bits .and .i64 a1 7), .int .i64 (wrap64 ((Go.bits .and .i64 a1 7) + (Go.bits .and .i64 a2 3))), u240003] 25 (0, 0))) ∧ Aside0 (Below w.heap.size w w'))
   case atStart => exact ⟨(0), (y236), (.slice Ao11 y236.length co11), (by first | rfl | (simp; done) | (simp [*]; done)), H', ⟨Nat.le_refl _⟩, ⟨by (with_reducible repeat (first | apply Kd.R_alloc | apply Kd.R_drewN | apply Kd.R_drew)); exact Kd.R_mono (Kd.R_far (p := ⟨gb239, 3, none⟩) (Kd.R_far (p := ⟨gb239, 2, none⟩) (Kd.R_far (p := ⟨gb239, 1, none⟩) (Kd.R_far (p := ⟨gb239, 0, none⟩) (Kd.R_types HO238.out BK239.out (by decide)) (fun _ hk => hk.2) (.int .i64 (Go.bits .and .i64 a0 7))) (fun _ hk => hk.2) (.int .i64 (Go.bits .and .i64 a1 7))) (fun _ hk => hk.2) (.int .i64 (wrap64 ((Go.bits .and .i64 a1 7) + (Go.bits .and .i64 a2 3))))) (fun _ hk => hk.2) (.slice Ao11 y236.length co11)) (fun _ hk => trivial)⟩, ⟨by (with_reducible repeat (first | refine blk_drewN ?_ _ | refine blk_drew ?_ | refine blk_alloc ?_ _)); refine blk_far ?_ NB235_239.out _; (with_reducible repeat (first | refine blk_drewN ?_ _ | refine blk_drew ?_ | refine blk_alloc ?_ _)); refine blk_far ?_ NB235_239.out _; (with_reducible repeat (first | refine blk_drewN ?_ _ | refine blk_drew ?_ | refine blk_alloc ?_ _)); refine blk_far ?_ NB235_239.out _; (with_reducible repeat (first | refine blk_drewN ?_ _ | refine blk_drew ?_ | refine blk_alloc ?_ _)); refine blk_far ?_ NB235_239.out _; (with_reducible repeat (first | refine blk_drewN ?_ _ | refine blk_drew ?_ | refine blk_alloc ?_ _)); exact BK235.out⟩, ⟨by (with_reducible repeat (first | refine blk_drewN ?_ _ | refine blk_drew ?_ | refine blk_alloc ?_ _)); refine blk_put (cs := #[.int .i64 (Go.bits .and .i64 a0 7), .int .i64 (Go.bits .and .i64 a1 7), .int .i64 (wrap64 ((Go.bits .and .i64 a1 7) + (Go.bits .and .i64 a2 3))), .slice none 0 0]) ?_ 3 _ rfl; (with_reducible repeat (first | refine blk_drewN ?_ _ | refine blk_drew ?_ | refine blk_alloc ?_ _)); refine blk_put (cs := #[.int .i64 (Go.bits .and .i64 a0 7), .int .i64 (Go.bits .and .i64 a1 7), .int .i64 0, .slice none 0 0]) ?_ 2 _ rfl; (with_reducible repeat (first | refine blk_drewN ?_ _ | refine blk_drew ?_ | refine blk_alloc ?_ _)); refine blk_put (cs := #[.int .i64 (Go.bits .and .i64 a0 7), .int .i64 0, .int .i64 0, .slice none 0 0]) ?_ 1 _ rfl; (with_reducible repeat (first | refine blk_drewN ?_ _ | refine blk_drew ?_ | refine blk_alloc ?_ _)); refine blk_put (cs := #[.int .i64 0, .int .i64 0, .int .i64 0, .slice none 0 0]) ?_ 0 _ rfl; (with_reducible repeat (first | refine blk_drewN ?_ _ | refine blk_drew ?_ | refine blk_alloc ?_ _)); exact BK239.out⟩, ⟨bes⟩⟩
   case round =>
    clear H'
    try clear c1
    try clear p2
    try clear c3
    try clear c6
    try clear c6b0
    try clear c6b1
    try clear p6
    try clear c7
    try clear c7b0
    try clear c7b1
    try clear c8
    try clear c13
    try clear hcz14_0
    try clear hcz14_1
    try clear hcz14_2
    try clear hcz14_3
    try clear hfz14_0
    try clear hfz14_1
    try clear hfz14_2
    try clear hfz14_3
    obtain ⟨x33_1, x240003_1, u240003, rfl, HA, HK1, HO_240003, BK235, BK239, HB⟩ := hrel
    cases gk with
    | zero => exact absurd HA.out (by simp [gimballaw09_Made.l0])
    | succ k1 =>
     have H := HA.out
     clear HA
     simp only [gimballaw09_Made.l0] at H
     by_cases c15 : x33_1 < (y236.length : Int)
     ·
      rw [if_pos c15] at H
      have c15b0 : decide (x33_1 < (y236.length : Int)) = true := decide_eq_true c15
      clear c15
      by_cases c16 : 0 ≤ x33_1
      ·
       rw [if_pos c16] at H
       have c16b0 : decide (0 ≤ x33_1) = true := decide_eq_true c16
       clear c16
       by_cases c17 : x33_1 < (x240003_1.length : Int)
       ·
        rw [if_pos c17] at H
        have c17b0 : decide (x33_1 < (x240003_1.length : Int)) = true := decide_eq_true c17
        clear c17
        obtain ⟨y240, hy240⟩ : ∃ y_ : List Int, y_ = (x240003_1.set (x33_1 : Int).toNat 9221120237041090560) := ⟨_, rfl⟩
        replace H : (gimballaw09_Made.l0 k1 (Go.bits .and .i64 a0 7) (Go.bits .and .i64 a1 7) l3 (y236.length : Int) (wrap64 (x33_1 + 1)) (Go.bits .and .i64 a0 7) (Go.bits .and .i64 a1 7) (wrap64 ((Go.bits .and .i64 a1 7) + (Go.bits .and .i64 a2 3))) y240) = some (r1, r2, r3, r4) := by first | (rw [hy240]; with_reducible exact H) | (have H2_ := (Option.bind_some _ _).symm.trans H; rw [hy240]; with_reducible exact H2_) | (have H2_ := (Option.bind_some _ _).symm.trans H; with_reducible exact H2_) | with_reducible exact H | (rw [hy240]; exact H) | exact H
        have Ny240 := Aside0.mk hy240
        clear hy240
        have H' := Aside0.mk H
        clear H
        have hnb19 := NB239_235.out
        have hnc19 := NB235_239.out
        have hcz20_0 : wr.cell? ⟨gb239, 0, none⟩ = some (.int .i64 (Go.bits .and .i64 a0 7)) := (blk_cell BK239.out 0).trans rfl
        have hcz20_1 : wr.cell? ⟨gb239, 1, none⟩ = some (.int .i64 (Go.bits .and .i64 a1 7)) := (blk_cell BK239.out 1).trans rfl
        have hcz20_2 : wr.cell? ⟨gb239, 2, none⟩ = some (.int .i64 (wrap64 ((Go.bits .and .i64 a1 7) + (Go.bits .and .i64 a2 3)))) := (blk_cell BK239.out 2).trans rfl
        have hcz20_3 : wr.cell? ⟨gb239, 3, none⟩ = some (u240003) := (blk_cell BK239.out 3).trans rfl
        have hfz20_0 := blk_frozen BK239.out 0
        have hfz20_1 := blk_frozen BK239.out 1
        have hfz20_2 := blk_frozen BK239.out 2
        have hfz20_3 := blk_frozen BK239.out 3
        have p18 : 0 ≤ (x33_1 : Int) := of_decide_eq_true (by first | (with_reducible assumption) | assumption)
        have q18 : (x33_1 : Int) < ((x240003_1.length : Int) : Int) := of_decide_eq_true (by first | (with_reducible assumption) | assumption)
        obtain ⟨go18, co18, eo18, gb18, gl18, cl18, HG18⟩ := Kd.R_form HO_240003.out (by omega)
        (first | cases eo18 | (injection eo18 with ea_ en_ ec_; (first | subst ea_ | (injection ea_ with ea_; subst ea_)); subst ec_; clear en_))
        have GB18 := Aside0.mk gb18
        have GG18 := Aside0.mk HG18
        clear gb18 gl18 HG18
        obtain ⟨hx18_0, hf18_0⟩ := Kd.R_celln 0 HO_240003.out (x33_1 : Int) p18 q18
        replace p18 := eq_true p18
        replace q18 := eq_true q18
        have HP21 := Kd.R_putg HO_240003.out (x33_1 : Int) 9221120237041090560
        go_wp2_with (first | ((with_reducible refine gate_store (t := 30) (p := 39) rfl ?_); refine store_event (t := 30) (p := 39) (v := ?vo_w22) (w1 := (wr.setCell ⟨go18, (x33_1 : Int).toNat, none⟩ (.int .u64 9221120237041090560))) ?hg ?ho ?hn ?hr ?_; (case ho => rfl); (case hg => rfl); (case hn => rfl); (case hr => first | (go_simp; done) | (go_simp; rfl)); intro w22 hw; have hg : wr.grownBy w22 (some go18) := (by rw [hw]; exact HP21.2); have hp_ : Kd.R (Kd.int .u64) 30 w22 w.heap.size (fun _ => True) (.slice (some ⟨go18, 0, none⟩) x240003_1.length co18) y240 := (by rw [hw, Ny240.out]; exact HP21.1); clear HP21; have n0_ := Aside0.mk (hp_); have n1_ := Aside0.mk (blk_grown (g := gb235) (o := .cells #[.int .i64 0, .int .i64 0, .int .i64 0, .slice none 0 0] 25 (0, 0)) (kb BK235) hg (Kd.R_ne HO_240003.out BK235.out (by decide))); have n2_ := Aside0.mk (blk_grown (g := gb239) (o := .cells #[.int .i64 (Go.bits .and .i64 a0 7), .int .i64 (Go.bits .and .i64 a1 7), .int .i64 (wrap64 ((Go.bits .and .i64 a1 7) + (Go.bits .and .i64 a2 3))), .slice (some ⟨go18, 0, none⟩) x240003_1.length co18] 25 (0, 0)) (kb BK239) hg (Kd.R_ne HO_240003.out BK239.out (by decide))); have n3_ := Aside0.mk ((by rw [hw]; exact below_set (HB.out) GB18.out : Below w.heap.size w w22)); clear HO_240003; clear BK235; clear BK239; clear HB; have HO_240003 := n0_; have BK235 := n1_; have BK239 := n2_; have HB := n3_; clear n0_ n1_ n2_ n3_; clear hg hw hp_))
        go_roundg k1
        case measure => have := HK1.out; omega
        case rel => exact ⟨(wrap64 (x33_1 + 1)), (y240), (.slice (some ⟨go18, 0, none⟩) x240003_1.length co18), (by first | rfl | (simp; done) | (simp [*]; done)), H', ⟨by have := HK1.out; omega⟩, ⟨by (with_reducible repeat (first | apply Kd.R_alloc | apply Kd.R_drewN | apply Kd.R_drew)); exact HO_240003.out⟩, ⟨kb BK235⟩, ⟨kb BK239⟩, ⟨bes⟩⟩
       ·
        rw [if_neg c17] at H
        exact absurd H (by simp)
      ·
       rw [if_neg c16] at H
       exact absurd H (by simp)
     ·
      rw [if_neg c15] at H
      have c15b0 : decide (x33_1 < (y236.length : Int)) = false := decide_eq_false c15
      clear c15
      have H' := Aside0.mk H
      clear H
      go_wp2
      go_loopg [12] k1 (fun kq v12 w' => ∃ (x12_2 : Int) (x240003_2 : List Int) (u240003 : Value), v12 = .int .i64 x12_2 ∧ Aside0 (gimballaw09_Made.l1 kq (Go.bits .and .i64 a0 7) (Go.bits .and .i64 a1 7) l3 x12_2 (Go.bits .and .i64 a0 7) (Go.bits .and .i64 a1 7) (wrap64 ((Go.bits .and .i64 a1 7) + (Go.bits .and .i64 a2 3))) x240003_2 = some (r1, r2, r3, r4)) ∧ Aside0 (kq ≤ k1) ∧ Aside0 (Kd.R (Kd.int .u64) 30 w' w.heap.size (fun _ => True) u240003 x240003_2) ∧ Aside0 (w'.heap[gb235]? = some (.cells #[.int .i64 0, .int .i64 0, .int .i64 0, (.slice none 0 0)] 25 (0, 0))) ∧ Aside0 (w'.heap[gb239]? = some (.cells #[.int .i64 (Go.bits .and .i64 a0 7), .int .i64 (Go.bits .and .i64 a1 7), .int .i64 (wrap64 ((Go.bits .and .i64 a1 7) + (Go.bits .and .i64 a2 3))), u240003] 25 (0, 0))) ∧ Aside0 (Below w.heap.size w w'))
      case atStart => exact ⟨(0), (x240003_1), (u240003), (by first | rfl | (simp; done) | (simp [*]; done)), H', ⟨Nat.le_refl _⟩, ⟨by (with_reducible repeat (first | apply Kd.R_alloc | apply Kd.R_drewN | apply Kd.R_drew)); exact HO_240003.out⟩, ⟨kb BK235⟩, ⟨kb BK239⟩, ⟨bes⟩⟩
      case round =>
       clear H'
       try clear c1
       try clear p1
       try clear q1
       try clear hx1
       try clear p2
       try clear c3
       try clear c6
       try clear c6b0
       try clear c6b1
       try clear p6
       try clear c7
       try clear c7b0
       try clear c7b1
       try clear c8
       try clear c13
       try clear c15
       try clear c15b0
       try clear c16
       try clear c16b0
       try clear c17
       try clear c17b0
       try clear p18
       try clear q18
       try clear hx18
       try clear hf18
       try clear c19
       try clear hcz14_0
       try clear hcz14_1
       try clear hcz14_2
       try clear hcz14_3
       try clear hcz20_0
       try clear hcz20_1
       try clear hcz20_2
       try clear hcz20_3
       try clear hfz14_0
       try clear hfz14_1
       try clear hfz14_2
       try clear hfz14_3
       try clear hfz20_0
       try clear hfz20_1
       try clear hfz20_2
       try clear hfz20_3
       try clear hx18_0
       try clear p18
       try clear p2
       try clear p6
       try clear q18
       obtain ⟨x12_2, x240003_2, u240003, rfl, HA, HK2, HO_240003, BK235, BK239, HB⟩ := hrel
       cases gk with
       | zero => exact absurd HA.out (by simp [gimballaw09_Made.l1])
       | succ k2 =>
        have H := HA.out
        clear HA
        simp only [gimballaw09_Made.l1] at H
        by_cases c23 : x12_2 < (Go.bits .and .i64 a0 7)
        ·
         rw [if_pos c23] at H
         have c23b0 : decide (x12_2 < (Go.bits .and .i64 a0 7)) = true := decide_eq_true c23
         clear c23
         have H' := Aside0.mk H
         clear H
         go_wp2
         go_loopg [13] k2 (fun kq v13 w' => ∃ (x13_3 : Int) (x240003_3 : List Int) (u240003 : Value), v13 = .int .i64 x13_3 ∧ Aside0 (gimballaw09_Made.l2 kq (Go.bits .and .i64 a0 7) (Go.bits .and .i64 a1 7) l3 x12_2 x13_3 (Go.bits .and .i64 a0 7) (Go.bits .and .i64 a1 7) (wrap64 ((Go.bits .and .i64 a1 7) + (Go.bits .and .i64 a2 3))) x240003_3 = some (r1, r2, r3, r4)) ∧ Aside0 (kq ≤ k2) ∧ Aside0 (Kd.R (Kd.int .u64) 30 w' w.heap.size (fun _ => True) u240003 x240003_3) ∧ Aside0 (w'.heap[gb235]? = some (.cells #[.int .i64 0, .int .i64 0, .int .i64 0, (.slice none 0 0)] 25 (0, 0))) ∧ Aside0 (w'.heap[gb239]? = some (.cells #[.int .i64 (Go.bits .and .i64 a0 7), .int .i64 (Go.bits .and .i64 a1 7), .int .i64 (wrap64 ((Go.bits .and .i64 a1 7) + (Go.bits .and .i64 a2 3))), u240003] 25 (0, 0))) ∧ Aside0 (Below w.heap.size w w'))
         case atStart => exact ⟨(0), (x240003_2), (u240003), (by first | rfl | (simp; done) | (simp [*]; done)), H', ⟨Nat.le_refl _⟩, ⟨by (with_reducible repeat (first | apply Kd.R_alloc | apply Kd.R_drewN | apply Kd.R_drew)); exact HO_240003.out⟩, ⟨kb BK235⟩, ⟨kb BK239⟩, ⟨bes⟩⟩
         case round =>
          clear H'
          try clear c1
          try clear p1
          try clear q1
          try clear hx1
          try clear c2
          try clear p2
          try clear c3
          try clear c6
          try clear c6b0
          try clear c6b1
          try clear p6
          try clear c7
          try clear c7b0
          try clear c7b1
          try clear c8
          try clear c13
          try clear c15
          try clear c15b0
          try clear c16
          try clear c16b0
          try clear c17
          try clear c17b0
          try clear p18
          try clear q18
          try clear hx18
          try clear hf18
          try clear c19
          try clear c23
          try clear c23b0
          try clear hcz14_0
          try clear hcz14_1
          try clear hcz14_2
          try clear hcz14_3
          try clear hcz20_0
          try clear hcz20_1
          try clear hcz20_2
          try clear hcz20_3
          try clear hfz14_0
          try clear hfz14_1
          try clear hfz14_2
          try clear hfz14_3
          try clear hfz20_0
          try clear hfz20_1
          try clear hfz20_2
          try clear hfz20_3
          try clear hx18_0
          try clear p1
          try clear p18
          try clear p2
          try clear p6
          try clear q1
          try clear q18
          obtain ⟨x13_3, x240003_3, u240003, rfl, HA, HK3, HO_240003, BK235, BK239, HB⟩ := hrel
          cases gk with
          | zero => exact absurd HA.out (by simp [gimballaw09_Made.l2])
          | succ k3 =>
           have H := HA.out
           clear HA
           simp only [gimballaw09_Made.l2] at H
           by_cases c24 : x13_3 < (Go.bits .and .i64 a1 7)
           ·
            rw [if_pos c24] at H
            have c24b0 : decide (x13_3 < (Go.bits .and .i64 a1 7)) = true := decide_eq_true c24
            clear c24
            by_cases c25 : (l3.length : Int) > 0
            ·
             rw [if_pos c25] at H
             have c25b0 : decide (0 < (l3.length : Int)) = true := decide_eq_true c25
             have c25b1 : decide (0 < l3.length) = true := decide_eq_true (by omega)
             clear c25
             by_cases c26 : (l3.length : Int) = 0
             ·
              rw [if_pos c26] at H
              exact absurd H (by simp)
             ·
              rw [if_neg c26] at H
              have c26b0 : ((l3.length : Int) == 0) = false := beq_eq_false_iff_ne.mpr c26
              have c26b1 : ((l3.length : Int) != 0) = true := bne_iff_ne.mpr c26
              have c26b2 : ¬ (l3 = []) := fun h_ => c26 (by rw [h_]; rfl)
              obtain ⟨ji27, hji27⟩ : ∃ j_ : Int, (Int.tmod (wrap64 ((wrap64 (x12_2 * (Go.bits .and .i64 a1 7))) + x13_3)) (l3.length : Int)) = j_ := ⟨_, rfl⟩
              replace H : (if 0 ≤ (ji27) then (if (ji27) < (l3.length : Int) then ((mat_Matrix_Set.f (Go.bits .and .i64 a0 7) (Go.bits .and .i64 a1 7) (wrap64 ((Go.bits .and .i64 a1 7) + (Go.bits .and .i64 a2 3))) x240003_3 x12_2 x13_3 (rd l3 (ji27))).bind fun t242 => (gimballaw09_Made.l2 k3 (Go.bits .and .i64 a0 7) (Go.bits .and .i64 a1 7) l3 x12_2 (wrap64 (x13_3 + 1)) (Go.bits .and .i64 a0 7) (Go.bits .and .i64 a1 7) (wrap64 ((Go.bits .and .i64 a1 7) + (Go.bits .and .i64 a2 3))) t242)) else (none)) else (none)) = some (r1, r2, r3, r4) := by first | (rw [hji27] at H; exact H) | (simp only [hji27] at H ⊢; exact H)
              by_cases c28 : 0 ≤ (ji27)
              ·
               rw [if_pos c28] at H
               have c28b0 : decide (0 ≤ (ji27)) = true := decide_eq_true c28
               clear c28
               by_cases c29 : (ji27) < (l3.length : Int)
               ·
                rw [if_pos c29] at H
                have c29b0 : decide ((ji27) < (l3.length : Int)) = true := decide_eq_true c29
                clear c29
                obtain ⟨t242, A300, H⟩ := Option.bind_eq_some_iff.mp H
                (try dsimp -simprocs only at H)
                have A30 := Aside0.mk A300
                clear A300
                have H' := Aside0.mk H
                clear H
                try go_wp2
                have n0_ := Aside0.mk (Kd.R_drew HO_240003.out)
                have n1_ := Aside0.mk (blk_drew BK235.out)
                have n2_ := Aside0.mk (blk_drew BK239.out)
                have n3_ := Aside0.mk (below_drew1 HB.out)
                clear HO_240003
                clear BK235
                clear BK239
                clear HB
                have HO_240003 := n0_
                have BK235 := n1_
                have BK239 := n2_
                have HB := n3_
                clear n0_ n1_ n2_ n3_
                have p241 : 0 ≤ ((ji27) : Int) := of_decide_eq_true (by first | (with_reducible assumption) | assumption)
                have q241 : (ji27) < (l3.length : Int) := of_decide_eq_true (by first | (with_reducible assumption) | assumption)
                obtain ⟨ad241, e241, hx241_0⟩ := Kd.at_int HR3.out (ji27) p241 q241
                have hw241_0 := hx241_0
                cases e241
                replace hx241_0 := (HB.out.cell (World.block_lt_of_cell? w _ hx241_0)).trans hx241_0
                replace p241 := eq_true p241
                replace q241 := eq_true q241
                obtain ⟨Ao32, co32, eo32⟩ := Kd.R_slice HO_240003.out
                (first | subst eo32 | (injection eo32 with f1_ f2_ f3_; have f4_ := f1_.symm; have f5_ := f3_.symm; clear f1_ f2_ f3_; subst f4_; subst f5_))
                refine start_ (n := 15) (S := fun w' => w'.cell? ⟨gb239, 0, none⟩ = some (.int .i64 (Go.bits .and .i64 a0 7)) ∧ w'.cell? ⟨gb239, 1, none⟩ = some (.int .i64 (Go.bits .and .i64 a1 7)) ∧ w'.cell? ⟨gb239, 2, none⟩ = some (.int .i64 (wrap64 ((Go.bits .and .i64 a1 7) + (Go.bits .and .i64 a2 3)))) ∧ w'.cell? ⟨gb239, 3, none⟩ = some (.slice Ao32 x240003_3.length co32) ∧ w'.cell? (ad241.add ((ji27)).toNat) = some (.int .u64 (rd l3 (ji27)))) (ds := []) #[false, false, false, false, false, false, false, false, false, false, false, false, false, false, false] (by kernel_rfl) rfl rfl ⟨(blk_cell BK239.out 0).trans rfl, (blk_cell BK239.out 1).trans rfl, (blk_cell BK239.out 2).trans rfl, (blk_cell BK239.out 3).trans rfl, ((HB.out.cell (World.block_lt_of_cell? w _ hw241_0)).trans hw241_0)⟩ (fun hHeld => ?_); refine with_tabW gimballaw09_Made.tab17 gimballaw09_Made.bits17 (fun HT_ HW_ => ?_)
                generalize wr.drew = w31 at HO_240003 BK235 BK239 HB hx241_0 hHeld ⊢
                refine pure_ (i := 1) (N := some 55) (v := ?_) (a' := ?_) #[false, true, false, false, false, false, false, false, false, false, false, false, false, false, false] rfl rfl (any_of HT_.out (by kernel_rfl)) (fun _ _ _ h => h) (Or.inl ⟨by rfl, ?_⟩) ?_ ?_
                rotate_left
                ·
                 intro w'
                 go_simp
                 with_reducible rfl
                rotate_left
                ·
                 simp only [Act.put, List.setIfInBounds_toArray, List.set_cons_zero, List.set_cons_succ, i64_w, i32_w]
                 rfl
                refine pure_ (i := 2) (N := some 56) (v := ?_) (a' := ?_) #[false, true, true, false, false, false, false, false, false, false, false, false, false, false, false] rfl rfl (any_of HT_.out (by kernel_rfl)) (fun _ _ _ h => h) (Or.inl ⟨by rfl, ?_⟩) ?_ ?_
                rotate_left
                ·
                 intro w'
                 go_simp
                 with_reducible rfl
                rotate_left
                ·
                 simp only [Act.put, List.setIfInBounds_toArray, List.set_cons_zero, List.set_cons_succ, i64_w, i32_w]
                 rfl
                refine pure_ (i := 3) (N := some 57) (v := ?_) (a' := ?_) #[false, true, true, true, false, false, false, false, false, false, false, false, false, false, false] rfl rfl (any_of HT_.out (by kernel_rfl)) (fun _ _ _ h => h) (Or.inl ⟨by rfl, ?_⟩) ?_ ?_
                rotate_left
                ·
                 intro w'
                 go_simp
                 with_reducible rfl
                rotate_left
                ·
                 simp only [Act.put, List.setIfInBounds_toArray, List.set_cons_zero, List.set_cons_succ, i64_w, i32_w]
                 rfl
                refine pure_ (i := 4) (N := some 58) (v := ?_) (a' := ?_) #[false, true, true, true, true, false, false, false, false, false, false, false, false, false, false] rfl rfl (any_of HT_.out (by kernel_rfl)) (fun _ _ _ h => h) (Or.inl ⟨by rfl, ?_⟩) ?_ ?_
                rotate_left
                ·
                 intro w'
                 go_simp
                 with_reducible rfl
                rotate_left
                ·
                 simp only [Act.put, List.setIfInBounds_toArray, List.set_cons_zero, List.set_cons_succ, i64_w, i32_w]
                 rfl
                refine pure_ (i := 5) (N := some 59) (v := ?_) (a' := ?_) #[false, true, true, true, true, true, false, false, false, false, false, false, false, false, false] rfl rfl (any_of HT_.out (by kernel_rfl)) (fun _ _ _ h => h) (Or.inl ⟨by rfl, ?_⟩) ?_ ?_
                rotate_left
                ·
                 intro w'
                 go_simp
                 with_reducible rfl
                rotate_left
                ·
                 simp only [Act.put, List.setIfInBounds_toArray, List.set_cons_zero, List.set_cons_succ, i64_w, i32_w]
                 rfl
                refine pure_ (i := 6) (N := some 60) (v := ?_) (a' := ?_) #[false, true, true, true, true, true, true, false, false, false, false, false, false, false, false] rfl rfl (any_of HT_.out (by kernel_rfl)) (fun _ _ _ h => h) (Or.inl ⟨by rfl, ?_⟩) ?_ ?_
                rotate_left
                ·
                 intro w'
                 go_simp
                 with_reducible rfl
                rotate_left
                ·
                 simp only [Act.put, List.setIfInBounds_toArray, List.set_cons_zero, List.set_cons_succ, i64_w, i32_w]
                 rfl
                refine pure_ (i := 7) (N := some 61) (v := ?_) (a' := ?_) #[false, true, true, true, true, true, true, true, false, false, false, false, false, false, false] rfl rfl (any_of HT_.out (by kernel_rfl)) (fun _ _ _ h => h) (Or.inl ⟨by rfl, ?_⟩) ?_ ?_
                rotate_left
                ·
                 intro w'
                 go_simp
                 with_reducible rfl
                rotate_left
                ·
                 simp only [Act.put, List.setIfInBounds_toArray, List.set_cons_zero, List.set_cons_succ, i64_w, i32_w]
                 rfl
                refine pure_ (i := 8) (N := some 62) (v := ?_) (a' := ?_) #[false, true, true, true, true, true, true, true, true, false, false, false, false, false, false] rfl rfl (any_of HT_.out (by kernel_rfl)) (fun _ _ _ h => h) (Or.inl ⟨by rfl, ?_⟩) ?_ ?_
                rotate_left
                ·
                 intro w'
                 go_simp
                 with_reducible rfl
                rotate_left
                ·
                 simp only [Act.put, List.setIfInBounds_toArray, List.set_cons_zero, List.set_cons_succ, i64_w, i32_w]
                 rfl
                refine pure_ (i := 9) (N := some 63) (v := ?_) (a' := ?_) #[false, true, true, true, true, true, true, true, true, true, false, false, false, false, false] rfl rfl (any_of HT_.out (by kernel_rfl)) (fun _ _ _ h => h) (Or.inl ⟨by rfl, ?_⟩) ?_ ?_
                rotate_left
                ·
                 intro w'
                 go_simp
                 with_reducible rfl
                rotate_left
                ·
                 simp only [Act.put, List.setIfInBounds_toArray, List.set_cons_zero, List.set_cons_succ, i64_w, i32_w]
                 rfl
                refine pure_ (i := 10) (N := some 64) (v := ?_) (a' := ?_) #[false, true, true, true, true, true, true, true, true, true, true, false, false, false, false] rfl rfl (any_of HT_.out (by kernel_rfl)) (fun _ _ _ h => h) (Or.inl ⟨by rfl, ?_⟩) ?_ ?_
                rotate_left
                ·
                 intro w'
                 go_simp
                 with_reducible rfl
                rotate_left
                ·
                 simp only [Act.put, List.setIfInBounds_toArray, List.set_cons_zero, List.set_cons_succ, i64_w, i32_w]
                 rfl
                refine pure_ (i := 11) (N := some 65) (v := ?_) (a' := ?_) #[false, true, true, true, true, true, true, true, true, true, true, true, false, false, false] rfl rfl (any_of HT_.out (by kernel_rfl)) (fun _ _ _ h => h) (Or.inl ⟨by rfl, ?_⟩) ?_ ?_
                rotate_left
                ·
                 intro w'
                 go_simp
                 with_reducible rfl
                rotate_left
                ·
                 simp only [Act.put, List.setIfInBounds_toArray, List.set_cons_zero, List.set_cons_succ, i64_w, i32_w]
                 rfl
                refine pure_ (i := 12) (N := some 66) (v := ?_) (a' := ?_) #[false, true, true, true, true, true, true, true, true, true, true, true, true, false, false] rfl rfl (any_of HT_.out (by kernel_rfl)) (fun _ _ _ h => h) (Or.inl ⟨by rfl, ?_⟩) ?_ ?_
                rotate_left
                ·
                 intro w'
                 go_simp
                 with_reducible rfl
                rotate_left
                ·
                 simp only [Act.put, List.setIfInBounds_toArray, List.set_cons_zero, List.set_cons_succ, i64_w, i32_w]
                 rfl
                refine take_ (i := 0) (N := some 54) (v := ?_) (a' := ?_) #[true, true, true, true, true, true, true, true, true, true, true, true, true, false, false] rfl rfl (take_ofW HT_.out HW_.out (by kernel_rfl)) (fun _ _ _ h => h) (Or.inl ⟨by rfl, ?_⟩) hHeld ?_ ?_
                rotate_left
                ·
                 rintro w' ⟨s0, s1, s2, s3, s4⟩
                 go_simp
                 with_reducible rfl
                rotate_left
                ·
                 simp only [Act.put, List.setIfInBounds_toArray, List.set_cons_zero, List.set_cons_succ, i64_w, i32_w]
                 rfl
                refine take_ (i := 13) (N := some 67) (v := ?_) (a' := ?_) #[true, true, true, true, true, true, true, true, true, true, true, true, true, true, false] rfl rfl (take_ofW HT_.out HW_.out (by kernel_rfl)) (fun _ _ _ h => h) (Or.inl ⟨by rfl, ?_⟩) hHeld ?_ ?_
                rotate_left
                ·
                 rintro w' ⟨s0, s1, s2, s3, s4⟩
                 go_simp
                 with_reducible rfl
                rotate_left
                ·
                 simp only [Act.put, List.setIfInBounds_toArray, List.set_cons_zero, List.set_cons_succ, i64_w, i32_w]
                 rfl
                refine one_ (i := 14) (N := some 68) #[true, true, true, true, true, true, true, true, true, true, true, true, true, true, true] rfl rfl (one_of HT_.out (by kernel_rfl)) (by decide) (fun K hK => ?_)
                refine goes_ Try.func14 (by kernel_rfl) rfl #[.agg #[.int .i64 (Go.bits .and .i64 a0 7), .int .i64 (Go.bits .and .i64 a1 7), .int .i64 (wrap64 ((Go.bits .and .i64 a1 7) + (Go.bits .and .i64 a2 3))), .slice Ao32 x240003_3.length co32], .int .i64 x12_2, .int .i64 x13_3, .int .u64 (rd l3 (ji27))] (by rfl) rfl rfl (by (try simp only [List.map_toArray, List.map_cons, List.map_nil]); first | done | (simp only [hji27]; rfl) | rfl | (simp only [List.length_drop, List.length_take]; rfl)) ?_
                with_reducible refine (mat_Matrix_Set.calls (Go.bits .and .i64 a0 7) (Go.bits .and .i64 a1 7) (wrap64 ((Go.bits .and .i64 a1 7) + (Go.bits .and .i64 a2 3))) (fun k_ => some k_ = (.slice Ao32 x240003_3.length co32 : Value).ownBlock) (.slice Ao32 x240003_3.length co32) x240003_3 x12_2 x13_3 (rd l3 (ji27)) t242 w _ ?side1 ?side2 A30.out).mono ?_
                (case side1 => repeat (first | (with_reducible first | exact HB.out | apply below_alloc | apply pw_below_drewN | apply below_drew1 | refine below_set ?_ GE235.out | refine below_set ?_ GE239.out) | exact HB.out))
                (case side2 => exact Kd.R_tight rfl HO_240003.out)
                rintro e w33 ⟨rfl, hy0, hb, hkp⟩
                refine ⟨_, rfl, ?_⟩
                have n0_ := Aside0.mk (Kd.R_reok rfl hy0 (fun k_ e_ => HO_240003.out.1 k_ e_))
                have n1_ := Aside0.mk (blk_kept (kb BK235) hkp (fun hs_ => (fun e_ => (Kd.R_ne HO_240003.out BK235.out (by decide)) e_) hs_))
                have n2_ := Aside0.mk (blk_kept (kb BK239) hkp (fun hs_ => (fun e_ => (Kd.R_ne HO_240003.out BK239.out (by decide)) e_) hs_))
                have n3_ := Aside0.mk (hb)
                clear HO_240003
                clear BK235
                clear BK239
                clear HB
                have HO_240003 := n0_
                have BK235 := n1_
                have BK239 := n2_
                have HB := n3_
                clear n0_ n1_ n2_ n3_
                (try clear hb)
                (try clear hkp)
                (try clear hy0)
                refine hK.out _ _ ⟨(blk_cell BK239.out 0).trans rfl, (blk_cell BK239.out 1).trans rfl, (blk_cell BK239.out 2).trans rfl, (blk_cell BK239.out 3).trans rfl, ((HB.out.cell (World.block_lt_of_cell? w _ hw241_0)).trans hw241_0)⟩ (fun hHeld => ?_)
                clear hK K
                refine norm_ (a' := ?_) ?_ ?_
                rotate_left
                ·
                 show Act.put _ (some 68) _ = _
                 simp only [Act.put, List.setIfInBounds_toArray, List.set_cons_zero, List.set_cons_succ, i64_w, i32_w]
                 rfl
                refine done_ (done_of HT_.out (by kernel_rfl)) ?_
                try go_wp2
                go_roundg k3
                case measure => have := HK1.out; have := HK2.out; have := HK3.out; omega
                case rel => exact ⟨(wrap64 (x13_3 + 1)), (t242), (.slice Ao32 x240003_3.length co32), (by first | rfl | (simp; done) | (simp [*]; done)), H', ⟨by have := HK1.out; have := HK2.out; have := HK3.out; omega⟩, ⟨by (with_reducible repeat (first | apply Kd.R_alloc | apply Kd.R_drewN | apply Kd.R_drew)); exact HO_240003.out⟩, ⟨kb BK235⟩, ⟨kb BK239⟩, ⟨bes⟩⟩
               ·
                rw [if_neg c29] at H
                exact absurd H (by simp)
              ·
               rw [if_neg c28] at H
               exact absurd H (by simp)
            ·
             rw [if_neg c25] at H
             have c25b0 : decide (0 < (l3.length : Int)) = false := decide_eq_false c25
             have c25b1 : decide (0 < l3.length) = false := decide_eq_false (by omega)
             clear c25
             obtain ⟨t243, A340, H⟩ := Option.bind_eq_some_iff.mp H
             (try dsimp -simprocs only at H)
             have A34 := Aside0.mk A340
             clear A340
             have H' := Aside0.mk H
             clear H
             have hnb35 := NB239_235.out
             have hnc35 := NB235_239.out
             have hcz36_0 : wr.cell? ⟨gb239, 0, none⟩ = some (.int .i64 (Go.bits .and .i64 a0 7)) := (blk_cell BK239.out 0).trans rfl
             have hcz36_1 : wr.cell? ⟨gb239, 1, none⟩ = some (.int .i64 (Go.bits .and .i64 a1 7)) := (blk_cell BK239.out 1).trans rfl
             have hcz36_2 : wr.cell? ⟨gb239, 2, none⟩ = some (.int .i64 (wrap64 ((Go.bits .and .i64 a1 7) + (Go.bits .and .i64 a2 3)))) := (blk_cell BK239.out 2).trans rfl
             have hcz36_3 : wr.cell? ⟨gb239, 3, none⟩ = some (u240003) := (blk_cell BK239.out 3).trans rfl
             have hfz36_0 := blk_frozen BK239.out 0
             have hfz36_1 := blk_frozen BK239.out 1
             have hfz36_2 := blk_frozen BK239.out 2
             have hfz36_3 := blk_frozen BK239.out 3
             obtain ⟨Ao37, co37, eo37⟩ := Kd.R_slice HO_240003.out
             subst eo37
             go_wp2_with (first | ((with_reducible refine gate_callee (f := 14) rfl ?_); refine goesL_ (some 72) rfl rfl Try.func14 (by kernel_rfl) rfl #[.agg #[.int .i64 (Go.bits .and .i64 a0 7), .int .i64 (Go.bits .and .i64 a1 7), .int .i64 (wrap64 ((Go.bits .and .i64 a1 7) + (Go.bits .and .i64 a2 3))), .slice Ao37 x240003_3.length co37], .int .i64 x12_2, .int .i64 x13_3, .int .u64 0] rfl ga ?_; (with_reducible refine (mat_Matrix_Set.calls (Go.bits .and .i64 a0 7) (Go.bits .and .i64 a1 7) (wrap64 ((Go.bits .and .i64 a1 7) + (Go.bits .and .i64 a2 3))) (fun k_ => some k_ = (.slice Ao37 x240003_3.length co37 : Value).ownBlock) (.slice Ao37 x240003_3.length co37) x240003_3 x12_2 x13_3 0 t243 w _ ?side1 ?side2 A34.out).mono ?_); (case side1 => repeat (first | (with_reducible first | exact HB.out | apply below_alloc | apply pw_below_drewN | apply below_drew1 | refine below_set ?_ GE235.out | refine below_set ?_ GE239.out) | exact HB.out)); (case side2 => exact Kd.R_tight rfl HO_240003.out); rintro e w38 ⟨rfl, hy0, hb, hkp⟩; refine ⟨_, rfl, ?_⟩; have n0_ := Aside0.mk (Kd.R_reok rfl hy0 (fun k_ e_ => HO_240003.out.1 k_ e_)); have n1_ := Aside0.mk (blk_kept (kb BK235) hkp (fun hs_ => (fun e_ => (Kd.R_ne HO_240003.out BK235.out (by decide)) e_) hs_)); have n2_ := Aside0.mk (blk_kept (kb BK239) hkp (fun hs_ => (fun e_ => (Kd.R_ne HO_240003.out BK239.out (by decide)) e_) hs_)); have n3_ := Aside0.mk (hb); clear HO_240003; clear BK235; clear BK239; clear HB; have HO_240003 := n0_; have BK235 := n1_; have BK239 := n2_; have HB := n3_; clear n0_ n1_ n2_ n3_; (try clear hb); (try clear hkp); (try clear hy0)))
             go_roundg k3
             case measure => have := HK1.out; have := HK2.out; have := HK3.out; omega
             case rel => exact ⟨(wrap64 (x13_3 + 1)), (t243), (.slice Ao37 x240003_3.length co37), (by first | rfl | (simp; done) | (simp [*]; done)), H', ⟨by have := HK1.out; have := HK2.out; have := HK3.out; omega⟩, ⟨by (with_reducible repeat (first | apply Kd.R_alloc | apply Kd.R_drewN | apply Kd.R_drew)); exact HO_240003.out⟩, ⟨kb BK235⟩, ⟨kb BK239⟩, ⟨bes⟩⟩
           ·
            rw [if_neg c24] at H
            have c24b0 : decide (x13_3 < (Go.bits .and .i64 a1 7)) = false := decide_eq_false c24
            clear c24
            have H' := Aside0.mk H
            clear H
            go_wp2
            go_roundg k3
            case measure => have := HK1.out; have := HK2.out; have := HK3.out; omega
            case rel => exact ⟨(wrap64 (x12_2 + 1)), (x240003_3), (u240003), (by first | rfl | (simp; done) | (simp [*]; done)), H', ⟨by have := HK1.out; have := HK2.out; have := HK3.out; omega⟩, ⟨by (with_reducible repeat (first | apply Kd.R_alloc | apply Kd.R_drewN | apply Kd.R_drew)); exact HO_240003.out⟩, ⟨kb BK235⟩, ⟨kb BK239⟩, ⟨bes⟩⟩
        ·
         rw [if_neg c23] at H
         have c23b0 : decide (x12_2 < (Go.bits .and .i64 a0 7)) = false := decide_eq_false c23
         clear c23
         simp only [Option.some.injEq, Prod.mk.injEq] at H
         obtain ⟨rfl, rfl, rfl, rfl⟩ := H
         have hnb39 := NB239_235.out
         have hnc39 := NB235_239.out
         have hcz40_0 : wr.cell? ⟨gb239, 0, none⟩ = some (.int .i64 (Go.bits .and .i64 a0 7)) := (blk_cell BK239.out 0).trans rfl
         have hcz40_1 : wr.cell? ⟨gb239, 1, none⟩ = some (.int .i64 (Go.bits .and .i64 a1 7)) := (blk_cell BK239.out 1).trans rfl
         have hcz40_2 : wr.cell? ⟨gb239, 2, none⟩ = some (.int .i64 (wrap64 ((Go.bits .and .i64 a1 7) + (Go.bits .and .i64 a2 3)))) := (blk_cell BK239.out 2).trans rfl
         have hcz40_3 : wr.cell? ⟨gb239, 3, none⟩ = some (u240003) := (blk_cell BK239.out 3).trans rfl
         have hfz40_0 := blk_frozen BK239.out 0
         have hfz40_1 := blk_frozen BK239.out 1
         have hfz40_2 := blk_frozen BK239.out 2
         have hfz40_3 := blk_frozen BK239.out 3
         have hcz41_0 : wr.cell? ⟨gb235, 0, none⟩ = some (.int .i64 0) := (blk_cell BK235.out 0).trans rfl
         have hcz41_1 : wr.cell? ⟨gb235, 1, none⟩ = some (.int .i64 0) := (blk_cell BK235.out 1).trans rfl
         have hcz41_2 : wr.cell? ⟨gb235, 2, none⟩ = some (.int .i64 0) := (blk_cell BK235.out 2).trans rfl
         have hcz41_3 : wr.cell? ⟨gb235, 3, none⟩ = some (.slice none 0 0) := (blk_cell BK235.out 3).trans rfl
         have hfz41_0 := blk_frozen BK235.out 0
         have hfz41_1 := blk_frozen BK235.out 1
         have hfz41_2 := blk_frozen BK235.out 2
         have hfz41_3 := blk_frozen BK235.out 3
         obtain ⟨Ao42, co42, eo42⟩ := Kd.R_slice HO_240003.out
         subst eo42
         go_wp2
         refine bodyPost_ret (results_cell_row rfl _ _ gb235 25 #[.int .i64 (Go.bits .and .i64 a0 7), .int .i64 (Go.bits .and .i64 a1 7), .int .i64 (wrap64 ((Go.bits .and .i64 a1 7) + (Go.bits .and .i64 a2 3))), .slice Ao42 x240003_2.length co42] (0, 0) _ rfl (by (with_reducible repeat (first | refine blk_drewN ?_ _ | refine blk_drew ?_ | refine blk_alloc ?_ _)); refine blk_put (cs := #[.int .i64 (Go.bits .and .i64 a0 7), .int .i64 (Go.bits .and .i64 a1 7), .int .i64 (wrap64 ((Go.bits .and .i64 a1 7) + (Go.bits .and .i64 a2 3))), .slice none 0 0]) ?_ 3 _ rfl; (with_reducible repeat (first | refine blk_drewN ?_ _ | refine blk_drew ?_ | refine blk_alloc ?_ _)); refine blk_put (cs := #[.int .i64 (Go.bits .and .i64 a0 7), .int .i64 (Go.bits .and .i64 a1 7), .int .i64 0, .slice none 0 0]) ?_ 2 _ rfl; (with_reducible repeat (first | refine blk_drewN ?_ _ | refine blk_drew ?_ | refine blk_alloc ?_ _)); refine blk_put (cs := #[.int .i64 (Go.bits .and .i64 a0 7), .int .i64 0, .int .i64 0, .slice none 0 0]) ?_ 1 _ rfl; (with_reducible repeat (first | refine blk_drewN ?_ _ | refine blk_drew ?_ | refine blk_alloc ?_ _)); refine blk_put (cs := #[.int .i64 0, .int .i64 0, .int .i64 0, .slice none 0 0]) ?_ 0 _ rfl; (with_reducible repeat (first | refine blk_drewN ?_ _ | refine blk_drew ?_ | refine blk_alloc ?_ _)); exact BK235.out) Try.underlying25 rfl (by kernel_rfl)) rfl ?_
         exact ⟨_, by first | rfl | (simp [errW_none, errW_some] <;> rfl) | (simp only [← hji5]; first | rfl | (simp [errW_none, errW_some] <;> rfl)) | (simp [*, errW_none, errW_some] <;> rfl), by (with_reducible repeat (first | apply Kd.R_alloc | apply Kd.R_drewN | apply Kd.R_drew)); exact Kd.R_mono (Kd.R_far (p := ⟨gb235, 3, none⟩) (Kd.R_far (p := ⟨gb235, 2, none⟩) (Kd.R_far (p := ⟨gb235, 1, none⟩) (Kd.R_far (p := ⟨gb235, 0, none⟩) (Kd.R_types HO_240003.out BK235.out (by decide)) (fun _ hk => hk.2) (.int .i64 (Go.bits .and .i64 a0 7))) (fun _ hk => hk.2) (.int .i64 (Go.bits .and .i64 a1 7))) (fun _ hk => hk.2) (.int .i64 (wrap64 ((Go.bits .and .i64 a1 7) + (Go.bits .and .i64 a2 3))))) (fun _ hk => hk.2) (.slice Ao42 x240003_2.length co42)) (fun _ hk => trivial), bes⟩
  ·
   rw [if_neg c7] at H
   exact absurd H (by simp)
 ·
  rw [if_neg c6] at H
  exact absurd H (by simp)

end Go.Proofs.Ytenegelkbfmjkaa.F
