-- Written by a program of this seat's session (mkprint), out of the translation.
import Derived.Test.YtenegelkbfmjkaaShort
import Derived.Test.YtenegelkbfmjkaaFx0
import Derived.Test.YtenegelkbfmjkaaFx2
import Derived.Test.YtenegelkbfmjkaaFx6
namespace Go.Proofs.Ytenegelkbfmjkaa.F
open Go.RowKit Go.Proofs.YtenegelkbfmjkaaW.PrintWords Go.Proofs.YtenegelkbfmjkaaW.PrintLast Go.Proofs.YtenegelkbfmjkaaW.PrintMore
attribute [local go_sem] max2_int min2_int max_two min_two max_three min_three max_four min_four   -- for this text's walks alone
set_option linter.unusedVariables false
set_option linter.unusedSimpArgs false

/-! ### mat_Matrix_Cut: function 13 -/
mutual
def mat_Matrix_Cut.j0 : Nat → Int → Int → Int → Int → Bool → Int → Int → Int → List Int → Option (Int × Int × Int × List Int × Int)
 | 0, _, _, _, _, _, _, _, _, _ => none
 | k + 1, x1, x2, x3, x4, x49, x267000, x267001, x267002, x267003 => if x49 = true then (some (0, 0, 0, ([] : List Int), 4)) else ((mat_New.f x3 x4).bind fun bt269 => (mat_Matrix_Cut.l0 k x1 x2 x4 x3 0 x267000 x267001 x267002 x267003 bt269.1 bt269.2.1 bt269.2.2.1 bt269.2.2.2))
def mat_Matrix_Cut.l0 : Nat → Int → Int → Int → Int → Int → Int → Int → Int → List Int → Int → Int → Int → List Int → Option (Int × Int × Int × List Int × Int)
 | 0, _, _, _, _, _, _, _, _, _, _, _, _, _ => none
 | k + 1, x1, x2, x4, x54, x55, x267000, x267001, x267002, x267003, x276000, x276001, x276002, x276003 => if x55 < x54 then (mat_Matrix_Cut.l1 k x1 x2 x4 x55 x54 x55 x4 0 x267000 x267001 x267002 x267003 x276000 x276001 x276002 x276003) else (some (x276000, x276001, x276002, x276003, 0))
def mat_Matrix_Cut.l1 : Nat → Int → Int → Int → Int → Int → Int → Int → Int → Int → Int → Int → List Int → Int → Int → Int → List Int → Option (Int × Int × Int × List Int × Int)
 | 0, _, _, _, _, _, _, _, _, _, _, _, _, _, _, _, _ => none
 | k + 1, x1, x2, x4, x13, x54, x55, x58, x59, x267000, x267001, x267002, x267003, x276000, x276001, x276002, x276003 => if x59 < x58 then ((mat_Matrix_At.f x267000 x267001 x267002 x267003 (wrap64 (x1 + x13)) (wrap64 (x2 + x59))).bind fun t276 => ((mat_Matrix_Set.f x276000 x276001 x276002 x276003 x13 x59 t276).bind fun t277 => (mat_Matrix_Cut.l1 k x1 x2 x4 x13 x54 x55 x58 (wrap64 (x59 + 1)) x267000 x267001 x267002 x267003 x276000 x276001 x276002 t277))) else (mat_Matrix_Cut.l0 k x1 x2 x4 x54 (wrap64 (x55 + 1)) x267000 x267001 x267002 x267003 x276000 x276001 x276002 x276003)
end
def mat_Matrix_Cut.f (k : Nat) (a0_0 : Int) (a0_1 : Int) (a0_2 : Int) (l0_3 : List Int) (a1 : Int) (a2 : Int) (a3 : Int) (a4 : Int) : Option (Int × Int × Int × List Int × Int) := (mat_Matrix_Check.f k a0_0 a0_1 a0_2 l0_3).bind fun t268 => (if t268 = 0 then (if a1 < 0 then (mat_Matrix_Cut.j0 k a1 a2 a3 a4 true a0_0 a0_1 a0_2 l0_3) else (if a2 < 0 then (mat_Matrix_Cut.j0 k a1 a2 a3 a4 true a0_0 a0_1 a0_2 l0_3) else (if a3 < 0 then (mat_Matrix_Cut.j0 k a1 a2 a3 a4 true a0_0 a0_1 a0_2 l0_3) else (if a4 < 0 then (mat_Matrix_Cut.j0 k a1 a2 a3 a4 true a0_0 a0_1 a0_2 l0_3) else (if a1 > (wrap64 (a0_0 - a3)) then (mat_Matrix_Cut.j0 k a1 a2 a3 a4 true a0_0 a0_1 a0_2 l0_3) else (mat_Matrix_Cut.j0 k a1 a2 a3 a4 (decide (a2 > (wrap64 (a0_1 - a4)))) a0_0 a0_1 a0_2 l0_3)))))) else (mat_Matrix_Cut.j0 k a1 a2 a3 a4 true a0_0 a0_1 a0_2 l0_3))
theorem mat_Matrix_Cut.mono_l : ∀ k, (∀ y0 y1 y2 y3 y4 y5 y6 y7 y8, LeO (mat_Matrix_Cut.j0 k y0 y1 y2 y3 y4 y5 y6 y7 y8) (mat_Matrix_Cut.j0 (k + 1) y0 y1 y2 y3 y4 y5 y6 y7 y8)) ∧ (∀ y0 y1 y2 y3 y4 y5 y6 y7 y8 y9 y10 y11 y12, LeO (mat_Matrix_Cut.l0 k y0 y1 y2 y3 y4 y5 y6 y7 y8 y9 y10 y11 y12) (mat_Matrix_Cut.l0 (k + 1) y0 y1 y2 y3 y4 y5 y6 y7 y8 y9 y10 y11 y12)) ∧ (∀ y0 y1 y2 y3 y4 y5 y6 y7 y8 y9 y10 y11 y12 y13 y14 y15, LeO (mat_Matrix_Cut.l1 k y0 y1 y2 y3 y4 y5 y6 y7 y8 y9 y10 y11 y12 y13 y14 y15) (mat_Matrix_Cut.l1 (k + 1) y0 y1 y2 y3 y4 y5 y6 y7 y8 y9 y10 y11 y12 y13 y14 y15))
 | 0 => ⟨fun _ _ _ _ _ _ _ _ _ r h => by simp [mat_Matrix_Cut.j0] at h, fun _ _ _ _ _ _ _ _ _ _ _ _ _ r h => by simp [mat_Matrix_Cut.l0] at h, fun _ _ _ _ _ _ _ _ _ _ _ _ _ _ _ _ r h => by simp [mat_Matrix_Cut.l1] at h⟩
 | k + 1 => by
  obtain ⟨ih0, ih1, ih2⟩ := mat_Matrix_Cut.mono_l k
  refine ⟨?_, ?_, ?_⟩
  ·
   intro y0 y1 y2 y3 y4 y5 y6 y7 y8
   unfold mat_Matrix_Cut.j0
   repeat' first
   | (with_reducible exact ih0 _ _ _ _ _ _ _ _ _)
   | (with_reducible exact ih1 _ _ _ _ _ _ _ _ _ _ _ _ _)
   | (with_reducible exact ih2 _ _ _ _ _ _ _ _ _ _ _ _ _ _ _ _)
   | (with_reducible exact mat_Matrix_Check.mono _ _ _ _ _)
   | (with_reducible exact LeO.refl _)
   | (with_reducible exact LeO.none _)
   | (with_reducible refine LeO.ite ?_ ?_)
   | (with_reducible refine LeO.bind ?_ (fun _ => ?_))
   | exact ih0 _ _ _ _ _ _ _ _ _
   | exact ih1 _ _ _ _ _ _ _ _ _ _ _ _ _
   | exact ih2 _ _ _ _ _ _ _ _ _ _ _ _ _ _ _ _
   | exact mat_Matrix_Check.mono _ _ _ _ _
   | exact LeO.none _
   | refine LeO.ite ?_ ?_
   | refine LeO.bind ?_ (fun _ => ?_)
  ·
   intro y0 y1 y2 y3 y4 y5 y6 y7 y8 y9 y10 y11 y12
   unfold mat_Matrix_Cut.l0
   repeat' first
   | (with_reducible exact ih0 _ _ _ _ _ _ _ _ _)
   | (with_reducible exact ih1 _ _ _ _ _ _ _ _ _ _ _ _ _)
   | (with_reducible exact ih2 _ _ _ _ _ _ _ _ _ _ _ _ _ _ _ _)
   | (with_reducible exact mat_Matrix_Check.mono _ _ _ _ _)
   | (with_reducible exact LeO.refl _)
   | (with_reducible exact LeO.none _)
   | (with_reducible refine LeO.ite ?_ ?_)
   | (with_reducible refine LeO.bind ?_ (fun _ => ?_))
   | exact ih0 _ _ _ _ _ _ _ _ _
   | exact ih1 _ _ _ _ _ _ _ _ _ _ _ _ _
   | exact ih2 _ _ _ _ _ _ _ _ _ _ _ _ _ _ _ _
   | exact mat_Matrix_Check.mono _ _ _ _ _
   | exact LeO.none _
   | refine LeO.ite ?_ ?_
   | refine LeO.bind ?_ (fun _ => ?_)
  ·
   intro y0 y1 y2 y3 y4 y5 y6 y7 y8 y9 y10 y11 y12 y13 y14 y15
   unfold mat_Matrix_Cut.l1
   repeat' first
   | (with_reducible exact ih0 _ _ _ _ _ _ _ _ _)
   | (with_reducible exact ih1 _ _ _ _ _ _ _ _ _ _ _ _ _)
   | (with_reducible exact ih2 _ _ _ _ _ _ _ _ _ _ _ _ _ _ _ _)
   | (with_reducible exact mat_Matrix_Check.mono _ _ _ _ _)
   | (with_reducible exact LeO.refl _)
   | (with_reducible exact LeO.none _)
   | (with_reducible refine LeO.ite ?_ ?_)
   | (with_reducible refine LeO.bind ?_ (fun _ => ?_))
   | exact ih0 _ _ _ _ _ _ _ _ _
   | exact ih1 _ _ _ _ _ _ _ _ _ _ _ _ _
   | exact ih2 _ _ _ _ _ _ _ _ _ _ _ _ _ _ _ _
   | exact mat_Matrix_Check.mono _ _ _ _ _
   | exact LeO.none _
   | refine LeO.ite ?_ ?_
   | refine LeO.bind ?_ (fun _ => ?_)
theorem mat_Matrix_Cut.mono : ∀ a0 a1 a2 a3 a4 a5 a6 a7 k, LeO (mat_Matrix_Cut.f k a0 a1 a2 a3 a4 a5 a6 a7) (mat_Matrix_Cut.f (k + 1) a0 a1 a2 a3 a4 a5 a6 a7) := by
 intro a0 a1 a2 a3 a4 a5 a6 a7 k
 obtain ⟨ih0, ih1, ih2⟩ := mat_Matrix_Cut.mono_l k
 unfold mat_Matrix_Cut.f
 repeat' first
   | (with_reducible exact ih0 _ _ _ _ _ _ _ _ _)
   | (with_reducible exact ih1 _ _ _ _ _ _ _ _ _ _ _ _ _)
   | (with_reducible exact ih2 _ _ _ _ _ _ _ _ _ _ _ _ _ _ _ _)
   | (with_reducible exact mat_Matrix_Check.mono _ _ _ _ _)
   | (with_reducible exact LeO.refl _)
   | (with_reducible exact LeO.none _)
   | (with_reducible refine LeO.ite ?_ ?_)
   | (with_reducible refine LeO.bind ?_ (fun _ => ?_))
   | exact ih0 _ _ _ _ _ _ _ _ _
   | exact ih1 _ _ _ _ _ _ _ _ _ _ _ _ _
   | exact ih2 _ _ _ _ _ _ _ _ _ _ _ _ _ _ _ _
   | exact mat_Matrix_Check.mono _ _ _ _ _
   | exact LeO.none _
   | refine LeO.ite ?_ ?_
   | refine LeO.bind ?_ (fun _ => ?_)
def mat_Matrix_Cut.T10 : Bool × List (List Nat × List Nat) := (true, [([], []), ([], []), ([], []), ([], []), ([], []), ([], []), ([4, 5], [4, 5]), ([], []), ([], []), ([7, 8], [7, 8]), ([3, 6, 9], [3, 6, 9]), ([0, 1, 2, 10, 10], [0, 1, 2, 10])])
def mat_Matrix_Cut.B10 : List Nat := [0, 0, 0, 0, 0, 0, 48, 0, 0, 384, 1016, 2047]
theorem mat_Matrix_Cut.tab10 : rtab .any (opsOf Try.f13 10) = mat_Matrix_Cut.T10 := by kernel_rfl
theorem mat_Matrix_Cut.bits10 : waitsOk mat_Matrix_Cut.T10.2 mat_Matrix_Cut.B10 = true := by kernel_rfl
set_option maxHeartbeats 8000000 in
set_option maxRecDepth 100000 in
theorem mat_Matrix_Cut.calls (k : Nat) (a0_0 : Int) (a0_1 : Int) (a0_2 : Int) (A0_3 : Option Addr) (c0_3 : Nat) (l0_3 : List Int) (a1 : Int) (a2 : Int) (a3 : Int) (a4 : Int) (r1 : Int) (r2 : Int) (r3 : Int) (r4 : List Int) (r5 : Int) (w : World) (hr0_3 : Kd.C (Kd.int .u64) w A0_3 l0_3.length l0_3) (hc0_3 : l0_3.length ≤ c0_3) (h : mat_Matrix_Cut.f k a0_0 a0_1 a0_2 l0_3 a1 a2 a3 a4 = some (r1, r2, r3, r4, r5)) :
  Calls Try.prog 13 #[.agg #[.int .i64 a0_0, .int .i64 a0_1, .int .i64 a0_2, .slice A0_3 l0_3.length c0_3], .int .i64 a1, .int .i64 a2, .int .i64 a3, .int .i64 a4] w fun e w' => ∃ v3_ : Value, e = .returned (.tuple #[.agg #[.int .i64 r1, .int .i64 r2, .int .i64 r3, v3_], .int .i64 r5]) ∧ Kd.R (Kd.int .u64) 30 w' w.heap.size (fun _ => True) v3_ r4 ∧ Below w.heap.size w w' := by
 have hu25 := Try.underlying25
 have HR0_3 := Aside0.mk hr0_3
 have HC0_3 := Aside0.mk hc0_3
 clear hr0_3 hc0_3
 have HB := Aside0.mk (Below.refl w.heap.size w)
 have H : ((mat_Matrix_Check.f k a0_0 a0_1 a0_2 l0_3).bind fun t268 => (if t268 = 0 then (if a1 < 0 then (mat_Matrix_Cut.j0 k a1 a2 a3 a4 true a0_0 a0_1 a0_2 l0_3) else (if a2 < 0 then (mat_Matrix_Cut.j0 k a1 a2 a3 a4 true a0_0 a0_1 a0_2 l0_3) else (if a3 < 0 then (mat_Matrix_Cut.j0 k a1 a2 a3 a4 true a0_0 a0_1 a0_2 l0_3) else (if a4 < 0 then (mat_Matrix_Cut.j0 k a1 a2 a3 a4 true a0_0 a0_1 a0_2 l0_3) else (if a1 > (wrap64 (a0_0 - a3)) then (mat_Matrix_Cut.j0 k a1 a2 a3 a4 true a0_0 a0_1 a0_2 l0_3) else (mat_Matrix_Cut.j0 k a1 a2 a3 a4 (decide (a2 > (wrap64 (a0_1 - a4)))) a0_0 a0_1 a0_2 l0_3)))))) else (mat_Matrix_Cut.j0 k a1 a2 a3 a4 true a0_0 a0_1 a0_2 l0_3))) = some (r1, r2, r3, r4, r5) := h
 clear h
 have HC6 := Aside0.mk H
 clear H
 go_enter Try.func13, Try.ntmps13
 go_upto_region 1 with (first | ((with_reducible refine gate_dst (N := 5) rfl ?_); refine box_event ?hg (N := 5) ?hd (cs := #[.int .i64 a0_0, .int .i64 a0_1, .int .i64 a0_2, .slice A0_3 l0_3.length c0_3]) (t := 25) ?hr ?_; (case hd => rfl); (case hg => rfl); (case hr => first | (go_simp; done) | (go_simp; rfl)); intro gb266 hg w7 hbox hb; have n0_ := Aside0.mk (below_step bel hb); have n1_ := Aside0.mk (hbox); have n2_ := Aside0.mk ((by rw [hg]; exact (below_size bel) : w.heap.size ≤ gb266)); have n3_ := Aside0.mk ((by rw [hg]; exact (below_size bel) : w.heap.size ≤ gb266)); clear HB; have HB := n0_; have BK266 := n1_; have GW266 := n2_; have GE266 := n3_; clear n0_ n1_ n2_ n3_; clear hb hbox hg) | ((with_reducible refine gate_dst (N := 10) rfl ?_); refine box_event ?hg (N := 10) ?hd (cs := #[.int .i64 0, .int .i64 0, .int .i64 0, .slice none 0 0]) (t := 25) ?hr ?_; (case hd => rfl); (case hg => rfl); (case hr => first | (go_simp; done) | (go_simp; rfl)); intro gb267 hg w8 hbox hb; have n0_ := Aside0.mk (blk_below (g := gb266) (o := .cells #[.int .i64 a0_0, .int .i64 a0_1, .int .i64 a0_2, .slice A0_3 l0_3.length c0_3] 25 (0, 0)) (kb BK266) hb); have n1_ := Aside0.mk (below_step bes hb); have n2_ := Aside0.mk (hbox); have n3_ := Aside0.mk ((by rw [hg]; exact (below_size bes) : w.heap.size ≤ gb267)); have n4_ := Aside0.mk ((by rw [hg]; exact (below_size bes) : w.heap.size ≤ gb267)); have n5_ := Aside0.mk ((by rw [hg]; exact Nat.ne_of_lt (blk_lt (g := gb266) (o := .cells #[.int .i64 a0_0, .int .i64 a0_1, .int .i64 a0_2, .slice A0_3 l0_3.length c0_3] 25 (0, 0)) (kb BK266)) : gb266 ≠ gb267)); have n6_ := Aside0.mk ((by rw [hg]; exact Nat.ne_of_gt (blk_lt (g := gb266) (o := .cells #[.int .i64 a0_0, .int .i64 a0_1, .int .i64 a0_2, .slice A0_3 l0_3.length c0_3] 25 (0, 0)) (kb BK266)) : gb267 ≠ gb266)); clear BK266; clear HB; have BK266 := n0_; have HB := n1_; have BK267 := n2_; have GW267 := n3_; have GE267 := n4_; have NB266_267 := n5_; have NB267_266 := n6_; clear n0_ n1_ n2_ n3_ n4_ n5_ n6_; clear hb hbox hg))
 (try simp only [Act.put, List.setIfInBounds_toArray, List.set_cons_zero, List.set_cons_succ])
 go_cut [49] (fun v49 wc => ∃ (kq : Nat) (x49_5 : Bool), v49 = .bool x49_5 ∧ Aside0 (mat_Matrix_Cut.j0 kq a1 a2 a3 a4 x49_5 a0_0 a0_1 a0_2 l0_3 = some (r1, r2, r3, r4, r5)) ∧ Aside0 (kq ≤ k) ∧ Aside0 (wc.heap[gb266]? = some (.cells #[.int .i64 a0_0, .int .i64 a0_1, .int .i64 a0_2, (.slice A0_3 l0_3.length c0_3)] 25 (0, 0))) ∧ Aside0 (wc.heap[gb267]? = some (.cells #[.int .i64 0, .int .i64 0, .int .i64 0, (.slice none 0 0)] 25 (0, 0))) ∧ Aside0 (Below w.heap.size w wc))
 case first =>
  have H := HC6.out
  clear HC6
  obtain ⟨t268, A90, H⟩ := Option.bind_eq_some_iff.mp H
  (try dsimp -simprocs only at H)
  have A9 := Aside0.mk A90
  clear A90
  by_cases c10 : t268 = 0
  ·
   rw [if_pos c10] at H
   have c10b0 : (t268 == 0) = true := beq_iff_eq.mpr c10
   have c10b1 : (t268 != 0) = false := bne_eq_false_iff_eq.mpr c10
   clear c10
   (first | rw [c10b0] | (simp only [i64_w, i32_w]; rw [c10b0]) | skip)
   by_cases c11 : a1 < 0
   ·
    rw [if_pos c11] at H
    have c11b0 : decide (a1 < 0) = true := decide_eq_true c11
    clear c11
    have H' := Aside0.mk H
    clear H
    have hnb12 := NB266_267.out
    have hnc12 := NB267_266.out
    have hcz13_0 : w8.cell? ⟨gb266, 0, none⟩ = some (.int .i64 a0_0) := (blk_cell BK266.out 0).trans rfl
    have hcz13_1 : w8.cell? ⟨gb266, 1, none⟩ = some (.int .i64 a0_1) := (blk_cell BK266.out 1).trans rfl
    have hcz13_2 : w8.cell? ⟨gb266, 2, none⟩ = some (.int .i64 a0_2) := (blk_cell BK266.out 2).trans rfl
    have hcz13_3 : w8.cell? ⟨gb266, 3, none⟩ = some (.slice A0_3 l0_3.length c0_3) := (blk_cell BK266.out 3).trans rfl
    have hfz13_0 := blk_frozen BK266.out 0
    have hfz13_1 := blk_frozen BK266.out 1
    have hfz13_2 := blk_frozen BK266.out 2
    have hfz13_3 := blk_frozen BK266.out 3
    go_wp2_with (first | ((with_reducible refine gate_callee (f := 12) rfl ?_); refine goesL_ (some 16) rfl rfl Try.func12 (by kernel_rfl) rfl #[.agg #[.int .i64 a0_0, .int .i64 a0_1, .int .i64 a0_2, .slice A0_3 l0_3.length c0_3]] rfl ga ?_; (with_reducible refine (mat_Matrix_Check.calls k a0_0 a0_1 a0_2 _ _ l0_3 t268 _ ?side1 ?side2 A9.out).mono ?_); (case side1 => repeat (first | exact (Kd.C_below HR0_3.out HB.out) | (with_reducible refine Kd.C_alloc ?_ _) | (with_reducible refine Kd.C_drewN ?_ _) | (with_reducible refine Kd.C_drew ?_))); (case side2 => exact HC0_3.out); rintro e w14 ⟨rfl, hb⟩; refine ⟨_, rfl, ?_⟩; have n0_ := Aside0.mk (blk_below (g := gb266) (o := .cells #[.int .i64 a0_0, .int .i64 a0_1, .int .i64 a0_2, .slice A0_3 l0_3.length c0_3] 25 (0, 0)) (kb BK266) hb); have n1_ := Aside0.mk (blk_below (g := gb267) (o := .cells #[.int .i64 0, .int .i64 0, .int .i64 0, .slice none 0 0] 25 (0, 0)) (kb BK267) hb); have n2_ := Aside0.mk (below_step bes hb); clear BK266; clear BK267; clear HB; have BK266 := n0_; have BK267 := n1_; have HB := n2_; clear n0_ n1_ n2_; (try clear hb)))
    go_meet
    case rel => exact ⟨_, (true), (by first | rfl | (simp; done) | (simp [*]; done)), H', ⟨by first | omega | exact Nat.le_refl _⟩, ⟨kb BK266⟩, ⟨kb BK267⟩, ⟨bes⟩⟩
   ·
    rw [if_neg c11] at H
    have c11b0 : decide (a1 < 0) = false := decide_eq_false c11
    clear c11
    by_cases c15 : a2 < 0
    ·
     rw [if_pos c15] at H
     have c15b0 : decide (a2 < 0) = true := decide_eq_true c15
     clear c15
     have H' := Aside0.mk H
     clear H
     have hnb16 := NB266_267.out
     have hnc16 := NB267_266.out
     have hcz17_0 : w8.cell? ⟨gb266, 0, none⟩ = some (.int .i64 a0_0) := (blk_cell BK266.out 0).trans rfl
     have hcz17_1 : w8.cell? ⟨gb266, 1, none⟩ = some (.int .i64 a0_1) := (blk_cell BK266.out 1).trans rfl
     have hcz17_2 : w8.cell? ⟨gb266, 2, none⟩ = some (.int .i64 a0_2) := (blk_cell BK266.out 2).trans rfl
     have hcz17_3 : w8.cell? ⟨gb266, 3, none⟩ = some (.slice A0_3 l0_3.length c0_3) := (blk_cell BK266.out 3).trans rfl
     have hfz17_0 := blk_frozen BK266.out 0
     have hfz17_1 := blk_frozen BK266.out 1
     have hfz17_2 := blk_frozen BK266.out 2
     have hfz17_3 := blk_frozen BK266.out 3
     go_wp2_with (first | ((with_reducible refine gate_callee (f := 12) rfl ?_); refine goesL_ (some 16) rfl rfl Try.func12 (by kernel_rfl) rfl #[.agg #[.int .i64 a0_0, .int .i64 a0_1, .int .i64 a0_2, .slice A0_3 l0_3.length c0_3]] rfl ga ?_; (with_reducible refine (mat_Matrix_Check.calls k a0_0 a0_1 a0_2 _ _ l0_3 t268 _ ?side1 ?side2 A9.out).mono ?_); (case side1 => repeat (first | exact (Kd.C_below HR0_3.out HB.out) | (with_reducible refine Kd.C_alloc ?_ _) | (with_reducible refine Kd.C_drewN ?_ _) | (with_reducible refine Kd.C_drew ?_))); (case side2 => exact HC0_3.out); rintro e w18 ⟨rfl, hb⟩; refine ⟨_, rfl, ?_⟩; have n0_ := Aside0.mk (blk_below (g := gb266) (o := .cells #[.int .i64 a0_0, .int .i64 a0_1, .int .i64 a0_2, .slice A0_3 l0_3.length c0_3] 25 (0, 0)) (kb BK266) hb); have n1_ := Aside0.mk (blk_below (g := gb267) (o := .cells #[.int .i64 0, .int .i64 0, .int .i64 0, .slice none 0 0] 25 (0, 0)) (kb BK267) hb); have n2_ := Aside0.mk (below_step bes hb); clear BK266; clear BK267; clear HB; have BK266 := n0_; have BK267 := n1_; have HB := n2_; clear n0_ n1_ n2_; (try clear hb)))
     go_meet
     case rel => exact ⟨_, (true), (by first | rfl | (simp; done) | (simp [*]; done)), H', ⟨by first | omega | exact Nat.le_refl _⟩, ⟨kb BK266⟩, ⟨kb BK267⟩, ⟨bes⟩⟩
    ·
     rw [if_neg c15] at H
     have c15b0 : decide (a2 < 0) = false := decide_eq_false c15
     clear c15
     by_cases c19 : a3 < 0
     ·
      rw [if_pos c19] at H
      have c19b0 : decide (a3 < 0) = true := decide_eq_true c19
      clear c19
      have H' := Aside0.mk H
      clear H
      have hnb20 := NB266_267.out
      have hnc20 := NB267_266.out
      have hcz21_0 : w8.cell? ⟨gb266, 0, none⟩ = some (.int .i64 a0_0) := (blk_cell BK266.out 0).trans rfl
      have hcz21_1 : w8.cell? ⟨gb266, 1, none⟩ = some (.int .i64 a0_1) := (blk_cell BK266.out 1).trans rfl
      have hcz21_2 : w8.cell? ⟨gb266, 2, none⟩ = some (.int .i64 a0_2) := (blk_cell BK266.out 2).trans rfl
      have hcz21_3 : w8.cell? ⟨gb266, 3, none⟩ = some (.slice A0_3 l0_3.length c0_3) := (blk_cell BK266.out 3).trans rfl
      have hfz21_0 := blk_frozen BK266.out 0
      have hfz21_1 := blk_frozen BK266.out 1
      have hfz21_2 := blk_frozen BK266.out 2
      have hfz21_3 := blk_frozen BK266.out 3
      go_wp2_with (first | ((with_reducible refine gate_callee (f := 12) rfl ?_); refine goesL_ (some 16) rfl rfl Try.func12 (by kernel_rfl) rfl #[.agg #[.int .i64 a0_0, .int .i64 a0_1, .int .i64 a0_2, .slice A0_3 l0_3.length c0_3]] rfl ga ?_; (with_reducible refine (mat_Matrix_Check.calls k a0_0 a0_1 a0_2 _ _ l0_3 t268 _ ?side1 ?side2 A9.out).mono ?_); (case side1 => repeat (first | exact (Kd.C_below HR0_3.out HB.out) | (with_reducible refine Kd.C_alloc ?_ _) | (with_reducible refine Kd.C_drewN ?_ _) | (with_reducible refine Kd.C_drew ?_))); (case side2 => exact HC0_3.out); rintro e w22 ⟨rfl, hb⟩; refine ⟨_, rfl, ?_⟩; have n0_ := Aside0.mk (blk_below (g := gb266) (o := .cells #[.int .i64 a0_0, .int .i64 a0_1, .int .i64 a0_2, .slice A0_3 l0_3.length c0_3] 25 (0, 0)) (kb BK266) hb); have n1_ := Aside0.mk (blk_below (g := gb267) (o := .cells #[.int .i64 0, .int .i64 0, .int .i64 0, .slice none 0 0] 25 (0, 0)) (kb BK267) hb); have n2_ := Aside0.mk (below_step bes hb); clear BK266; clear BK267; clear HB; have BK266 := n0_; have BK267 := n1_; have HB := n2_; clear n0_ n1_ n2_; (try clear hb)))
      go_meet
      case rel => exact ⟨_, (true), (by first | rfl | (simp; done) | (simp [*]; done)), H', ⟨by first | omega | exact Nat.le_refl _⟩, ⟨kb BK266⟩, ⟨kb BK267⟩, ⟨bes⟩⟩
     ·
      rw [if_neg c19] at H
      have c19b0 : decide (a3 < 0) = false := decide_eq_false c19
      clear c19
      by_cases c23 : a4 < 0
      ·
       rw [if_pos c23] at H
       have c23b0 : decide (a4 < 0) = true := decide_eq_true c23
       clear c23
       have H' := Aside0.mk H
       clear H
       have hnb24 := NB266_267.out
       have hnc24 := NB267_266.out
       have hcz25_0 : w8.cell? ⟨gb266, 0, none⟩ = some (.int .i64 a0_0) := (blk_cell BK266.out 0).trans rfl
       have hcz25_1 : w8.cell? ⟨gb266, 1, none⟩ = some (.int .i64 a0_1) := (blk_cell BK266.out 1).trans rfl
       have hcz25_2 : w8.cell? ⟨gb266, 2, none⟩ = some (.int .i64 a0_2) := (blk_cell BK266.out 2).trans rfl
       have hcz25_3 : w8.cell? ⟨gb266, 3, none⟩ = some (.slice A0_3 l0_3.length c0_3) := (blk_cell BK266.out 3).trans rfl
       have hfz25_0 := blk_frozen BK266.out 0
       have hfz25_1 := blk_frozen BK266.out 1
       have hfz25_2 := blk_frozen BK266.out 2
       have hfz25_3 := blk_frozen BK266.out 3
       go_wp2_with (first | ((with_reducible refine gate_callee (f := 12) rfl ?_); refine goesL_ (some 16) rfl rfl Try.func12 (by kernel_rfl) rfl #[.agg #[.int .i64 a0_0, .int .i64 a0_1, .int .i64 a0_2, .slice A0_3 l0_3.length c0_3]] rfl ga ?_; (with_reducible refine (mat_Matrix_Check.calls k a0_0 a0_1 a0_2 _ _ l0_3 t268 _ ?side1 ?side2 A9.out).mono ?_); (case side1 => repeat (first | exact (Kd.C_below HR0_3.out HB.out) | (with_reducible refine Kd.C_alloc ?_ _) | (with_reducible refine Kd.C_drewN ?_ _) | (with_reducible refine Kd.C_drew ?_))); (case side2 => exact HC0_3.out); rintro e w26 ⟨rfl, hb⟩; refine ⟨_, rfl, ?_⟩; have n0_ := Aside0.mk (blk_below (g := gb266) (o := .cells #[.int .i64 a0_0, .int .i64 a0_1, .int .i64 a0_2, .slice A0_3 l0_3.length c0_3] 25 (0, 0)) (kb BK266) hb); have n1_ := Aside0.mk (blk_below (g := gb267) (o := .cells #[.int .i64 0, .int .i64 0, .int .i64 0, .slice none 0 0] 25 (0, 0)) (kb BK267) hb); have n2_ := Aside0.mk (below_step bes hb); clear BK266; clear BK267; clear HB; have BK266 := n0_; have BK267 := n1_; have HB := n2_; clear n0_ n1_ n2_; (try clear hb)))
       go_meet
       case rel => exact ⟨_, (true), (by first | rfl | (simp; done) | (simp [*]; done)), H', ⟨by first | omega | exact Nat.le_refl _⟩, ⟨kb BK266⟩, ⟨kb BK267⟩, ⟨bes⟩⟩
      ·
       rw [if_neg c23] at H
       have c23b0 : decide (a4 < 0) = false := decide_eq_false c23
       clear c23
       by_cases c27 : a1 > (wrap64 (a0_0 - a3))
       ·
        rw [if_pos c27] at H
        have c27b0 : decide ((wrap64 (a0_0 - a3)) < a1) = true := decide_eq_true c27
        clear c27
        have H' := Aside0.mk H
        clear H
        have hnb28 := NB266_267.out
        have hnc28 := NB267_266.out
        have hcz29_0 : w8.cell? ⟨gb266, 0, none⟩ = some (.int .i64 a0_0) := (blk_cell BK266.out 0).trans rfl
        have hcz29_1 : w8.cell? ⟨gb266, 1, none⟩ = some (.int .i64 a0_1) := (blk_cell BK266.out 1).trans rfl
        have hcz29_2 : w8.cell? ⟨gb266, 2, none⟩ = some (.int .i64 a0_2) := (blk_cell BK266.out 2).trans rfl
        have hcz29_3 : w8.cell? ⟨gb266, 3, none⟩ = some (.slice A0_3 l0_3.length c0_3) := (blk_cell BK266.out 3).trans rfl
        have hfz29_0 := blk_frozen BK266.out 0
        have hfz29_1 := blk_frozen BK266.out 1
        have hfz29_2 := blk_frozen BK266.out 2
        have hfz29_3 := blk_frozen BK266.out 3
        go_wp2_with (first | ((with_reducible refine gate_callee (f := 12) rfl ?_); refine goesL_ (some 16) rfl rfl Try.func12 (by kernel_rfl) rfl #[.agg #[.int .i64 a0_0, .int .i64 a0_1, .int .i64 a0_2, .slice A0_3 l0_3.length c0_3]] rfl ga ?_; (with_reducible refine (mat_Matrix_Check.calls k a0_0 a0_1 a0_2 _ _ l0_3 t268 _ ?side1 ?side2 A9.out).mono ?_); (case side1 => repeat (first | exact (Kd.C_below HR0_3.out HB.out) | (with_reducible refine Kd.C_alloc ?_ _) | (with_reducible refine Kd.C_drewN ?_ _) | (with_reducible refine Kd.C_drew ?_))); (case side2 => exact HC0_3.out); rintro e w30 ⟨rfl, hb⟩; refine ⟨_, rfl, ?_⟩; have n0_ := Aside0.mk (blk_below (g := gb266) (o := .cells #[.int .i64 a0_0, .int .i64 a0_1, .int .i64 a0_2, .slice A0_3 l0_3.length c0_3] 25 (0, 0)) (kb BK266) hb); have n1_ := Aside0.mk (blk_below (g := gb267) (o := .cells #[.int .i64 0, .int .i64 0, .int .i64 0, .slice none 0 0] 25 (0, 0)) (kb BK267) hb); have n2_ := Aside0.mk (below_step bes hb); clear BK266; clear BK267; clear HB; have BK266 := n0_; have BK267 := n1_; have HB := n2_; clear n0_ n1_ n2_; (try clear hb); have hcz31_0 : w30.cell? ⟨gb266, 0, none⟩ = some (.int .i64 a0_0) := (blk_cell BK266.out 0).trans rfl; have hcz31_1 : w30.cell? ⟨gb266, 1, none⟩ = some (.int .i64 a0_1) := (blk_cell BK266.out 1).trans rfl; have hcz31_2 : w30.cell? ⟨gb266, 2, none⟩ = some (.int .i64 a0_2) := (blk_cell BK266.out 2).trans rfl; have hcz31_3 : w30.cell? ⟨gb266, 3, none⟩ = some (.slice A0_3 l0_3.length c0_3) := (blk_cell BK266.out 3).trans rfl; have hfz31_0 := blk_frozen BK266.out 0; have hfz31_1 := blk_frozen BK266.out 1; have hfz31_2 := blk_frozen BK266.out 2; have hfz31_3 := blk_frozen BK266.out 3))
        go_meet
        case rel => exact ⟨_, (true), (by first | rfl | (simp; done) | (simp [*]; done)), H', ⟨by first | omega | exact Nat.le_refl _⟩, ⟨kb BK266⟩, ⟨kb BK267⟩, ⟨bes⟩⟩
       ·
        rw [if_neg c27] at H
        have c27b0 : decide ((wrap64 (a0_0 - a3)) < a1) = false := decide_eq_false c27
        clear c27
        have H' := Aside0.mk H
        clear H
        have hnb32 := NB266_267.out
        have hnc32 := NB267_266.out
        have hcz33_0 : w8.cell? ⟨gb266, 0, none⟩ = some (.int .i64 a0_0) := (blk_cell BK266.out 0).trans rfl
        have hcz33_1 : w8.cell? ⟨gb266, 1, none⟩ = some (.int .i64 a0_1) := (blk_cell BK266.out 1).trans rfl
        have hcz33_2 : w8.cell? ⟨gb266, 2, none⟩ = some (.int .i64 a0_2) := (blk_cell BK266.out 2).trans rfl
        have hcz33_3 : w8.cell? ⟨gb266, 3, none⟩ = some (.slice A0_3 l0_3.length c0_3) := (blk_cell BK266.out 3).trans rfl
        have hfz33_0 := blk_frozen BK266.out 0
        have hfz33_1 := blk_frozen BK266.out 1
        have hfz33_2 := blk_frozen BK266.out 2
        have hfz33_3 := blk_frozen BK266.out 3
        go_wp2_with (first | ((with_reducible refine gate_callee (f := 12) rfl ?_); refine goesL_ (some 16) rfl rfl Try.func12 (by kernel_rfl) rfl #[.agg #[.int .i64 a0_0, .int .i64 a0_1, .int .i64 a0_2, .slice A0_3 l0_3.length c0_3]] rfl ga ?_; (with_reducible refine (mat_Matrix_Check.calls k a0_0 a0_1 a0_2 _ _ l0_3 t268 _ ?side1 ?side2 A9.out).mono ?_); (case side1 => repeat (first | exact (Kd.C_below HR0_3.out HB.out) | (with_reducible refine Kd.C_alloc ?_ _) | (with_reducible refine Kd.C_drewN ?_ _) | (with_reducible refine Kd.C_drew ?_))); (case side2 => exact HC0_3.out); rintro e w34 ⟨rfl, hb⟩; refine ⟨_, rfl, ?_⟩; have n0_ := Aside0.mk (blk_below (g := gb266) (o := .cells #[.int .i64 a0_0, .int .i64 a0_1, .int .i64 a0_2, .slice A0_3 l0_3.length c0_3] 25 (0, 0)) (kb BK266) hb); have n1_ := Aside0.mk (blk_below (g := gb267) (o := .cells #[.int .i64 0, .int .i64 0, .int .i64 0, .slice none 0 0] 25 (0, 0)) (kb BK267) hb); have n2_ := Aside0.mk (below_step bes hb); clear BK266; clear BK267; clear HB; have BK266 := n0_; have BK267 := n1_; have HB := n2_; clear n0_ n1_ n2_; (try clear hb); have hcz35_0 : w34.cell? ⟨gb266, 0, none⟩ = some (.int .i64 a0_0) := (blk_cell BK266.out 0).trans rfl; have hcz35_1 : w34.cell? ⟨gb266, 1, none⟩ = some (.int .i64 a0_1) := (blk_cell BK266.out 1).trans rfl; have hcz35_2 : w34.cell? ⟨gb266, 2, none⟩ = some (.int .i64 a0_2) := (blk_cell BK266.out 2).trans rfl; have hcz35_3 : w34.cell? ⟨gb266, 3, none⟩ = some (.slice A0_3 l0_3.length c0_3) := (blk_cell BK266.out 3).trans rfl; have hfz35_0 := blk_frozen BK266.out 0; have hfz35_1 := blk_frozen BK266.out 1; have hfz35_2 := blk_frozen BK266.out 2; have hfz35_3 := blk_frozen BK266.out 3))
        go_meet
        case rel => exact ⟨_, (decide (a2 > (wrap64 (a0_1 - a4)))), (by first | rfl | (simp; done) | (simp [*]; done)), H', ⟨by first | omega | exact Nat.le_refl _⟩, ⟨kb BK266⟩, ⟨kb BK267⟩, ⟨bes⟩⟩
  ·
   rw [if_neg c10] at H
   have c10b0 : (t268 == 0) = false := beq_eq_false_iff_ne.mpr c10
   have c10b1 : (t268 != 0) = true := bne_iff_ne.mpr c10
   (first | rw [c10b0] | (simp only [i64_w, i32_w]; rw [c10b0]) | skip)
   have H' := Aside0.mk H
   clear H
   have hnb36 := NB266_267.out
   have hnc36 := NB267_266.out
   have hcz37_0 : w8.cell? ⟨gb266, 0, none⟩ = some (.int .i64 a0_0) := (blk_cell BK266.out 0).trans rfl
   have hcz37_1 : w8.cell? ⟨gb266, 1, none⟩ = some (.int .i64 a0_1) := (blk_cell BK266.out 1).trans rfl
   have hcz37_2 : w8.cell? ⟨gb266, 2, none⟩ = some (.int .i64 a0_2) := (blk_cell BK266.out 2).trans rfl
   have hcz37_3 : w8.cell? ⟨gb266, 3, none⟩ = some (.slice A0_3 l0_3.length c0_3) := (blk_cell BK266.out 3).trans rfl
   have hfz37_0 := blk_frozen BK266.out 0
   have hfz37_1 := blk_frozen BK266.out 1
   have hfz37_2 := blk_frozen BK266.out 2
   have hfz37_3 := blk_frozen BK266.out 3
   go_wp2_with (first | ((with_reducible refine gate_callee (f := 12) rfl ?_); refine goesL_ (some 16) rfl rfl Try.func12 (by kernel_rfl) rfl #[.agg #[.int .i64 a0_0, .int .i64 a0_1, .int .i64 a0_2, .slice A0_3 l0_3.length c0_3]] rfl ga ?_; (with_reducible refine (mat_Matrix_Check.calls k a0_0 a0_1 a0_2 _ _ l0_3 t268 _ ?side1 ?side2 A9.out).mono ?_); (case side1 => repeat (first | exact (Kd.C_below HR0_3.out HB.out) | (with_reducible refine Kd.C_alloc ?_ _) | (with_reducible refine Kd.C_drewN ?_ _) | (with_reducible refine Kd.C_drew ?_))); (case side2 => exact HC0_3.out); rintro e w38 ⟨rfl, hb⟩; refine ⟨_, rfl, ?_⟩; have n0_ := Aside0.mk (blk_below (g := gb266) (o := .cells #[.int .i64 a0_0, .int .i64 a0_1, .int .i64 a0_2, .slice A0_3 l0_3.length c0_3] 25 (0, 0)) (kb BK266) hb); have n1_ := Aside0.mk (blk_below (g := gb267) (o := .cells #[.int .i64 0, .int .i64 0, .int .i64 0, .slice none 0 0] 25 (0, 0)) (kb BK267) hb); have n2_ := Aside0.mk (below_step bes hb); clear BK266; clear BK267; clear HB; have BK266 := n0_; have BK267 := n1_; have HB := n2_; clear n0_ n1_ n2_; (try clear hb)))
   go_meet
   case rel => exact ⟨_, (true), (by first | rfl | (simp; done) | (simp [*]; done)), H', ⟨by first | omega | exact Nat.le_refl _⟩, ⟨kb BK266⟩, ⟨kb BK267⟩, ⟨bes⟩⟩
 case rest =>
  clear HC6
  try clear c1
  try clear c2
  try clear p2
  try clear c3
  try clear p6
  try clear c10
  try clear c10b0
  try clear c10b1
  try clear c11
  try clear c11b0
  try clear c12
  try clear c13
  try clear c15
  try clear c15b0
  try clear c16
  try clear c19
  try clear c19b0
  try clear c20
  try clear c23
  try clear c23b0
  try clear c24
  try clear c27
  try clear c27b0
  try clear c28
  try clear c32
  try clear c36
  try clear hcz13_0
  try clear hcz13_1
  try clear hcz13_2
  try clear hcz13_3
  try clear hcz17_0
  try clear hcz17_1
  try clear hcz17_2
  try clear hcz17_3
  try clear hcz21_0
  try clear hcz21_1
  try clear hcz21_2
  try clear hcz21_3
  try clear hcz25_0
  try clear hcz25_1
  try clear hcz25_2
  try clear hcz25_3
  try clear hcz29_0
  try clear hcz29_1
  try clear hcz29_2
  try clear hcz29_3
  try clear hcz31_0
  try clear hcz31_1
  try clear hcz31_2
  try clear hcz31_3
  try clear hcz33_0
  try clear hcz33_1
  try clear hcz33_2
  try clear hcz33_3
  try clear hcz35_0
  try clear hcz35_1
  try clear hcz35_2
  try clear hcz35_3
  try clear hcz37_0
  try clear hcz37_1
  try clear hcz37_2
  try clear hcz37_3
  try clear hfz13_0
  try clear hfz13_1
  try clear hfz13_2
  try clear hfz13_3
  try clear hfz17_0
  try clear hfz17_1
  try clear hfz17_2
  try clear hfz17_3
  try clear hfz21_0
  try clear hfz21_1
  try clear hfz21_2
  try clear hfz21_3
  try clear hfz25_0
  try clear hfz25_1
  try clear hfz25_2
  try clear hfz25_3
  try clear hfz29_0
  try clear hfz29_1
  try clear hfz29_2
  try clear hfz29_3
  try clear hfz31_0
  try clear hfz31_1
  try clear hfz31_2
  try clear hfz31_3
  try clear hfz33_0
  try clear hfz33_1
  try clear hfz33_2
  try clear hfz33_3
  try clear hfz35_0
  try clear hfz35_1
  try clear hfz35_2
  try clear hfz35_3
  try clear hfz37_0
  try clear hfz37_1
  try clear hfz37_2
  try clear hfz37_3
  obtain ⟨kq, x49_5, rfl, HA, HJ5, BK266, BK267, HB⟩ := hcut
  cases kq with
  | zero => exact absurd HA.out (by simp [mat_Matrix_Cut.j0])
  | succ kj5 =>
   have H := HA.out
   clear HA
   simp only [mat_Matrix_Cut.j0] at H
   by_cases c39 : x49_5 = true
   ·
    subst c39
    rw [if_pos rfl] at H
    simp only [Option.some.injEq, Prod.mk.injEq] at H
    obtain ⟨rfl, rfl, rfl, rfl, rfl⟩ := H
    have hnb40 := NB267_266.out
    have hnc40 := NB266_267.out
    have hcz41_0 : wc.cell? ⟨gb267, 0, none⟩ = some (.int .i64 0) := (blk_cell BK267.out 0).trans rfl
    have hcz41_1 : wc.cell? ⟨gb267, 1, none⟩ = some (.int .i64 0) := (blk_cell BK267.out 1).trans rfl
    have hcz41_2 : wc.cell? ⟨gb267, 2, none⟩ = some (.int .i64 0) := (blk_cell BK267.out 2).trans rfl
    have hcz41_3 : wc.cell? ⟨gb267, 3, none⟩ = some (.slice none 0 0) := (blk_cell BK267.out 3).trans rfl
    have hfz41_0 := blk_frozen BK267.out 0
    have hfz41_1 := blk_frozen BK267.out 1
    have hfz41_2 := blk_frozen BK267.out 2
    have hfz41_3 := blk_frozen BK267.out 3
    go_wp2
    refine bodyPost_ret (results_ct rfl _ _ gb267 25 #[.int .i64 0, .int .i64 0, .int .i64 0, .slice none 0 0] (0, 0) _ rfl (by (with_reducible repeat (first | refine blk_drewN ?_ _ | refine blk_drew ?_ | refine blk_alloc ?_ _)); refine blk_put (cs := #[.int .i64 0, .int .i64 0, .int .i64 0, .slice none 0 0]) ?_ 3 _ rfl; (with_reducible repeat (first | refine blk_drewN ?_ _ | refine blk_drew ?_ | refine blk_alloc ?_ _)); refine blk_put (cs := #[.int .i64 0, .int .i64 0, .int .i64 0, .slice none 0 0]) ?_ 2 _ rfl; (with_reducible repeat (first | refine blk_drewN ?_ _ | refine blk_drew ?_ | refine blk_alloc ?_ _)); refine blk_put (cs := #[.int .i64 0, .int .i64 0, .int .i64 0, .slice none 0 0]) ?_ 1 _ rfl; (with_reducible repeat (first | refine blk_drewN ?_ _ | refine blk_drew ?_ | refine blk_alloc ?_ _)); refine blk_put (cs := #[.int .i64 0, .int .i64 0, .int .i64 0, .slice none 0 0]) ?_ 0 _ rfl; (with_reducible repeat (first | refine blk_drewN ?_ _ | refine blk_drew ?_ | refine blk_alloc ?_ _)); exact BK267.out) Try.underlying25 rfl (by kernel_rfl)) rfl ?_
    exact ⟨_, er, by first | exact Kd.R_nil _ _ _ _ _ | exact Kd.N_nil _ _ _ _ _ | exact Kd.V_nil _ _ _ _ _ | exact Kd.Q_nil _ _ _ _ _ | exact Kd.S_nil _ _ _ _ _, bes⟩
   ·
    replace c39 := Bool.eq_false_iff.mpr c39
    subst c39
    rw [if_neg (show ¬ (false = true) by decide)] at H
    obtain ⟨⟨t269, t270, t271, t272⟩, A420, H⟩ := Option.bind_eq_some_iff.mp H
    (try dsimp -simprocs only at H)
    have A42 := Aside0.mk A420
    clear A420
    have H' := Aside0.mk H
    clear H
    go_wp2_with (first | ((with_reducible refine gate_callee (f := 18) rfl ?_); refine goesL_ (some 53) rfl rfl Try.func18 (by kernel_rfl) rfl #[.int .i64 a3, .int .i64 a4] rfl ga ?_; (with_reducible refine (mat_New.calls a3 a4 t269 t270 t271 t272 _ A42.out).mono ?_); rintro e w43 ⟨v273, rfl, ho0, hb⟩; refine ⟨_, rfl, ?_⟩; have n0_ := Aside0.mk (Kd.R_lower ho0 (below_size bes)); have n1_ := Aside0.mk (blk_below (g := gb266) (o := .cells #[.int .i64 a0_0, .int .i64 a0_1, .int .i64 a0_2, .slice A0_3 l0_3.length c0_3] 25 (0, 0)) (kb BK266) hb); have n2_ := Aside0.mk (blk_below (g := gb267) (o := .cells #[.int .i64 0, .int .i64 0, .int .i64 0, .slice none 0 0] 25 (0, 0)) (kb BK267) hb); have n3_ := Aside0.mk (below_step bes hb); clear BK266; clear BK267; clear HB; have HO274 := n0_; have BK266 := n1_; have BK267 := n2_; have HB := n3_; clear n0_ n1_ n2_ n3_; (try clear hb); (try clear ho0)) | ((with_reducible refine gate_dst (N := 12) rfl ?_); refine box_event ?hg (N := 12) ?hd (cs := #[.int .i64 0, .int .i64 0, .int .i64 0, .slice none 0 0]) (t := 25) ?hr ?_; (case hd => rfl); (case hg => rfl); (case hr => first | (go_simp; done) | (go_simp; rfl)); intro gb275 hg w44 hbox hb; have n0_ := Aside0.mk (Kd.R_below (kr HO274) hb); have n1_ := Aside0.mk (blk_below (g := gb266) (o := .cells #[.int .i64 a0_0, .int .i64 a0_1, .int .i64 a0_2, .slice A0_3 l0_3.length c0_3] 25 (0, 0)) (kb BK266) hb); have n2_ := Aside0.mk (blk_below (g := gb267) (o := .cells #[.int .i64 0, .int .i64 0, .int .i64 0, .slice none 0 0] 25 (0, 0)) (kb BK267) hb); have n3_ := Aside0.mk (below_step bes hb); have n4_ := Aside0.mk (hbox); have n5_ := Aside0.mk ((by rw [hg]; exact (below_size bes) : w.heap.size ≤ gb275)); have n6_ := Aside0.mk ((by rw [hg]; exact (below_size bes) : w.heap.size ≤ gb275)); have n7_ := Aside0.mk ((by rw [hg]; exact Nat.ne_of_lt (blk_lt (g := gb266) (o := .cells #[.int .i64 a0_0, .int .i64 a0_1, .int .i64 a0_2, .slice A0_3 l0_3.length c0_3] 25 (0, 0)) (kb BK266)) : gb266 ≠ gb275)); have n8_ := Aside0.mk ((by rw [hg]; exact Nat.ne_of_gt (blk_lt (g := gb266) (o := .cells #[.int .i64 a0_0, .int .i64 a0_1, .int .i64 a0_2, .slice A0_3 l0_3.length c0_3] 25 (0, 0)) (kb BK266)) : gb275 ≠ gb266)); have n9_ := Aside0.mk ((by rw [hg]; exact Nat.ne_of_lt (blk_lt (g := gb267) (o := .cells #[.int .i64 0, .int .i64 0, .int .i64 0, .slice none 0 0] 25 (0, 0)) (kb BK267)) : gb267 ≠ gb275)); have n10_ := Aside0.mk ((by rw [hg]; exact Nat.ne_of_gt (blk_lt (g := gb267) (o := .cells #[.int .i64 0, .int .i64 0, .int .i64 0, .slice none 0 0] 25 (0, 0)) (kb BK267)) : gb275 ≠ gb267)); clear HO274; clear BK266; clear BK267; clear HB; have HO274 := n0_; have BK266 := n1_; have BK267 := n2_; have HB := n3_; have BK275 := n4_; have GW275 := n5_; have GE275 := n6_; have NB266_275 := n7_; have NB275_266 := n8_; have NB267_275 := n9_; have NB275_267 := n10_; clear n0_ n1_ n2_ n3_ n4_ n5_ n6_ n7_ n8_ n9_ n10_; clear hb hbox hg; have hnb45 := NB275_266.out; have hnc45 := NB266_275.out; have hnb46 := NB275_267.out; have hnc46 := NB267_275.out; have hcz47_0 : w44.cell? ⟨gb275, 0, none⟩ = some (.int .i64 0) := (blk_cell BK275.out 0).trans rfl; have hcz47_1 : w44.cell? ⟨gb275, 1, none⟩ = some (.int .i64 0) := (blk_cell BK275.out 1).trans rfl; have hcz47_2 : w44.cell? ⟨gb275, 2, none⟩ = some (.int .i64 0) := (blk_cell BK275.out 2).trans rfl; have hcz47_3 : w44.cell? ⟨gb275, 3, none⟩ = some (.slice none 0 0) := (blk_cell BK275.out 3).trans rfl; have hfz47_0 := blk_frozen BK275.out 0; have hfz47_1 := blk_frozen BK275.out 1; have hfz47_2 := blk_frozen BK275.out 2; have hfz47_3 := blk_frozen BK275.out 3; obtain ⟨Ao48, co48, eo48⟩ := Kd.R_slice HO274.out; subst eo48))
    go_loopg [55] kj5 (fun kq v55 w' => ∃ (x55_2 : Int) (x276003_2 : List Int) (u276003 : Value), v55 = .int .i64 x55_2 ∧ Aside0 (mat_Matrix_Cut.l0 kq a1 a2 a4 a3 x55_2 a0_0 a0_1 a0_2 l0_3 t269 t270 t271 x276003_2 = some (r1, r2, r3, r4, r5)) ∧ Aside0 (kq ≤ kj5) ∧ Aside0 (Kd.R (Kd.int .u64) 30 w' w.heap.size (fun _ => True) u276003 x276003_2) ∧ Aside0 (w'.heap[gb266]? = some (.cells #[.int .i64 a0_0, .int .i64 a0_1, .int .i64 a0_2, (.slice A0_3 l0_3.length c0_3)] 25 (0, 0))) ∧ Aside0 (w'.heap[gb267]? = some (.cells #[.int .i64 0, .int .i64 0, .int .i64 0, (.slice none 0 0)] 25 (0, 0))) ∧ Aside0 (w'.heap[gb275]? = some (.cells #[.int .i64 t269, .int .i64 t270, .int .i64 t271, u276003] 25 (0, 0))) ∧ Aside0 (Below w.heap.size w w'))
    case atStart => exact ⟨(0), (t272), (.slice Ao48 t272.length co48), (by first | rfl | (simp; done) | (simp [*]; done)), H', ⟨Nat.le_refl _⟩, ⟨by (with_reducible repeat (first | apply Kd.R_alloc | apply Kd.R_drewN | apply Kd.R_drew)); exact Kd.R_mono (Kd.R_far (p := ⟨gb275, 3, none⟩) (Kd.R_far (p := ⟨gb275, 2, none⟩) (Kd.R_far (p := ⟨gb275, 1, none⟩) (Kd.R_far (p := ⟨gb275, 0, none⟩) (Kd.R_types HO274.out BK275.out (by decide)) (fun _ hk => hk.2) (.int .i64 t269)) (fun _ hk => hk.2) (.int .i64 t270)) (fun _ hk => hk.2) (.int .i64 t271)) (fun _ hk => hk.2) (.slice Ao48 t272.length co48)) (fun _ hk => trivial)⟩, ⟨by (with_reducible repeat (first | refine blk_drewN ?_ _ | refine blk_drew ?_ | refine blk_alloc ?_ _)); refine blk_far ?_ NB266_275.out _; (with_reducible repeat (first | refine blk_drewN ?_ _ | refine blk_drew ?_ | refine blk_alloc ?_ _)); refine blk_far ?_ NB266_275.out _; (with_reducible repeat (first | refine blk_drewN ?_ _ | refine blk_drew ?_ | refine blk_alloc ?_ _)); refine blk_far ?_ NB266_275.out _; (with_reducible repeat (first | refine blk_drewN ?_ _ | refine blk_drew ?_ | refine blk_alloc ?_ _)); refine blk_far ?_ NB266_275.out _; (with_reducible repeat (first | refine blk_drewN ?_ _ | refine blk_drew ?_ | refine blk_alloc ?_ _)); exact BK266.out⟩, ⟨by (with_reducible repeat (first | refine blk_drewN ?_ _ | refine blk_drew ?_ | refine blk_alloc ?_ _)); refine blk_far ?_ NB267_275.out _; (with_reducible repeat (first | refine blk_drewN ?_ _ | refine blk_drew ?_ | refine blk_alloc ?_ _)); refine blk_far ?_ NB267_275.out _; (with_reducible repeat (first | refine blk_drewN ?_ _ | refine blk_drew ?_ | refine blk_alloc ?_ _)); refine blk_far ?_ NB267_275.out _; (with_reducible repeat (first | refine blk_drewN ?_ _ | refine blk_drew ?_ | refine blk_alloc ?_ _)); refine blk_far ?_ NB267_275.out _; (with_reducible repeat (first | refine blk_drewN ?_ _ | refine blk_drew ?_ | refine blk_alloc ?_ _)); exact BK267.out⟩, ⟨by (with_reducible repeat (first | refine blk_drewN ?_ _ | refine blk_drew ?_ | refine blk_alloc ?_ _)); refine blk_put (cs := #[.int .i64 t269, .int .i64 t270, .int .i64 t271, .slice none 0 0]) ?_ 3 _ rfl; (with_reducible repeat (first | refine blk_drewN ?_ _ | refine blk_drew ?_ | refine blk_alloc ?_ _)); refine blk_put (cs := #[.int .i64 t269, .int .i64 t270, .int .i64 0, .slice none 0 0]) ?_ 2 _ rfl; (with_reducible repeat (first | refine blk_drewN ?_ _ | refine blk_drew ?_ | refine blk_alloc ?_ _)); refine blk_put (cs := #[.int .i64 t269, .int .i64 0, .int .i64 0, .slice none 0 0]) ?_ 1 _ rfl; (with_reducible repeat (first | refine blk_drewN ?_ _ | refine blk_drew ?_ | refine blk_alloc ?_ _)); refine blk_put (cs := #[.int .i64 0, .int .i64 0, .int .i64 0, .slice none 0 0]) ?_ 0 _ rfl; (with_reducible repeat (first | refine blk_drewN ?_ _ | refine blk_drew ?_ | refine blk_alloc ?_ _)); exact BK275.out⟩, ⟨bes⟩⟩
    case round =>
     clear H'
     try clear c1
     try clear c2
     try clear p2
     try clear c3
     try clear c4
     try clear p6
     try clear c10
     try clear c10b0
     try clear c10b1
     try clear c11
     try clear c11b0
     try clear c12
     try clear c13
     try clear c15
     try clear c15b0
     try clear c16
     try clear c18
     try clear c19
     try clear c19b0
     try clear c20
     try clear c23
     try clear c23b0
     try clear c24
     try clear c27
     try clear c27b0
     try clear c28
     try clear c32
     try clear c36
     try clear c39
     try clear c40
     try clear c45
     try clear c46
     try clear hcz13_0
     try clear hcz13_1
     try clear hcz13_2
     try clear hcz13_3
     try clear hcz17_0
     try clear hcz17_1
     try clear hcz17_2
     try clear hcz17_3
     try clear hcz21_0
     try clear hcz21_1
     try clear hcz21_2
     try clear hcz21_3
     try clear hcz25_0
     try clear hcz25_1
     try clear hcz25_2
     try clear hcz25_3
     try clear hcz29_0
     try clear hcz29_1
     try clear hcz29_2
     try clear hcz29_3
     try clear hcz31_0
     try clear hcz31_1
     try clear hcz31_2
     try clear hcz31_3
     try clear hcz33_0
     try clear hcz33_1
     try clear hcz33_2
     try clear hcz33_3
     try clear hcz35_0
     try clear hcz35_1
     try clear hcz35_2
     try clear hcz35_3
     try clear hcz37_0
     try clear hcz37_1
     try clear hcz37_2
     try clear hcz37_3
     try clear hcz41_0
     try clear hcz41_1
     try clear hcz41_2
     try clear hcz41_3
     try clear hcz47_0
     try clear hcz47_1
     try clear hcz47_2
     try clear hcz47_3
     try clear hfz13_0
     try clear hfz13_1
     try clear hfz13_2
     try clear hfz13_3
     try clear hfz17_0
     try clear hfz17_1
     try clear hfz17_2
     try clear hfz17_3
     try clear hfz21_0
     try clear hfz21_1
     try clear hfz21_2
     try clear hfz21_3
     try clear hfz25_0
     try clear hfz25_1
     try clear hfz25_2
     try clear hfz25_3
     try clear hfz29_0
     try clear hfz29_1
     try clear hfz29_2
     try clear hfz29_3
     try clear hfz31_0
     try clear hfz31_1
     try clear hfz31_2
     try clear hfz31_3
     try clear hfz33_0
     try clear hfz33_1
     try clear hfz33_2
     try clear hfz33_3
     try clear hfz35_0
     try clear hfz35_1
     try clear hfz35_2
     try clear hfz35_3
     try clear hfz37_0
     try clear hfz37_1
     try clear hfz37_2
     try clear hfz37_3
     try clear hfz41_0
     try clear hfz41_1
     try clear hfz41_2
     try clear hfz41_3
     try clear hfz47_0
     try clear hfz47_1
     try clear hfz47_2
     try clear hfz47_3
     try clear p2
     try clear p6
     obtain ⟨x55_2, x276003_2, u276003, rfl, HA, HK2, HO_276003, BK266, BK267, BK275, HB⟩ := hrel
     cases gk with
     | zero => exact absurd HA.out (by simp [mat_Matrix_Cut.l0])
     | succ k2 =>
      have H := HA.out
      clear HA
      simp only [mat_Matrix_Cut.l0] at H
      by_cases c49 : x55_2 < a3
      ·
       rw [if_pos c49] at H
       have c49b0 : decide (x55_2 < a3) = true := decide_eq_true c49
       clear c49
       have H' := Aside0.mk H
       clear H
       go_wp2
       go_loopg [59] k2 (fun kq v59 w' => ∃ (x59_3 : Int) (x276003_3 : List Int) (u276003 : Value), v59 = .int .i64 x59_3 ∧ Aside0 (mat_Matrix_Cut.l1 kq a1 a2 a4 x55_2 a3 x55_2 a4 x59_3 a0_0 a0_1 a0_2 l0_3 t269 t270 t271 x276003_3 = some (r1, r2, r3, r4, r5)) ∧ Aside0 (kq ≤ k2) ∧ Aside0 (Kd.R (Kd.int .u64) 30 w' w.heap.size (fun _ => True) u276003 x276003_3) ∧ Aside0 (w'.heap[gb266]? = some (.cells #[.int .i64 a0_0, .int .i64 a0_1, .int .i64 a0_2, (.slice A0_3 l0_3.length c0_3)] 25 (0, 0))) ∧ Aside0 (w'.heap[gb267]? = some (.cells #[.int .i64 0, .int .i64 0, .int .i64 0, (.slice none 0 0)] 25 (0, 0))) ∧ Aside0 (w'.heap[gb275]? = some (.cells #[.int .i64 t269, .int .i64 t270, .int .i64 t271, u276003] 25 (0, 0))) ∧ Aside0 (Below w.heap.size w w'))
       case atStart => exact ⟨(0), (x276003_2), (u276003), (by first | rfl | (simp; done) | (simp [*]; done)), H', ⟨Nat.le_refl _⟩, ⟨by (with_reducible repeat (first | apply Kd.R_alloc | apply Kd.R_drewN | apply Kd.R_drew)); exact HO_276003.out⟩, ⟨kb BK266⟩, ⟨kb BK267⟩, ⟨kb BK275⟩, ⟨bes⟩⟩
       case round =>
        clear H'
        try clear c1
        try clear c2
        try clear p2
        try clear c3
        try clear c4
        try clear p6
        try clear c10
        try clear c10b0
        try clear c10b1
        try clear c11
        try clear c11b0
        try clear c12
        try clear c13
        try clear c15
        try clear c15b0
        try clear c16
        try clear c18
        try clear c19
        try clear c19b0
        try clear c20
        try clear c23
        try clear c23b0
        try clear c24
        try clear c27
        try clear c27b0
        try clear c28
        try clear c32
        try clear c36
        try clear c39
        try clear c40
        try clear c45
        try clear c46
        try clear c49
        try clear c49b0
        try clear hcz13_0
        try clear hcz13_1
        try clear hcz13_2
        try clear hcz13_3
        try clear hcz17_0
        try clear hcz17_1
        try clear hcz17_2
        try clear hcz17_3
        try clear hcz21_0
        try clear hcz21_1
        try clear hcz21_2
        try clear hcz21_3
        try clear hcz25_0
        try clear hcz25_1
        try clear hcz25_2
        try clear hcz25_3
        try clear hcz29_0
        try clear hcz29_1
        try clear hcz29_2
        try clear hcz29_3
        try clear hcz31_0
        try clear hcz31_1
        try clear hcz31_2
        try clear hcz31_3
        try clear hcz33_0
        try clear hcz33_1
        try clear hcz33_2
        try clear hcz33_3
        try clear hcz35_0
        try clear hcz35_1
        try clear hcz35_2
        try clear hcz35_3
        try clear hcz37_0
        try clear hcz37_1
        try clear hcz37_2
        try clear hcz37_3
        try clear hcz41_0
        try clear hcz41_1
        try clear hcz41_2
        try clear hcz41_3
        try clear hcz47_0
        try clear hcz47_1
        try clear hcz47_2
        try clear hcz47_3
        try clear hfz13_0
        try clear hfz13_1
        try clear hfz13_2
        try clear hfz13_3
        try clear hfz17_0
        try clear hfz17_1
        try clear hfz17_2
        try clear hfz17_3
        try clear hfz21_0
        try clear hfz21_1
        try clear hfz21_2
        try clear hfz21_3
        try clear hfz25_0
        try clear hfz25_1
        try clear hfz25_2
        try clear hfz25_3
        try clear hfz29_0
        try clear hfz29_1
        try clear hfz29_2
        try clear hfz29_3
        try clear hfz31_0
        try clear hfz31_1
        try clear hfz31_2
        try clear hfz31_3
        try clear hfz33_0
        try clear hfz33_1
        try clear hfz33_2
        try clear hfz33_3
        try clear hfz35_0
        try clear hfz35_1
        try clear hfz35_2
        try clear hfz35_3
        try clear hfz37_0
        try clear hfz37_1
        try clear hfz37_2
        try clear hfz37_3
        try clear hfz41_0
        try clear hfz41_1
        try clear hfz41_2
        try clear hfz41_3
        try clear hfz47_0
        try clear hfz47_1
        try clear hfz47_2
        try clear hfz47_3
        try clear p2
        try clear p6
        obtain ⟨x59_3, x276003_3, u276003, rfl, HA, HK3, HO_276003, BK266, BK267, BK275, HB⟩ := hrel
        cases gk with
        | zero => exact absurd HA.out (by simp [mat_Matrix_Cut.l1])
        | succ k3 =>
         have H := HA.out
         clear HA
         simp only [mat_Matrix_Cut.l1] at H
         by_cases c50 : x59_3 < a4
         ·
          rw [if_pos c50] at H
          have c50b0 : decide (x59_3 < a4) = true := decide_eq_true c50
          clear c50
          obtain ⟨t276, A510, H⟩ := Option.bind_eq_some_iff.mp H
          (try dsimp -simprocs only at H)
          have A51 := Aside0.mk A510
          clear A510
          obtain ⟨t277, A520, H⟩ := Option.bind_eq_some_iff.mp H
          (try dsimp -simprocs only at H)
          have A52 := Aside0.mk A520
          clear A520
          have H' := Aside0.mk H
          clear H
          try go_wp2
          have n0_ := Aside0.mk (Kd.R_drew HO_276003.out)
          have n1_ := Aside0.mk (blk_drew BK266.out)
          have n2_ := Aside0.mk (blk_drew BK267.out)
          have n3_ := Aside0.mk (blk_drew BK275.out)
          have n4_ := Aside0.mk (below_drew1 HB.out)
          clear HO_276003
          clear BK266
          clear BK267
          clear BK275
          clear HB
          have HO_276003 := n0_
          have BK266 := n1_
          have BK267 := n2_
          have BK275 := n3_
          have HB := n4_
          clear n0_ n1_ n2_ n3_ n4_
          refine start_ (n := 12) (S := fun w' => w'.cell? ⟨gb275, 0, none⟩ = some (.int .i64 t269) ∧ w'.cell? ⟨gb275, 1, none⟩ = some (.int .i64 t270) ∧ w'.cell? ⟨gb275, 2, none⟩ = some (.int .i64 t271) ∧ w'.cell? ⟨gb275, 3, none⟩ = some (u276003) ∧ w'.cell? ⟨gb266, 0, none⟩ = some (.int .i64 a0_0) ∧ w'.cell? ⟨gb266, 1, none⟩ = some (.int .i64 a0_1) ∧ w'.cell? ⟨gb266, 2, none⟩ = some (.int .i64 a0_2) ∧ w'.cell? ⟨gb266, 3, none⟩ = some (.slice A0_3 l0_3.length c0_3)) (ds := []) #[false, false, false, false, false, false, false, false, false, false, false, false] (by kernel_rfl) rfl rfl ⟨(blk_cell BK275.out 0).trans rfl, (blk_cell BK275.out 1).trans rfl, (blk_cell BK275.out 2).trans rfl, (blk_cell BK275.out 3).trans rfl, (blk_cell BK266.out 0).trans rfl, (blk_cell BK266.out 1).trans rfl, (blk_cell BK266.out 2).trans rfl, (blk_cell BK266.out 3).trans rfl⟩ (fun hHeld => ?_); refine with_tabW mat_Matrix_Cut.tab10 mat_Matrix_Cut.bits10 (fun HT_ HW_ => ?_)
          generalize wr.drew = w53 at HO_276003 BK266 BK267 BK275 HB hHeld ⊢
          refine pure_ (i := 1) (N := some 63) (v := ?_) (a' := ?_) #[false, true, false, false, false, false, false, false, false, false, false, false] rfl rfl (any_of HT_.out (by kernel_rfl)) (fun _ _ _ h => h) (Or.inl ⟨by rfl, ?_⟩) ?_ ?_
          rotate_left
          ·
           intro w'
           go_simp
           with_reducible rfl
          rotate_left
          ·
           simp only [Act.put, List.setIfInBounds_toArray, List.set_cons_zero, List.set_cons_succ, i64_w, i32_w]
           rfl
          refine pure_ (i := 2) (N := some 64) (v := ?_) (a' := ?_) #[false, true, true, false, false, false, false, false, false, false, false, false] rfl rfl (any_of HT_.out (by kernel_rfl)) (fun _ _ _ h => h) (Or.inl ⟨by rfl, ?_⟩) ?_ ?_
          rotate_left
          ·
           intro w'
           go_simp
           with_reducible rfl
          rotate_left
          ·
           simp only [Act.put, List.setIfInBounds_toArray, List.set_cons_zero, List.set_cons_succ, i64_w, i32_w]
           rfl
          refine pure_ (i := 4) (N := some 66) (v := ?_) (a' := ?_) #[false, true, true, false, true, false, false, false, false, false, false, false] rfl rfl (any_of HT_.out (by kernel_rfl)) (fun _ _ _ h => h) (Or.inl ⟨by rfl, ?_⟩) ?_ ?_
          rotate_left
          ·
           intro w'
           go_simp
           with_reducible rfl
          rotate_left
          ·
           simp only [Act.put, List.setIfInBounds_toArray, List.set_cons_zero, List.set_cons_succ, i64_w, i32_w]
           rfl
          refine pure_ (i := 5) (N := some 67) (v := ?_) (a' := ?_) #[false, true, true, false, true, true, false, false, false, false, false, false] rfl rfl (any_of HT_.out (by kernel_rfl)) (fun _ _ _ h => h) (Or.inl ⟨by rfl, ?_⟩) ?_ ?_
          rotate_left
          ·
           intro w'
           go_simp
           with_reducible rfl
          rotate_left
          ·
           simp only [Act.put, List.setIfInBounds_toArray, List.set_cons_zero, List.set_cons_succ, i64_w, i32_w]
           rfl
          refine pure_ (i := 6) (N := some 68) (v := ?_) (a' := ?_) #[false, true, true, false, true, true, true, false, false, false, false, false] rfl rfl (any_of HT_.out (by kernel_rfl)) (fun _ _ _ h => h) (Or.inl ⟨by rfl, ?_⟩) ?_ ?_
          rotate_left
          ·
           intro w'
           go_simp
           with_reducible rfl
          rotate_left
          ·
           simp only [Act.put, List.setIfInBounds_toArray, List.set_cons_zero, List.set_cons_succ, i64_w, i32_w]
           rfl
          refine pure_ (i := 7) (N := some 69) (v := ?_) (a' := ?_) #[false, true, true, false, true, true, true, true, false, false, false, false] rfl rfl (any_of HT_.out (by kernel_rfl)) (fun _ _ _ h => h) (Or.inl ⟨by rfl, ?_⟩) ?_ ?_
          rotate_left
          ·
           intro w'
           go_simp
           with_reducible rfl
          rotate_left
          ·
           simp only [Act.put, List.setIfInBounds_toArray, List.set_cons_zero, List.set_cons_succ, i64_w, i32_w]
           rfl
          refine pure_ (i := 8) (N := some 70) (v := ?_) (a' := ?_) #[false, true, true, false, true, true, true, true, true, false, false, false] rfl rfl (any_of HT_.out (by kernel_rfl)) (fun _ _ _ h => h) (Or.inl ⟨by rfl, ?_⟩) ?_ ?_
          rotate_left
          ·
           intro w'
           go_simp
           with_reducible rfl
          rotate_left
          ·
           simp only [Act.put, List.setIfInBounds_toArray, List.set_cons_zero, List.set_cons_succ, i64_w, i32_w]
           rfl
          refine pure_ (i := 9) (N := some 71) (v := ?_) (a' := ?_) #[false, true, true, false, true, true, true, true, true, true, false, false] rfl rfl (any_of HT_.out (by kernel_rfl)) (fun _ _ _ h => h) (Or.inl ⟨by rfl, ?_⟩) ?_ ?_
          rotate_left
          ·
           intro w'
           go_simp
           with_reducible rfl
          rotate_left
          ·
           simp only [Act.put, List.setIfInBounds_toArray, List.set_cons_zero, List.set_cons_succ, i64_w, i32_w]
           rfl
          refine take_ (i := 0) (N := some 62) (v := ?_) (a' := ?_) #[true, true, true, false, true, true, true, true, true, true, false, false] rfl rfl (take_ofW HT_.out HW_.out (by kernel_rfl)) (fun _ _ _ h => h) (Or.inl ⟨by rfl, ?_⟩) hHeld ?_ ?_
          rotate_left
          ·
           rintro w' ⟨s0, s1, s2, s3, s4, s5, s6, s7⟩
           go_simp
           with_reducible rfl
          rotate_left
          ·
           simp only [Act.put, List.setIfInBounds_toArray, List.set_cons_zero, List.set_cons_succ, i64_w, i32_w]
           rfl
          refine take_ (i := 3) (N := some 65) (v := ?_) (a' := ?_) #[true, true, true, true, true, true, true, true, true, true, false, false] rfl rfl (take_ofW HT_.out HW_.out (by kernel_rfl)) (fun _ _ _ h => h) (Or.inl ⟨by rfl, ?_⟩) hHeld ?_ ?_
          rotate_left
          ·
           rintro w' ⟨s0, s1, s2, s3, s4, s5, s6, s7⟩
           go_simp
           with_reducible rfl
          rotate_left
          ·
           simp only [Act.put, List.setIfInBounds_toArray, List.set_cons_zero, List.set_cons_succ, i64_w, i32_w]
           rfl
          refine one_ (i := 10) (N := some 72) #[true, true, true, true, true, true, true, true, true, true, true, false] rfl rfl (one_of HT_.out (by kernel_rfl)) (by decide) (fun K hK => ?_)
          refine goes_ Try.func11 (by kernel_rfl) rfl #[.agg #[.int .i64 a0_0, .int .i64 a0_1, .int .i64 a0_2, .slice A0_3 l0_3.length c0_3], .int .i64 (wrap64 (a1 + x55_2)), .int .i64 (wrap64 (a2 + x59_3))] (by rfl) rfl rfl ga ?_
          with_reducible refine (mat_Matrix_At.calls a0_0 a0_1 a0_2 _ _ l0_3 (wrap64 (a1 + x55_2)) (wrap64 (a2 + x59_3)) t276 _ ?side1 ?side2 A51.out).mono ?_
          (case side1 => repeat (first | exact (Kd.C_below HR0_3.out HB.out) | (with_reducible refine Kd.C_alloc ?_ _) | (with_reducible refine Kd.C_drewN ?_ _) | (with_reducible refine Kd.C_drew ?_)))
          (case side2 => exact HC0_3.out)
          rintro e w54 ⟨rfl, hb⟩
          refine ⟨_, rfl, ?_⟩
          have n0_ := Aside0.mk (Kd.R_below (kr HO_276003) hb)
          have n1_ := Aside0.mk (blk_below (g := gb266) (o := .cells #[.int .i64 a0_0, .int .i64 a0_1, .int .i64 a0_2, .slice A0_3 l0_3.length c0_3] 25 (0, 0)) (kb BK266) hb)
          have n2_ := Aside0.mk (blk_below (g := gb267) (o := .cells #[.int .i64 0, .int .i64 0, .int .i64 0, .slice none 0 0] 25 (0, 0)) (kb BK267) hb)
          have n3_ := Aside0.mk (blk_below (g := gb275) (o := .cells #[.int .i64 t269, .int .i64 t270, .int .i64 t271, u276003] 25 (0, 0)) (kb BK275) hb)
          have n4_ := Aside0.mk (below_step bes hb)
          clear HO_276003
          clear BK266
          clear BK267
          clear BK275
          clear HB
          have HO_276003 := n0_
          have BK266 := n1_
          have BK267 := n2_
          have BK275 := n3_
          have HB := n4_
          clear n0_ n1_ n2_ n3_ n4_
          (try clear hb)
          (try clear hb2)
          (try clear hk)
          (try clear hi)
          obtain ⟨Ao55, co55, eo55⟩ := Kd.R_slice HO_276003.out
          (first | subst eo55 | (injection eo55 with f1_ f2_ f3_; have f4_ := f1_.symm; have f5_ := f3_.symm; clear f1_ f2_ f3_; subst f4_; subst f5_))
          refine hK.out _ _ ⟨(blk_cell BK275.out 0).trans rfl, (blk_cell BK275.out 1).trans rfl, (blk_cell BK275.out 2).trans rfl, (blk_cell BK275.out 3).trans rfl, (blk_cell BK266.out 0).trans rfl, (blk_cell BK266.out 1).trans rfl, (blk_cell BK266.out 2).trans rfl, (blk_cell BK266.out 3).trans rfl⟩ (fun hHeld => ?_)
          clear hK K
          refine norm_ (a' := ?_) ?_ ?_
          rotate_left
          ·
           show Act.put _ (some 72) _ = _
           simp only [Act.put, List.setIfInBounds_toArray, List.set_cons_zero, List.set_cons_succ, i64_w, i32_w]
           rfl
          refine one_ (i := 11) (N := some 73) #[true, true, true, true, true, true, true, true, true, true, true, true] rfl rfl (one_of HT_.out (by kernel_rfl)) (by decide) (fun K hK => ?_)
          refine goes_ Try.func14 (by kernel_rfl) rfl #[.agg #[.int .i64 t269, .int .i64 t270, .int .i64 t271, .slice Ao55 x276003_3.length co55], .int .i64 x55_2, .int .i64 x59_3, .int .u64 t276] (by rfl) rfl rfl ga ?_
          with_reducible refine (mat_Matrix_Set.calls t269 t270 t271 (fun k_ => some k_ = (.slice Ao55 x276003_3.length co55 : Value).ownBlock) (.slice Ao55 x276003_3.length co55) x276003_3 x55_2 x59_3 t276 t277 w _ ?side1 ?side2 A52.out).mono ?_
          (case side1 => repeat (first | (with_reducible first | exact HB.out | apply below_alloc | apply pw_below_drewN | apply below_drew1 | refine below_set ?_ GE266.out | refine below_set ?_ GE267.out | refine below_set ?_ GE275.out) | exact HB.out))
          (case side2 => exact Kd.R_tight rfl HO_276003.out)
          rintro e w56 ⟨rfl, hy0, hb, hkp⟩
          refine ⟨_, rfl, ?_⟩
          have n0_ := Aside0.mk (Kd.R_reok rfl hy0 (fun k_ e_ => HO_276003.out.1 k_ e_))
          have n1_ := Aside0.mk (blk_kept (kb BK266) hkp (fun hs_ => (fun e_ => (Kd.R_ne HO_276003.out BK266.out (by decide)) e_) hs_))
          have n2_ := Aside0.mk (blk_kept (kb BK267) hkp (fun hs_ => (fun e_ => (Kd.R_ne HO_276003.out BK267.out (by decide)) e_) hs_))
          have n3_ := Aside0.mk (blk_kept (kb BK275) hkp (fun hs_ => (fun e_ => (Kd.R_ne HO_276003.out BK275.out (by decide)) e_) hs_))
          have n4_ := Aside0.mk (hb)
          clear HO_276003
          clear BK266
          clear BK267
          clear BK275
          clear HB
          have HO_276003 := n0_
          have BK266 := n1_
          have BK267 := n2_
          have BK275 := n3_
          have HB := n4_
          clear n0_ n1_ n2_ n3_ n4_
          (try clear hb)
          (try clear hkp)
          (try clear hy0)
          refine hK.out _ _ ⟨(blk_cell BK275.out 0).trans rfl, (blk_cell BK275.out 1).trans rfl, (blk_cell BK275.out 2).trans rfl, (blk_cell BK275.out 3).trans rfl, (blk_cell BK266.out 0).trans rfl, (blk_cell BK266.out 1).trans rfl, (blk_cell BK266.out 2).trans rfl, (blk_cell BK266.out 3).trans rfl⟩ (fun hHeld => ?_)
          clear hK K
          refine norm_ (a' := ?_) ?_ ?_
          rotate_left
          ·
           show Act.put _ (some 73) _ = _
           simp only [Act.put, List.setIfInBounds_toArray, List.set_cons_zero, List.set_cons_succ, i64_w, i32_w]
           rfl
          refine done_ (done_of HT_.out (by kernel_rfl)) ?_
          try go_wp2
          go_roundg k3
          case measure => have := HJ5.out; have := HK2.out; have := HK3.out; omega
          case rel => exact ⟨(wrap64 (x59_3 + 1)), (t277), (.slice Ao55 x276003_3.length co55), (by first | rfl | (simp; done) | (simp [*]; done)), H', ⟨by have := HJ5.out; have := HK2.out; have := HK3.out; omega⟩, ⟨by (with_reducible repeat (first | apply Kd.R_alloc | apply Kd.R_drewN | apply Kd.R_drew)); exact HO_276003.out⟩, ⟨kb BK266⟩, ⟨kb BK267⟩, ⟨kb BK275⟩, ⟨bes⟩⟩
         ·
          rw [if_neg c50] at H
          have c50b0 : decide (x59_3 < a4) = false := decide_eq_false c50
          clear c50
          have H' := Aside0.mk H
          clear H
          go_wp2
          go_roundg k3
          case measure => have := HJ5.out; have := HK2.out; have := HK3.out; omega
          case rel => exact ⟨(wrap64 (x55_2 + 1)), (x276003_3), (u276003), (by first | rfl | (simp; done) | (simp [*]; done)), H', ⟨by have := HJ5.out; have := HK2.out; have := HK3.out; omega⟩, ⟨by (with_reducible repeat (first | apply Kd.R_alloc | apply Kd.R_drewN | apply Kd.R_drew)); exact HO_276003.out⟩, ⟨kb BK266⟩, ⟨kb BK267⟩, ⟨kb BK275⟩, ⟨bes⟩⟩
      ·
       rw [if_neg c49] at H
       have c49b0 : decide (x55_2 < a3) = false := decide_eq_false c49
       clear c49
       simp only [Option.some.injEq, Prod.mk.injEq] at H
       obtain ⟨rfl, rfl, rfl, rfl, rfl⟩ := H
       have hnb57 := NB275_266.out
       have hnc57 := NB266_275.out
       have hnb58 := NB275_267.out
       have hnc58 := NB267_275.out
       have hcz59_0 : wr.cell? ⟨gb275, 0, none⟩ = some (.int .i64 t269) := (blk_cell BK275.out 0).trans rfl
       have hcz59_1 : wr.cell? ⟨gb275, 1, none⟩ = some (.int .i64 t270) := (blk_cell BK275.out 1).trans rfl
       have hcz59_2 : wr.cell? ⟨gb275, 2, none⟩ = some (.int .i64 t271) := (blk_cell BK275.out 2).trans rfl
       have hcz59_3 : wr.cell? ⟨gb275, 3, none⟩ = some (u276003) := (blk_cell BK275.out 3).trans rfl
       have hfz59_0 := blk_frozen BK275.out 0
       have hfz59_1 := blk_frozen BK275.out 1
       have hfz59_2 := blk_frozen BK275.out 2
       have hfz59_3 := blk_frozen BK275.out 3
       have hnb60 := NB267_266.out
       have hnc60 := NB266_267.out
       have hcz61_0 : wr.cell? ⟨gb267, 0, none⟩ = some (.int .i64 0) := (blk_cell BK267.out 0).trans rfl
       have hcz61_1 : wr.cell? ⟨gb267, 1, none⟩ = some (.int .i64 0) := (blk_cell BK267.out 1).trans rfl
       have hcz61_2 : wr.cell? ⟨gb267, 2, none⟩ = some (.int .i64 0) := (blk_cell BK267.out 2).trans rfl
       have hcz61_3 : wr.cell? ⟨gb267, 3, none⟩ = some (.slice none 0 0) := (blk_cell BK267.out 3).trans rfl
       have hfz61_0 := blk_frozen BK267.out 0
       have hfz61_1 := blk_frozen BK267.out 1
       have hfz61_2 := blk_frozen BK267.out 2
       have hfz61_3 := blk_frozen BK267.out 3
       obtain ⟨Ao62, co62, eo62⟩ := Kd.R_slice HO_276003.out
       subst eo62
       go_wp2
       refine bodyPost_ret (results_ct rfl _ _ gb267 25 #[.int .i64 t269, .int .i64 t270, .int .i64 t271, .slice Ao62 x276003_2.length co62] (0, 0) _ rfl (by (with_reducible repeat (first | refine blk_drewN ?_ _ | refine blk_drew ?_ | refine blk_alloc ?_ _)); refine blk_put (cs := #[.int .i64 t269, .int .i64 t270, .int .i64 t271, .slice none 0 0]) ?_ 3 _ rfl; (with_reducible repeat (first | refine blk_drewN ?_ _ | refine blk_drew ?_ | refine blk_alloc ?_ _)); refine blk_put (cs := #[.int .i64 t269, .int .i64 t270, .int .i64 0, .slice none 0 0]) ?_ 2 _ rfl; (with_reducible repeat (first | refine blk_drewN ?_ _ | refine blk_drew ?_ | refine blk_alloc ?_ _)); refine blk_put (cs := #[.int .i64 t269, .int .i64 0, .int .i64 0, .slice none 0 0]) ?_ 1 _ rfl; (with_reducible repeat (first | refine blk_drewN ?_ _ | refine blk_drew ?_ | refine blk_alloc ?_ _)); refine blk_put (cs := #[.int .i64 0, .int .i64 0, .int .i64 0, .slice none 0 0]) ?_ 0 _ rfl; (with_reducible repeat (first | refine blk_drewN ?_ _ | refine blk_drew ?_ | refine blk_alloc ?_ _)); exact BK267.out) Try.underlying25 rfl (by kernel_rfl)) rfl ?_
       exact ⟨_, er, by (with_reducible repeat (first | apply Kd.R_alloc | apply Kd.R_drewN | apply Kd.R_drew)); exact Kd.R_mono (Kd.R_far (p := ⟨gb267, 3, none⟩) (Kd.R_far (p := ⟨gb267, 2, none⟩) (Kd.R_far (p := ⟨gb267, 1, none⟩) (Kd.R_far (p := ⟨gb267, 0, none⟩) (Kd.R_types HO_276003.out BK267.out (by decide)) (fun _ hk => hk.2) (.int .i64 t269)) (fun _ hk => hk.2) (.int .i64 t270)) (fun _ hk => hk.2) (.int .i64 t271)) (fun _ hk => hk.2) (.slice Ao62 x276003_2.length co62)) (fun _ hk => trivial), bes⟩

end Go.Proofs.Ytenegelkbfmjkaa.F
