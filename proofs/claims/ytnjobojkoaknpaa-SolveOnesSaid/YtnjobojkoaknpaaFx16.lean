-- Written by a program of this seat's session (mkprint), out of the translation.
import Derived.Test.YtnjobojkoaknpaaShort
import Derived.Test.YtnjobojkoaknpaaFx0
import Derived.Test.YtnjobojkoaknpaaFx2
import Derived.Test.YtnjobojkoaknpaaFx7
import Derived.Test.YtnjobojkoaknpaaFx8
import Derived.Test.YtnjobojkoaknpaaFx15
namespace Go.Proofs.Ytnjobojkoaknpaa.F
open Go.RowKit Go.Proofs.YtnjobojkoaknpaaW.PrintWords Go.Proofs.YtnjobojkoaknpaaW.PrintLast Go.Proofs.YtnjobojkoaknpaaW.PrintMore
attribute [local go_sem] max2_int min2_int max_two min_two max_three min_three max_four min_four   -- for this text's walks alone
set_option linter.unusedVariables false
set_option linter.unusedSimpArgs false

attribute [local go_sem] sel_run60
/-! ### solve_Trmv_nil: function 23 -/
mutual
def solve_Trmv_nil.j0 : Nat → Bool → Bool → List Int → Bool → Int → Int → Int → List Int → Option (List Int × Int)
 | 0, _, _, _, _, _, _, _, _ => none
 | k + 1, x2, x3, x4, x34, x480000, x480001, x480002, x480003 => if x34 = true then (some (([] : List Int), 4)) else (solve_Trmv_nil.l0 k x2 x3 x4 ([] : List Int) x480000 0 x480000 x480001 x480002 x480003)
def solve_Trmv_nil.l0 : Nat → Bool → Bool → List Int → List Int → Int → Int → Int → Int → Int → List Int → Option (List Int × Int)
 | 0, _, _, _, _, _, _, _, _, _, _ => none
 | k + 1, x2, x3, x4, x12, x36, x37, x480000, x480001, x480002, x480003 => if x37 < x36 then (if 0 ≤ x37 then (if x37 < (x4.length : Int) then (if x3 = true then (solve_Trmv_nil.j2 k x2 x3 x4 x12 x37 (rd x4 x37) x36 x37 x480000 x480001 x480002 x480003) else ((mat_Matrix_At.f x480000 x480001 x480002 x480003 x37 x37).bind fun t482 => ((soft_Calc_Mul_nil.f k t482 (rd x4 x37)).bind fun t484 => (solve_Trmv_nil.j2 k x2 x3 x4 x12 x37 t484 x36 x37 x480000 x480001 x480002 x480003)))) else (none)) else (none)) else (some (x12, 0))
def solve_Trmv_nil.j2 : Nat → Bool → Bool → List Int → List Int → Int → Int → Int → Int → Int → Int → Int → List Int → Option (List Int × Int)
 | 0, _, _, _, _, _, _, _, _, _, _, _, _ => none
 | k + 1, x2, x3, x4, x12, x13, x14, x36, x37, x480000, x480001, x480002, x480003 => if x2 = true then ((solve_of_t.f x2).bind fun t485 => ((solve_of_1.f x13 x480001).bind fun bt486 => (solve_Trmv_nil.j3 k x2 x3 x4 x12 x13 x14 bt486.1 bt486.2 x36 x37 x480000 x480001 x480002 x480003))) else ((solve_of_e.f x2).bind fun t488 => ((solve_of_2.f x13 x480001).bind fun bt489 => (solve_Trmv_nil.j3 k x2 x3 x4 x12 x13 x14 bt489.1 bt489.2 x36 x37 x480000 x480001 x480002 x480003)))
def solve_Trmv_nil.j3 : Nat → Bool → Bool → List Int → List Int → Int → Int → Int → Int → Int → Int → Int → Int → Int → List Int → Option (List Int × Int)
 | 0, _, _, _, _, _, _, _, _, _, _, _, _, _, _ => none
 | k + 1, x2, x3, x4, x12, x13, x14, x15, x16, x36, x37, x480000, x480001, x480002, x480003 => solve_Trmv_nil.l1 k x2 x3 x4 x12 x13 x14 x16 x15 x36 x37 x480000 x480001 x480002 x480003
def solve_Trmv_nil.l1 : Nat → Bool → Bool → List Int → List Int → Int → Int → Int → Int → Int → Int → Int → Int → Int → List Int → Option (List Int × Int)
 | 0, _, _, _, _, _, _, _, _, _, _, _, _, _, _ => none
 | k + 1, x2, x3, x4, x12, x13, x14, x16, x17, x36, x37, x480000, x480001, x480002, x480003 => if x17 < x16 then ((mat_Matrix_At.f x480000 x480001 x480002 x480003 x13 x17).bind fun t491 => (if 0 ≤ x17 then (if x17 < (x4.length : Int) then ((soft_Calc_Mul_nil.f k t491 (rd x4 x17)).bind fun t493 => ((soft_Calc_Add_nil.f k x14 t493).bind fun t494 => (solve_Trmv_nil.l1 k x2 x3 x4 x12 x13 t494 x16 (wrap64 (x17 + 1)) x36 x37 x480000 x480001 x480002 x480003))) else (none)) else (none))) else (if x12.length < 17592186044416 then (solve_Trmv_nil.l0 k x2 x3 x4 (x12 ++ [x14]) x36 (wrap64 (x37 + 1)) x480000 x480001 x480002 x480003) else (none))
end
def solve_Trmv_nil.f (k : Nat)  (a1_0 : Int) (a1_1 : Int) (a1_2 : Int) (l1_3 : List Int) (a2 : Bool) (a3 : Bool) (l4 : List Int) : Option (List Int × Int) := (mat_Matrix_Check.f k a1_0 a1_1 a1_2 l1_3).bind fun t480 => (if t480 = 0 then (if a1_0 = a1_1 then (solve_Trmv_nil.j0 k a2 a3 l4 (a1_1 != (l4.length : Int)) a1_0 a1_1 a1_2 l1_3) else (solve_Trmv_nil.j0 k a2 a3 l4 true a1_0 a1_1 a1_2 l1_3)) else (solve_Trmv_nil.j0 k a2 a3 l4 true a1_0 a1_1 a1_2 l1_3))
theorem solve_Trmv_nil.mono_l : ∀ k, (∀ y0 y1 y2 y3 y4 y5 y6 y7, LeO (solve_Trmv_nil.j0 k y0 y1 y2 y3 y4 y5 y6 y7) (solve_Trmv_nil.j0 (k + 1) y0 y1 y2 y3 y4 y5 y6 y7)) ∧ (∀ y0 y1 y2 y3 y4 y5 y6 y7 y8 y9, LeO (solve_Trmv_nil.l0 k y0 y1 y2 y3 y4 y5 y6 y7 y8 y9) (solve_Trmv_nil.l0 (k + 1) y0 y1 y2 y3 y4 y5 y6 y7 y8 y9)) ∧ (∀ y0 y1 y2 y3 y4 y5 y6 y7 y8 y9 y10 y11, LeO (solve_Trmv_nil.j2 k y0 y1 y2 y3 y4 y5 y6 y7 y8 y9 y10 y11) (solve_Trmv_nil.j2 (k + 1) y0 y1 y2 y3 y4 y5 y6 y7 y8 y9 y10 y11)) ∧ (∀ y0 y1 y2 y3 y4 y5 y6 y7 y8 y9 y10 y11 y12 y13, LeO (solve_Trmv_nil.j3 k y0 y1 y2 y3 y4 y5 y6 y7 y8 y9 y10 y11 y12 y13) (solve_Trmv_nil.j3 (k + 1) y0 y1 y2 y3 y4 y5 y6 y7 y8 y9 y10 y11 y12 y13)) ∧ (∀ y0 y1 y2 y3 y4 y5 y6 y7 y8 y9 y10 y11 y12 y13, LeO (solve_Trmv_nil.l1 k y0 y1 y2 y3 y4 y5 y6 y7 y8 y9 y10 y11 y12 y13) (solve_Trmv_nil.l1 (k + 1) y0 y1 y2 y3 y4 y5 y6 y7 y8 y9 y10 y11 y12 y13))
 | 0 => ⟨fun _ _ _ _ _ _ _ _ r h => by simp [solve_Trmv_nil.j0] at h, fun _ _ _ _ _ _ _ _ _ _ r h => by simp [solve_Trmv_nil.l0] at h, fun _ _ _ _ _ _ _ _ _ _ _ _ r h => by simp [solve_Trmv_nil.j2] at h, fun _ _ _ _ _ _ _ _ _ _ _ _ _ _ r h => by simp [solve_Trmv_nil.j3] at h, fun _ _ _ _ _ _ _ _ _ _ _ _ _ _ r h => by simp [solve_Trmv_nil.l1] at h⟩
 | k + 1 => by
  obtain ⟨ih0, ih1, ih2, ih3, ih4⟩ := solve_Trmv_nil.mono_l k
  refine ⟨?_, ?_, ?_, ?_, ?_⟩ <;> intros <;> (first | unfold solve_Trmv_nil.j0 | unfold solve_Trmv_nil.l0 | unfold solve_Trmv_nil.j2 | unfold solve_Trmv_nil.j3 | unfold solve_Trmv_nil.l1) <;>
   repeat' with_reducible first | apply ih0 | apply ih1 | apply ih2 | apply ih3 | apply ih4 | apply mat_Matrix_Check.mono | apply soft_Calc_Add_nil.mono | apply soft_Calc_Mul_nil.mono | exact LeO.refl _ | exact LeO.none _ | refine LeO.ite ?_ ?_ | refine LeO.bind ?_ (fun _ => ?_)
theorem solve_Trmv_nil.mono : ∀ a0 a1 a2 a3 a4 a5 a6 k, LeO (solve_Trmv_nil.f k a0 a1 a2 a3 a4 a5 a6) (solve_Trmv_nil.f (k + 1) a0 a1 a2 a3 a4 a5 a6) := by
 intro a0 a1 a2 a3 a4 a5 a6 k
 obtain ⟨ih0, ih1, ih2, ih3, ih4⟩ := solve_Trmv_nil.mono_l k
 unfold solve_Trmv_nil.f
 repeat' with_reducible first | apply ih0 | apply ih1 | apply ih2 | apply ih3 | apply ih4 | apply mat_Matrix_Check.mono | apply soft_Calc_Add_nil.mono | apply soft_Calc_Mul_nil.mono | exact LeO.refl _ | exact LeO.none _ | refine LeO.ite ?_ ?_ | refine LeO.bind ?_ (fun _ => ?_)
def solve_Trmv_nil.T9 : Bool × List (List Nat × List Nat) := (true, [([], []), ([], []), ([], []), ([], []), ([1, 2, 3], [1, 2, 3]), ([], []), ([], []), ([5, 6], [5, 6]), ([7], [7]), ([0, 4, 8, 4], [0, 4, 8]), ([9, 9, 0, 1, 2, 3, 4, 5, 6, 7, 8, 9], [9])])
def solve_Trmv_nil.B9 : List Nat := [0, 0, 0, 0, 14, 0, 0, 96, 224, 511, 1023]
theorem solve_Trmv_nil.tab9 : rtab .any (opsOf Try.f23 9) = solve_Trmv_nil.T9 := by kernel_rfl
theorem solve_Trmv_nil.bits9 : waitsOk solve_Trmv_nil.T9.2 solve_Trmv_nil.B9 = true := by kernel_rfl
def solve_Trmv_nil.T10 : Bool × List (List Nat × List Nat) := (true, [([], []), ([0], [0]), ([1], [1]), ([], []), ([], []), ([4], [4]), ([2, 3, 5, 1], [2, 3, 5]), ([6], [6]), ([7], [7]), ([7], [7]), ([8, 6, 0, 1, 2, 3, 4, 5, 6, 7, 8], [8]), ([9, 10, 0, 1, 2, 3, 4, 5, 6, 7, 8, 9, 10], [9])])
def solve_Trmv_nil.B10 : List Nat := [0, 1, 3, 0, 0, 16, 63, 127, 255, 255, 511, 2047]
theorem solve_Trmv_nil.tab10 : rtab .any (opsOf Try.f23 10) = solve_Trmv_nil.T10 := by kernel_rfl
theorem solve_Trmv_nil.bits10 : waitsOk solve_Trmv_nil.T10.2 solve_Trmv_nil.B10 = true := by kernel_rfl
def solve_Trmv_nil.T14 : Bool × List (List Nat × List Nat) := (true, [([], []), ([], []), ([], []), ([], []), ([], []), ([], []), ([3, 4, 5], [3, 4, 5]), ([], []), ([], []), ([7, 8], [7, 8]), ([9], [9]), ([2, 6, 10, 6], [2, 6, 10]), ([0, 1, 11, 11], [0, 1, 11]), ([12, 12, 0, 1, 2, 3, 4, 5, 6, 7, 8, 9, 10, 11, 12], [1, 12])])
def solve_Trmv_nil.B14 : List Nat := [0, 0, 0, 0, 0, 0, 56, 0, 0, 384, 896, 2044, 4095, 8191]
theorem solve_Trmv_nil.tab14 : rtab .any (opsOf Try.f23 14) = solve_Trmv_nil.T14 := by kernel_rfl
theorem solve_Trmv_nil.bits14 : waitsOk solve_Trmv_nil.T14.2 solve_Trmv_nil.B14 = true := by kernel_rfl
set_option maxHeartbeats 8000000 in
set_option maxRecDepth 100000 in
theorem solve_Trmv_nil.calls (k : Nat)  (a1_0 : Int) (a1_1 : Int) (a1_2 : Int) (A1_3 : Option Addr) (c1_3 : Nat) (l1_3 : List Int) (a2 : Bool) (a3 : Bool) (A4 : Option Addr) (c4 : Nat) (l4 : List Int) (r1 : List Int) (r2 : Int) (w : World) (hr1_3 : Kd.C (Kd.int .u64) w A1_3 l1_3.length l1_3) (hc1_3 : l1_3.length ≤ c1_3) (hr4 : Kd.C (Kd.int .u64) w A4 l4.length l4) (hc4 : l4.length ≤ c4) (h : solve_Trmv_nil.f k a1_0 a1_1 a1_2 l1_3 a2 a3 l4 = some (r1, r2)) :
  Calls Try.prog 23 #[.pointer none, .agg #[.int .i64 a1_0, .int .i64 a1_1, .int .i64 a1_2, .slice A1_3 l1_3.length c1_3], .bool a2, .bool a3, .slice A4 l4.length c4] w fun e w' => ∃ v0_ : Value, e = .returned (.tuple #[v0_, .int .i64 r2]) ∧ Kd.R (Kd.int .u64) 35 w' w.heap.size (fun _ => True) v0_ r1 ∧ Below w.heap.size w w' := by
 have hu25 := Try.underlying25
 have hu60 := Try.underlying60
 have HR1_3 := Aside0.mk hr1_3
 have HC1_3 := Aside0.mk hc1_3
 clear hr1_3 hc1_3
 have HR4 := Aside0.mk hr4
 have HC4 := Aside0.mk hc4
 clear hr4 hc4
 have HB := Aside0.mk (Below.refl w.heap.size w)
 have H : ((mat_Matrix_Check.f k a1_0 a1_1 a1_2 l1_3).bind fun t480 => (if t480 = 0 then (if a1_0 = a1_1 then (solve_Trmv_nil.j0 k a2 a3 l4 (a1_1 != (l4.length : Int)) a1_0 a1_1 a1_2 l1_3) else (solve_Trmv_nil.j0 k a2 a3 l4 true a1_0 a1_1 a1_2 l1_3)) else (solve_Trmv_nil.j0 k a2 a3 l4 true a1_0 a1_1 a1_2 l1_3))) = some (r1, r2) := h
 clear h
 have HC6 := Aside0.mk H
 clear H
 go_enter Try.func23, Try.ntmps23
 go_upto_region 1 with (first | ((with_reducible refine gate_dst (N := 6) rfl ?_); refine gbox (N := 6) (cs := #[.int .i64 a1_0, .int .i64 a1_1, .int .i64 a1_2, .slice A1_3 l1_3.length c1_3]) (t := 25) ?_; intro gb479 hg w7 hbox hb; refine ax4 (below_step bel hb) hbox ((ge hg : w.heap.size ≤ gb479)) ((ge hg : w.heap.size ≤ gb479)) ?_; clear HB; intro HB BK479 GW479 GE479; clear hb hbox hg))
 (try simp only [Act.put, sa0, sa1, sa2])
 go_cut [34] (fun v34 wc => ∃ (kq : Nat) (x34_5 : Bool), v34 = .bool x34_5 ∧ Aside0 (solve_Trmv_nil.j0 kq a2 a3 l4 x34_5 a1_0 a1_1 a1_2 l1_3 = some (r1, r2)) ∧ Aside0 (kq ≤ k) ∧ Aside0 (wc.heap[gb479]? = some (.cells #[.int .i64 a1_0, .int .i64 a1_1, .int .i64 a1_2, (.slice A1_3 l1_3.length c1_3)] 25 (0, 0))) ∧ Aside0 (Below w.heap.size w wc))
 case first =>
  have H := HC6.out
  clear HC6
  obtain ⟨t480, A80, H⟩ := Option.bind_eq_some_iff.mp H
  (try dsimp -simprocs only at H)
  have A8 := Aside0.mk A80
  clear A80
  by_cases c9 : t480 = 0
  ·
   rw [if_pos c9] at H
   have c9b0 : (t480 == 0) = true := beq_iff_eq.mpr c9
   have c9b1 : (t480 != 0) = false := bne_eq_false_iff_eq.mpr c9
   clear c9
   (first | rw [c9b0] | (simp only [i64_w, i32_w]; rw [c9b0]) | skip)
   by_cases c10 : a1_0 = a1_1
   ·
    rw [if_pos c10] at H
    have c10b0 : (a1_0 == a1_1) = true := beq_iff_eq.mpr c10
    have c10b1 : (a1_0 != a1_1) = false := bne_eq_false_iff_eq.mpr c10
    clear c10
    have H' := Aside0.mk H
    clear H
    have hcz11_0 := bc BK479 0 rfl
    have hcz11_1 := bc BK479 1 rfl
    have hcz11_2 := bc BK479 2 rfl
    have hcz11_3 := bc BK479 3 rfl
    have hfz11_0 := blk_frozen BK479.out 0
    have hfz11_1 := blk_frozen BK479.out 1
    have hfz11_2 := blk_frozen BK479.out 2
    have hfz11_3 := blk_frozen BK479.out 3
    go_wp2_with (first | ((with_reducible refine gate_callee (f := 26) rfl ?_); refine goesL_ (some 19) rfl rfl Try.func26 (by kernel_rfl) rfl #[.agg #[.int .i64 a1_0, .int .i64 a1_1, .int .i64 a1_2, .slice A1_3 l1_3.length c1_3]] rfl ga ?_; (with_reducible refine (mat_Matrix_Check.calls k a1_0 a1_1 a1_2 _ _ l1_3 t480 _ ?side1 ?side2 A8.out).mono ?_); (case side1 => repeat (first | exact (Kd.C_below HR1_3.out HB.out) | (with_reducible refine Kd.C_alloc ?_ _) | (with_reducible refine Kd.C_drewN ?_ _) | (with_reducible refine Kd.C_drew ?_))); (case side2 => exact HC1_3.out); rintro e w12 ⟨rfl, hb⟩; refine ⟨_, rfl, ?_⟩; refine ax2 (bb BK479 hb) (below_step bes hb) ?_; clear BK479; clear HB; intro BK479 HB; (try clear hb); have hcz13_0 := bc BK479 0 rfl; have hcz13_1 := bc BK479 1 rfl; have hcz13_2 := bc BK479 2 rfl; have hcz13_3 := bc BK479 3 rfl; have hfz13_0 := blk_frozen BK479.out 0; have hfz13_1 := blk_frozen BK479.out 1; have hfz13_2 := blk_frozen BK479.out 2; have hfz13_3 := blk_frozen BK479.out 3))
    go_meet
    case rel => exact ⟨_, ((a1_1 != (l4.length : Int))), (by first | rfl | (simp; done) | (simp [*]; done)), H', ⟨by first | omega | exact Nat.le_refl _⟩, ⟨kb BK479⟩, ⟨bes⟩⟩
   ·
    rw [if_neg c10] at H
    have c10b0 : (a1_0 == a1_1) = false := beq_eq_false_iff_ne.mpr c10
    have c10b1 : (a1_0 != a1_1) = true := bne_iff_ne.mpr c10
    have H' := Aside0.mk H
    clear H
    have hcz14_0 := bc BK479 0 rfl
    have hcz14_1 := bc BK479 1 rfl
    have hcz14_2 := bc BK479 2 rfl
    have hcz14_3 := bc BK479 3 rfl
    have hfz14_0 := blk_frozen BK479.out 0
    have hfz14_1 := blk_frozen BK479.out 1
    have hfz14_2 := blk_frozen BK479.out 2
    have hfz14_3 := blk_frozen BK479.out 3
    go_wp2_with (first | ((with_reducible refine gate_callee (f := 26) rfl ?_); refine goesL_ (some 19) rfl rfl Try.func26 (by kernel_rfl) rfl #[.agg #[.int .i64 a1_0, .int .i64 a1_1, .int .i64 a1_2, .slice A1_3 l1_3.length c1_3]] rfl ga ?_; (with_reducible refine (mat_Matrix_Check.calls k a1_0 a1_1 a1_2 _ _ l1_3 t480 _ ?side1 ?side2 A8.out).mono ?_); (case side1 => repeat (first | exact (Kd.C_below HR1_3.out HB.out) | (with_reducible refine Kd.C_alloc ?_ _) | (with_reducible refine Kd.C_drewN ?_ _) | (with_reducible refine Kd.C_drew ?_))); (case side2 => exact HC1_3.out); rintro e w15 ⟨rfl, hb⟩; refine ⟨_, rfl, ?_⟩; refine ax2 (bb BK479 hb) (below_step bes hb) ?_; clear BK479; clear HB; intro BK479 HB; (try clear hb); have hcz16_0 := bc BK479 0 rfl; have hcz16_1 := bc BK479 1 rfl; have hcz16_2 := bc BK479 2 rfl; have hcz16_3 := bc BK479 3 rfl; have hfz16_0 := blk_frozen BK479.out 0; have hfz16_1 := blk_frozen BK479.out 1; have hfz16_2 := blk_frozen BK479.out 2; have hfz16_3 := blk_frozen BK479.out 3))
    go_meet
    case rel => exact ⟨_, (true), (by first | rfl | (simp; done) | (simp [*]; done)), H', ⟨by first | omega | exact Nat.le_refl _⟩, ⟨kb BK479⟩, ⟨bes⟩⟩
  ·
   rw [if_neg c9] at H
   have c9b0 : (t480 == 0) = false := beq_eq_false_iff_ne.mpr c9
   have c9b1 : (t480 != 0) = true := bne_iff_ne.mpr c9
   (first | rw [c9b0] | (simp only [i64_w, i32_w]; rw [c9b0]) | skip)
   have H' := Aside0.mk H
   clear H
   have hcz17_0 := bc BK479 0 rfl
   have hcz17_1 := bc BK479 1 rfl
   have hcz17_2 := bc BK479 2 rfl
   have hcz17_3 := bc BK479 3 rfl
   have hfz17_0 := blk_frozen BK479.out 0
   have hfz17_1 := blk_frozen BK479.out 1
   have hfz17_2 := blk_frozen BK479.out 2
   have hfz17_3 := blk_frozen BK479.out 3
   go_wp2_with (first | ((with_reducible refine gate_callee (f := 26) rfl ?_); refine goesL_ (some 19) rfl rfl Try.func26 (by kernel_rfl) rfl #[.agg #[.int .i64 a1_0, .int .i64 a1_1, .int .i64 a1_2, .slice A1_3 l1_3.length c1_3]] rfl ga ?_; (with_reducible refine (mat_Matrix_Check.calls k a1_0 a1_1 a1_2 _ _ l1_3 t480 _ ?side1 ?side2 A8.out).mono ?_); (case side1 => repeat (first | exact (Kd.C_below HR1_3.out HB.out) | (with_reducible refine Kd.C_alloc ?_ _) | (with_reducible refine Kd.C_drewN ?_ _) | (with_reducible refine Kd.C_drew ?_))); (case side2 => exact HC1_3.out); rintro e w18 ⟨rfl, hb⟩; refine ⟨_, rfl, ?_⟩; refine ax2 (bb BK479 hb) (below_step bes hb) ?_; clear BK479; clear HB; intro BK479 HB; (try clear hb)))
   go_meet
   case rel => exact ⟨_, (true), (by first | rfl | (simp; done) | (simp [*]; done)), H', ⟨by first | omega | exact Nat.le_refl _⟩, ⟨kb BK479⟩, ⟨bes⟩⟩
 case rest =>
  clear HC6
  try clear c1
  try clear c2
  try clear p2
  try clear c4
  try clear c7
  try clear c9
  try clear c9b0
  try clear c9b1
  try clear c10
  try clear c10b0
  try clear c10b1
  try clear hcz11_0
  try clear hcz11_1
  try clear hcz11_2
  try clear hcz11_3
  try clear hcz13_0
  try clear hcz13_1
  try clear hcz13_2
  try clear hcz13_3
  try clear hcz14_0
  try clear hcz14_1
  try clear hcz14_2
  try clear hcz14_3
  try clear hcz16_0
  try clear hcz16_1
  try clear hcz16_2
  try clear hcz16_3
  try clear hcz17_0
  try clear hcz17_1
  try clear hcz17_2
  try clear hcz17_3
  try clear hfz11_0
  try clear hfz11_1
  try clear hfz11_2
  try clear hfz11_3
  try clear hfz13_0
  try clear hfz13_1
  try clear hfz13_2
  try clear hfz13_3
  try clear hfz14_0
  try clear hfz14_1
  try clear hfz14_2
  try clear hfz14_3
  try clear hfz16_0
  try clear hfz16_1
  try clear hfz16_2
  try clear hfz16_3
  try clear hfz17_0
  try clear hfz17_1
  try clear hfz17_2
  try clear hfz17_3
  obtain ⟨kq, x34_5, rfl, HA, HJ5, BK479, HB⟩ := hcut
  cases kq with
  | zero => exact absurd HA.out (by simp [solve_Trmv_nil.j0])
  | succ kj5 =>
   have H := HA.out
   clear HA
   simp only [solve_Trmv_nil.j0] at H
   by_cases c19 : x34_5 = true
   ·
    subst c19
    rw [if_pos rfl] at H
    simp only [Option.some.injEq, Prod.mk.injEq] at H
    obtain ⟨rfl, rfl⟩ := H
    go_wp2
    go_ret2
    exact ⟨_, er, by first | exact Kd.R_nil _ _ _ _ _ | exact Kd.N_nil _ _ _ _ _ | exact Kd.V_nil _ _ _ _ _ | exact Kd.Q_nil _ _ _ _ _ | exact Kd.S_nil _ _ _ _ _, bes⟩
   ·
    replace c19 := Bool.eq_false_iff.mpr c19
    subst c19
    rw [if_neg (show ¬ (false = true) by decide)] at H
    have H' := Aside0.mk H
    clear H
    have hcz20_0 := bc BK479 0 rfl
    have hcz20_1 := bc BK479 1 rfl
    have hcz20_2 := bc BK479 2 rfl
    have hcz20_3 := bc BK479 3 rfl
    have hfz20_0 := blk_frozen BK479.out 0
    have hfz20_1 := blk_frozen BK479.out 1
    have hfz20_2 := blk_frozen BK479.out 2
    have hfz20_3 := blk_frozen BK479.out 3
    go_wp2
    go_loopg [12, 37] kj5 (fun kq v12 v37 w' => ∃ (x12_2 : List Int) (x37_2 : Int), v37 = .int .i64 x37_2 ∧ Aside0 (solve_Trmv_nil.l0 kq a2 a3 l4 x12_2 a1_0 x37_2 a1_0 a1_1 a1_2 l1_3 = some (r1, r2)) ∧ Aside0 (kq ≤ kj5) ∧ Aside0 (Kd.R (Kd.int .u64) 35 w' w.heap.size (fun _ => True) v12 x12_2) ∧ Aside0 (w'.heap[gb479]? = some (.cells #[.int .i64 a1_0, .int .i64 a1_1, .int .i64 a1_2, (.slice A1_3 l1_3.length c1_3)] 25 (0, 0))) ∧ Aside0 (Below w.heap.size w w'))
    case atStart => exact ⟨(([] : List Int)), (0), (by first | rfl | (simp; done) | (simp [*]; done)), H', ⟨Nat.le_refl _⟩, ⟨by first | exact Kd.R_nil _ _ _ _ _ | exact Kd.N_nil _ _ _ _ _ | exact Kd.V_nil _ _ _ _ _ | exact Kd.Q_nil _ _ _ _ _ | exact Kd.S_nil _ _ _ _ _⟩, ⟨kb BK479⟩, ⟨bes⟩⟩
    case round =>
     clear H'
     try clear c1
     try clear c2
     try clear p2
     try clear c4
     try clear c7
     try clear c9
     try clear c9b0
     try clear c9b1
     try clear c10
     try clear c10b0
     try clear c10b1
     try clear c19
     try clear hcz11_0
     try clear hcz11_1
     try clear hcz11_2
     try clear hcz11_3
     try clear hcz13_0
     try clear hcz13_1
     try clear hcz13_2
     try clear hcz13_3
     try clear hcz14_0
     try clear hcz14_1
     try clear hcz14_2
     try clear hcz14_3
     try clear hcz16_0
     try clear hcz16_1
     try clear hcz16_2
     try clear hcz16_3
     try clear hcz17_0
     try clear hcz17_1
     try clear hcz17_2
     try clear hcz17_3
     try clear hcz20_0
     try clear hcz20_1
     try clear hcz20_2
     try clear hcz20_3
     try clear hfz11_0
     try clear hfz11_1
     try clear hfz11_2
     try clear hfz11_3
     try clear hfz13_0
     try clear hfz13_1
     try clear hfz13_2
     try clear hfz13_3
     try clear hfz14_0
     try clear hfz14_1
     try clear hfz14_2
     try clear hfz14_3
     try clear hfz16_0
     try clear hfz16_1
     try clear hfz16_2
     try clear hfz16_3
     try clear hfz17_0
     try clear hfz17_1
     try clear hfz17_2
     try clear hfz17_3
     try clear hfz20_0
     try clear hfz20_1
     try clear hfz20_2
     try clear hfz20_3
     try clear p2
     obtain ⟨x12_2, x37_2, rfl, HA, HK2, HO_12, BK479, HB⟩ := hrel
     cases gk with
     | zero => exact absurd HA.out (by simp [solve_Trmv_nil.l0])
     | succ k2 =>
      have H := HA.out
      clear HA
      simp only [solve_Trmv_nil.l0] at H
      by_cases c21 : x37_2 < a1_0
      rotate_left
      ·
       rw [if_neg c21] at H
       have c21b0 : decide (x37_2 < a1_0) = false := decide_eq_false c21
       clear c21
       simp only [Option.some.injEq, Prod.mk.injEq] at H
       obtain ⟨rfl, rfl⟩ := H
       go_wp2
       go_ret2
       exact ⟨_, er, kr HO_12, bes⟩

      rw [if_pos c21] at H
      have c21b0 : decide (x37_2 < a1_0) = true := decide_eq_true c21
      clear c21
      by_cases c22 : 0 ≤ x37_2
      rotate_left
      ·
       rw [if_neg c22] at H
       exact absurd H (by simp)
      rw [if_pos c22] at H
      have c22b0 : decide (0 ≤ x37_2) = true := decide_eq_true c22
      clear c22
      by_cases c23 : x37_2 < (l4.length : Int)
      rotate_left
      ·
       rw [if_neg c23] at H
       exact absurd H (by simp)
      rw [if_pos c23] at H
      have c23b0 : decide (x37_2 < (l4.length : Int)) = true := decide_eq_true c23
      clear c23
      have HC24 := Aside0.mk H
      clear H
      have p481 : 0 ≤ (x37_2 : Int) := of_decide_eq_true (by first | (with_reducible assumption) | assumption)
      have q481 : x37_2 < (l4.length : Int) := of_decide_eq_true (by first | (with_reducible assumption) | assumption)
      obtain ⟨ad481, e481, hx481_0⟩ := Kd.at_int HR4.out x37_2 p481 q481
      cases e481
      replace hx481_0 := (HB.out.cell (World.block_lt_of_cell? w _ hx481_0)).trans hx481_0
      replace p481 := eq_true p481
      replace q481 := eq_true q481
      go_upto_if 45 with (fail)
      go_cut [14] (fun v14 wc => ∃ (kq : Nat) (x14_23 : Int), v14 = .int .u64 x14_23 ∧ Aside0 (solve_Trmv_nil.j2 kq a2 a3 l4 x12_2 x37_2 x14_23 a1_0 x37_2 a1_0 a1_1 a1_2 l1_3 = some (r1, r2)) ∧ Aside0 (kq ≤ k2) ∧ Aside0 (Kd.R (Kd.int .u64) 35 wc w.heap.size (fun _ => True) u12 x12_2) ∧ Aside0 (wc.heap[gb479]? = some (.cells #[.int .i64 a1_0, .int .i64 a1_1, .int .i64 a1_2, (.slice A1_3 l1_3.length c1_3)] 25 (0, 0))) ∧ Aside0 (Below w.heap.size w wc))
      case first =>
       have H := HC24.out
       clear HC24
       by_cases c25 : a3 = true
       ·
        subst c25
        rw [if_pos rfl] at H
        have H' := Aside0.mk H
        clear H
        go_wp2
        go_meet
        case rel => exact ⟨_, (rd l4 x37_2), (by first | rfl | (simp; done) | (simp [*]; done)), H', ⟨by have := HJ5.out; have := HK2.out; first | omega | exact Nat.le_refl _⟩, ⟨kr HO_12⟩, ⟨kb BK479⟩, ⟨bes⟩⟩
       ·
        replace c25 := Bool.eq_false_iff.mpr c25
        subst c25
        rw [if_neg (show ¬ (false = true) by decide)] at H
        obtain ⟨t482, A260, H⟩ := Option.bind_eq_some_iff.mp H
        (try dsimp -simprocs only at H)
        have A26 := Aside0.mk A260
        clear A260
        obtain ⟨t484, A270, H⟩ := Option.bind_eq_some_iff.mp H
        (try dsimp -simprocs only at H)
        have A27 := Aside0.mk A270
        clear A270
        have H' := Aside0.mk H
        clear H
        try go_wp2
        refine ax3 (Kd.R_drew HO_12.out) (blk_drew BK479.out) (below_drew1 HB.out) ?_
        clear HO_12 BK479 HB
        intro HO_12 BK479 HB
        have p483 : 0 ≤ (x37_2 : Int) := of_decide_eq_true (by first | (with_reducible assumption) | assumption)
        have q483 : x37_2 < (l4.length : Int) := of_decide_eq_true (by first | (with_reducible assumption) | assumption)
        obtain ⟨ad483, e483, hx483_0⟩ := Kd.at_int HR4.out x37_2 p483 q483
        have hw483_0 := hx483_0
        obtain rfl : ad481 = ad483 := (by injection e483)
        replace hx483_0 := (HB.out.cell (World.block_lt_of_cell? w _ hx483_0)).trans hx483_0
        replace p483 := eq_true p483
        replace q483 := eq_true q483
        refine start_ (n := 11) (S := fun w' => w'.cell? ⟨gb479, 0, none⟩ = some (.int .i64 a1_0) ∧ w'.cell? ⟨gb479, 1, none⟩ = some (.int .i64 a1_1) ∧ w'.cell? ⟨gb479, 2, none⟩ = some (.int .i64 a1_2) ∧ w'.cell? ⟨gb479, 3, none⟩ = some (.slice A1_3 l1_3.length c1_3) ∧ w'.cell? (ad481.add (x37_2).toNat) = some (.int .u64 (rd l4 x37_2))) (ds := []) #[false, false, false, false, false, false, false, false, false, false, false] (by kernel_rfl) rfl rfl ⟨bk BK479 0, bk BK479 1, bk BK479 2, bk BK479 3, ((HB.out.cell (World.block_lt_of_cell? w _ hw483_0)).trans hw483_0)⟩ (fun hHeld => ?_); refine with_tabW solve_Trmv_nil.tab9 solve_Trmv_nil.bits9 (fun HT_ HW_ => ?_)
        generalize wr.drew = w28 at HO_12 BK479 HB hx483_0 hHeld ⊢
        refine pu 0 46 (lm 11 1) HT_ ?_
        refine pu 2 48 (lm 11 5) HT_ ?_
        refine pu 3 49 (lm 11 13) HT_ ?_
        refine pu 5 51 (lm 11 45) HT_ ?_
        refine pu 6 52 (lm 11 109) HT_ ?_
        refine pu 7 53 (lm 11 237) HT_ ?_
        refine ta 1 47 (lm 11 239) HT_ HW_ hHeld ?_
        refine ta 8 54 (lm 11 495) HT_ HW_ hHeld ?_
        refine on 4 (some 50) (lm 11 511) HT_ (fun K hK => ?_)
        refine goes_ Try.func11 (by kernel_rfl) rfl #[.agg #[.int .i64 a1_0, .int .i64 a1_1, .int .i64 a1_2, .slice A1_3 l1_3.length c1_3], .int .i64 x37_2, .int .i64 x37_2] (by rfl) rfl rfl ga ?_
        with_reducible refine (mat_Matrix_At.calls a1_0 a1_1 a1_2 _ _ l1_3 x37_2 x37_2 t482 _ ?side1 ?side2 A26.out).mono ?_
        (case side1 => repeat (first | exact (Kd.C_below HR1_3.out HB.out) | (with_reducible refine Kd.C_alloc ?_ _) | (with_reducible refine Kd.C_drewN ?_ _) | (with_reducible refine Kd.C_drew ?_)))
        (case side2 => exact HC1_3.out)
        rintro e w29 ⟨rfl, hb⟩
        refine ⟨_, rfl, ?_⟩
        refine ax3 (Kd.R_below (kr HO_12) hb) (bb BK479 hb) (below_step bes hb) ?_
        clear HO_12 BK479 HB
        intro HO_12 BK479 HB
        (try clear hb)
        (try clear hb2)
        (try clear hk)
        (try clear hi)
        refine hK.out _ _ ⟨bk BK479 0, bk BK479 1, bk BK479 2, bk BK479 3, ((HB.out.cell (World.block_lt_of_cell? w _ hw483_0)).trans hw483_0)⟩ (fun hHeld => ?_)
        clear hK K
        refine no 50 ?_
        refine on 9 (some 55) (lm 11 1023) HT_ (fun K hK => ?_)
        refine goes_ Try.func14 (by kernel_rfl) rfl #[.pointer none, .int .u64 t482, .int .u64 (rd l4 x37_2)] (by rfl) rfl rfl ga ?_
        with_reducible refine (soft_Calc_Mul_nil.calls k2  t482 (rd l4 x37_2) t484 _ A27.out).mono ?_
        rintro e w30 ⟨rfl, hb⟩
        refine ⟨_, rfl, ?_⟩
        refine ax3 (Kd.R_below (kr HO_12) hb) (bb BK479 hb) (below_step bes hb) ?_
        clear HO_12 BK479 HB
        intro HO_12 BK479 HB
        (try clear hb)
        (try clear hb2)
        (try clear hk)
        (try clear hi)
        refine hK.out _ _ ⟨bk BK479 0, bk BK479 1, bk BK479 2, bk BK479 3, ((HB.out.cell (World.block_lt_of_cell? w _ hw483_0)).trans hw483_0)⟩ (fun hHeld => ?_)
        clear hK K
        refine no 55 ?_
        refine pu 10 14 (lm 11 2047) HT_ ?_
        refine done_ (done_of HT_.out (by kernel_rfl)) ?_
        try go_wp2
        go_meet
        case rel => exact ⟨_, (t484), (by first | rfl | (simp; done) | (simp [*]; done)), H', ⟨by have := HJ5.out; have := HK2.out; first | omega | exact Nat.le_refl _⟩, ⟨kr HO_12⟩, ⟨kb BK479⟩, ⟨bes⟩⟩
      case rest =>
       clear HC24
       try clear c1
       try clear c2
       try clear p2
       try clear c4
       try clear p4
       try clear q4
       try clear hx4
       try clear c7
       try clear c9
       try clear c9b0
       try clear c9b1
       try clear c10
       try clear c10b0
       try clear c10b1
       try clear c11
       try clear c19
       try clear c21
       try clear c21b0
       try clear c22
       try clear c22b0
       try clear c23
       try clear c23b0
       try clear c25
       try clear c26
       try clear hcz11_0
       try clear hcz11_1
       try clear hcz11_2
       try clear hcz11_3
       try clear hcz13_0
       try clear hcz13_1
       try clear hcz13_2
       try clear hcz13_3
       try clear hcz14_0
       try clear hcz14_1
       try clear hcz14_2
       try clear hcz14_3
       try clear hcz16_0
       try clear hcz16_1
       try clear hcz16_2
       try clear hcz16_3
       try clear hcz17_0
       try clear hcz17_1
       try clear hcz17_2
       try clear hcz17_3
       try clear hcz20_0
       try clear hcz20_1
       try clear hcz20_2
       try clear hcz20_3
       try clear hfz11_0
       try clear hfz11_1
       try clear hfz11_2
       try clear hfz11_3
       try clear hfz13_0
       try clear hfz13_1
       try clear hfz13_2
       try clear hfz13_3
       try clear hfz14_0
       try clear hfz14_1
       try clear hfz14_2
       try clear hfz14_3
       try clear hfz16_0
       try clear hfz16_1
       try clear hfz16_2
       try clear hfz16_3
       try clear hfz17_0
       try clear hfz17_1
       try clear hfz17_2
       try clear hfz17_3
       try clear hfz20_0
       try clear hfz20_1
       try clear hfz20_2
       try clear hfz20_3
       try clear hx481_0
       try clear hx483_0
       try clear p2
       try clear p481
       try clear p483
       try clear q481
       try clear q483
       obtain ⟨kq, x14_23, rfl, HA, HJ23, HO_12, BK479, HB⟩ := hcut
       cases kq with
       | zero => exact absurd HA.out (by simp [solve_Trmv_nil.j2])
       | succ kj23 =>
        have H := HA.out
        clear HA
        simp only [solve_Trmv_nil.j2] at H
        have HC31 := Aside0.mk H
        clear H
        go_upto_region 10 with (fail)
        go_cut [15, 16] (fun v15 v16 wc => ∃ (kq : Nat) (x15_30 : Int) (x16_30 : Int), v15 = .int .i64 x15_30 ∧ v16 = .int .i64 x16_30 ∧ Aside0 (solve_Trmv_nil.j3 kq a2 a3 l4 x12_2 x37_2 x14_23 x15_30 x16_30 a1_0 x37_2 a1_0 a1_1 a1_2 l1_3 = some (r1, r2)) ∧ Aside0 (kq ≤ kj23) ∧ Aside0 (Kd.R (Kd.int .u64) 35 wc w.heap.size (fun _ => True) u12 x12_2) ∧ Aside0 (wc.heap[gb479]? = some (.cells #[.int .i64 a1_0, .int .i64 a1_1, .int .i64 a1_2, (.slice A1_3 l1_3.length c1_3)] 25 (0, 0))) ∧ Aside0 (Below w.heap.size w wc))
        case first =>
         have H := HC31.out
         clear HC31
         by_cases c32 : a2 = true
         ·
          subst c32
          rw [if_pos rfl] at H
          obtain ⟨t485, A330, H⟩ := Option.bind_eq_some_iff.mp H
          (try dsimp -simprocs only at H)
          have A33 := Aside0.mk A330
          clear A330
          obtain ⟨⟨t486, t487⟩, A340, H⟩ := Option.bind_eq_some_iff.mp H
          (try dsimp -simprocs only at H)
          have A34 := Aside0.mk A340
          clear A340
          have H' := Aside0.mk H
          clear H
          try go_wp2
          refine ax3 (Kd.R_drew HO_12.out) (blk_drew BK479.out) (below_drew1 HB.out) ?_
          clear HO_12 BK479 HB
          intro HO_12 BK479 HB
          refine start_ (n := 12) (S := fun w' => w'.cell? ⟨gb479, 0, none⟩ = some (.int .i64 a1_0) ∧ w'.cell? ⟨gb479, 1, none⟩ = some (.int .i64 a1_1) ∧ w'.cell? ⟨gb479, 2, none⟩ = some (.int .i64 a1_2) ∧ w'.cell? ⟨gb479, 3, none⟩ = some (.slice A1_3 l1_3.length c1_3)) (ds := []) #[false, false, false, false, false, false, false, false, false, false, false, false] (by kernel_rfl) rfl rfl ⟨bk BK479 0, bk BK479 1, bk BK479 2, bk BK479 3⟩ (fun hHeld => ?_); refine with_tabW solve_Trmv_nil.tab10 solve_Trmv_nil.bits10 (fun HT_ HW_ => ?_)
          generalize wc.drew = w35 at HO_12 BK479 HB hHeld ⊢
          refine pu 0 57 (lm 12 1) HT_ ?_
          refine pu 3 60 (lm 12 9) HT_ ?_
          refine pu 4 61 (lm 12 25) HT_ ?_
          refine ta 5 62 (lm 12 57) HT_ HW_ hHeld ?_
          refine on 1 (some 58) (lm 12 59) HT_ (fun K hK => ?_)
          refine goes_ Try.func28 (by kernel_rfl) rfl #[.bool true] (by rfl) rfl rfl ga ?_
          with_reducible refine (solve_of_t.calls true t485 _ A33.out).mono ?_
          rintro e w36 ⟨rfl, hb⟩
          refine ⟨_, rfl, ?_⟩
          refine ax3 (Kd.R_below (kr HO_12) hb) (bb BK479 hb) (below_step bes hb) ?_
          clear HO_12 BK479 HB
          intro HO_12 BK479 HB
          (try clear hb)
          (try clear hb2)
          (try clear hk)
          (try clear hi)
          refine hK.out _ _ ⟨bk BK479 0, bk BK479 1, bk BK479 2, bk BK479 3⟩ (fun hHeld => ?_)
          clear hK K
          refine no 58 ?_
          refine pure_ (i := 2) (N := some 59) (v := ?_) (a' := ?_) #[true, true, true, true, true, true, false, false, false, false, false, false] rfl rfl (any_of HT_.out (by kernel_rfl)) (fun _ _ _ h => h) (Or.inl ⟨by rfl, ?_⟩) ?_ ?_
          rotate_left
          ·
           intro w'
           (go_simp)
           with_reducible rfl
          rotate_left
          ·
           simp only [Act.put, sa0, sa1, sa2, i64_w, i32_w]
           rfl
          refine on 6 (some 63) (lm 12 127) HT_ (fun K hK => ?_)
          refine goesD_ Try.func42 (by kernel_rfl) rfl #[.int .i64 x37_2, .int .i64 a1_1] (by rfl) rfl rfl ga ?_
          with_reducible refine (solve_of_1.calls x37_2 a1_1 t486 t487 _ A34.out).mono ?_
          rintro e w' ⟨rfl, ⟨nd, rfl⟩⟩
          refine ⟨_, rfl, ?_⟩
          refine hK.out _ _ ⟨bk BK479 0, bk BK479 1, bk BK479 2, bk BK479 3⟩ (fun hHeld => ?_)
          clear hK K
          refine no 63 ?_
          refine pu 7 56 (lm 12 255) HT_ ?_
          refine pu 8 64 (lm 12 511) HT_ ?_
          refine pu 9 65 (lm 12 1023) HT_ ?_
          refine pu 10 15 (lm 12 2047) HT_ ?_
          refine pu 11 16 (lm 12 4095) HT_ ?_
          refine done_ (done_of HT_.out (by kernel_rfl)) ?_
          try go_wp2
          go_meet
          case rel => exact ⟨_, (t486), (t487), (by first | rfl | (simp; done) | (simp [*]; done)), (by first | rfl | (simp; done) | (simp [*]; done)), H', ⟨by have := HJ5.out; have := HK2.out; have := HJ23.out; first | omega | exact Nat.le_refl _⟩, ⟨kr HO_12⟩, ⟨kb BK479⟩, ⟨bes⟩⟩
         ·
          replace c32 := Bool.eq_false_iff.mpr c32
          subst c32
          rw [if_neg (show ¬ (false = true) by decide)] at H
          obtain ⟨t488, A370, H⟩ := Option.bind_eq_some_iff.mp H
          (try dsimp -simprocs only at H)
          have A37 := Aside0.mk A370
          clear A370
          obtain ⟨⟨t489, t490⟩, A380, H⟩ := Option.bind_eq_some_iff.mp H
          (try dsimp -simprocs only at H)
          have A38 := Aside0.mk A380
          clear A380
          have H' := Aside0.mk H
          clear H
          try go_wp2
          refine ax3 (Kd.R_drew HO_12.out) (blk_drew BK479.out) (below_drew1 HB.out) ?_
          clear HO_12 BK479 HB
          intro HO_12 BK479 HB
          refine start_ (n := 12) (S := fun w' => w'.cell? ⟨gb479, 0, none⟩ = some (.int .i64 a1_0) ∧ w'.cell? ⟨gb479, 1, none⟩ = some (.int .i64 a1_1) ∧ w'.cell? ⟨gb479, 2, none⟩ = some (.int .i64 a1_2) ∧ w'.cell? ⟨gb479, 3, none⟩ = some (.slice A1_3 l1_3.length c1_3)) (ds := []) #[false, false, false, false, false, false, false, false, false, false, false, false] (by kernel_rfl) rfl rfl ⟨bk BK479 0, bk BK479 1, bk BK479 2, bk BK479 3⟩ (fun hHeld => ?_); refine with_tabW solve_Trmv_nil.tab10 solve_Trmv_nil.bits10 (fun HT_ HW_ => ?_)
          generalize wc.drew = w39 at HO_12 BK479 HB hHeld ⊢
          refine pu 0 57 (lm 12 1) HT_ ?_
          refine pu 3 60 (lm 12 9) HT_ ?_
          refine pu 4 61 (lm 12 25) HT_ ?_
          refine ta 5 62 (lm 12 57) HT_ HW_ hHeld ?_
          refine on 1 (some 58) (lm 12 59) HT_ (fun K hK => ?_)
          refine goes_ Try.func28 (by kernel_rfl) rfl #[.bool false] (by rfl) rfl rfl ga ?_
          with_reducible refine (solve_of_e.calls false t488 _ A37.out).mono ?_
          rintro e w40 ⟨rfl, hb⟩
          refine ⟨_, rfl, ?_⟩
          refine ax3 (Kd.R_below (kr HO_12) hb) (bb BK479 hb) (below_step bes hb) ?_
          clear HO_12 BK479 HB
          intro HO_12 BK479 HB
          (try clear hb)
          (try clear hb2)
          (try clear hk)
          (try clear hi)
          refine hK.out _ _ ⟨bk BK479 0, bk BK479 1, bk BK479 2, bk BK479 3⟩ (fun hHeld => ?_)
          clear hK K
          refine no 58 ?_
          refine pure_ (i := 2) (N := some 59) (v := ?_) (a' := ?_) #[true, true, true, true, true, true, false, false, false, false, false, false] rfl rfl (any_of HT_.out (by kernel_rfl)) (fun _ _ _ h => h) (Or.inl ⟨by rfl, ?_⟩) ?_ ?_
          rotate_left
          ·
           intro w'
           (go_simp)
           with_reducible rfl
          rotate_left
          ·
           simp only [Act.put, sa0, sa1, sa2, i64_w, i32_w]
           rfl
          refine on 6 (some 63) (lm 12 127) HT_ (fun K hK => ?_)
          refine goesD_ Try.func43 (by kernel_rfl) rfl #[.int .i64 x37_2, .int .i64 a1_1] (by rfl) rfl rfl ga ?_
          with_reducible refine (solve_of_2.calls x37_2 a1_1 t489 t490 _ A38.out).mono ?_
          rintro e w' ⟨rfl, ⟨nd, rfl⟩⟩
          refine ⟨_, rfl, ?_⟩
          refine hK.out _ _ ⟨bk BK479 0, bk BK479 1, bk BK479 2, bk BK479 3⟩ (fun hHeld => ?_)
          clear hK K
          refine no 63 ?_
          refine pu 7 56 (lm 12 255) HT_ ?_
          refine pu 8 64 (lm 12 511) HT_ ?_
          refine pu 9 65 (lm 12 1023) HT_ ?_
          refine pu 10 15 (lm 12 2047) HT_ ?_
          refine pu 11 16 (lm 12 4095) HT_ ?_
          refine done_ (done_of HT_.out (by kernel_rfl)) ?_
          try go_wp2
          go_meet
          case rel => exact ⟨_, (t489), (t490), (by first | rfl | (simp; done) | (simp [*]; done)), (by first | rfl | (simp; done) | (simp [*]; done)), H', ⟨by have := HJ5.out; have := HK2.out; have := HJ23.out; first | omega | exact Nat.le_refl _⟩, ⟨kr HO_12⟩, ⟨kb BK479⟩, ⟨bes⟩⟩
        case rest =>
         clear HC31
         try clear c1
         try clear c2
         try clear p2
         try clear c3
         try clear c4
         try clear p4
         try clear q4
         try clear hx4
         try clear c7
         try clear c9
         try clear c9b0
         try clear c9b1
         try clear c10
         try clear c10b0
         try clear c10b1
         try clear c11
         try clear c19
         try clear c21
         try clear c21b0
         try clear c22
         try clear c22b0
         try clear c23
         try clear c23b0
         try clear c25
         try clear c26
         try clear c32
         try clear hcz11_0
         try clear hcz11_1
         try clear hcz11_2
         try clear hcz11_3
         try clear hcz13_0
         try clear hcz13_1
         try clear hcz13_2
         try clear hcz13_3
         try clear hcz14_0
         try clear hcz14_1
         try clear hcz14_2
         try clear hcz14_3
         try clear hcz16_0
         try clear hcz16_1
         try clear hcz16_2
         try clear hcz16_3
         try clear hcz17_0
         try clear hcz17_1
         try clear hcz17_2
         try clear hcz17_3
         try clear hcz20_0
         try clear hcz20_1
         try clear hcz20_2
         try clear hcz20_3
         try clear hfz11_0
         try clear hfz11_1
         try clear hfz11_2
         try clear hfz11_3
         try clear hfz13_0
         try clear hfz13_1
         try clear hfz13_2
         try clear hfz13_3
         try clear hfz14_0
         try clear hfz14_1
         try clear hfz14_2
         try clear hfz14_3
         try clear hfz16_0
         try clear hfz16_1
         try clear hfz16_2
         try clear hfz16_3
         try clear hfz17_0
         try clear hfz17_1
         try clear hfz17_2
         try clear hfz17_3
         try clear hfz20_0
         try clear hfz20_1
         try clear hfz20_2
         try clear hfz20_3
         try clear hx481_0
         try clear hx483_0
         try clear p2
         try clear p4
         try clear p481
         try clear p483
         try clear q4
         try clear q481
         try clear q483
         obtain ⟨kq, x15_30, x16_30, rfl, rfl, HA, HJ30, HO_12, BK479, HB⟩ := hcut
         cases kq with
         | zero => exact absurd HA.out (by simp [solve_Trmv_nil.j3])
         | succ kj30 =>
          have H := HA.out
          clear HA
          simp only [solve_Trmv_nil.j3] at H
          have H' := Aside0.mk H
          clear H
          go_wp2
          go_loopg [14, 17] kj30 (fun kq v14 v17 w' => ∃ (x14_5 : Int) (x17_5 : Int), v14 = .int .u64 x14_5 ∧ v17 = .int .i64 x17_5 ∧ Aside0 (solve_Trmv_nil.l1 kq a2 a3 l4 x12_2 x37_2 x14_5 x16_30 x17_5 a1_0 x37_2 a1_0 a1_1 a1_2 l1_3 = some (r1, r2)) ∧ Aside0 (kq ≤ kj30) ∧ Aside0 (Kd.R (Kd.int .u64) 35 w' w.heap.size (fun _ => True) u12 x12_2) ∧ Aside0 (w'.heap[gb479]? = some (.cells #[.int .i64 a1_0, .int .i64 a1_1, .int .i64 a1_2, (.slice A1_3 l1_3.length c1_3)] 25 (0, 0))) ∧ Aside0 (Below w.heap.size w w'))
          case atStart => exact ⟨(x14_23), (x15_30), (by first | rfl | (simp; done) | (simp [*]; done)), (by first | rfl | (simp; done) | (simp [*]; done)), H', ⟨Nat.le_refl _⟩, ⟨kr HO_12⟩, ⟨kb BK479⟩, ⟨bes⟩⟩
          case round =>
           clear H'
           try clear c1
           try clear c2
           try clear p2
           try clear c3
           try clear c4
           try clear p4
           try clear q4
           try clear hx4
           try clear c7
           try clear c9
           try clear c9b0
           try clear c9b1
           try clear c10
           try clear c10b0
           try clear c10b1
           try clear c11
           try clear c19
           try clear c21
           try clear c21b0
           try clear c22
           try clear c22b0
           try clear c23
           try clear c23b0
           try clear c25
           try clear c26
           try clear c32
           try clear hcz11_0
           try clear hcz11_1
           try clear hcz11_2
           try clear hcz11_3
           try clear hcz13_0
           try clear hcz13_1
           try clear hcz13_2
           try clear hcz13_3
           try clear hcz14_0
           try clear hcz14_1
           try clear hcz14_2
           try clear hcz14_3
           try clear hcz16_0
           try clear hcz16_1
           try clear hcz16_2
           try clear hcz16_3
           try clear hcz17_0
           try clear hcz17_1
           try clear hcz17_2
           try clear hcz17_3
           try clear hcz20_0
           try clear hcz20_1
           try clear hcz20_2
           try clear hcz20_3
           try clear hfz11_0
           try clear hfz11_1
           try clear hfz11_2
           try clear hfz11_3
           try clear hfz13_0
           try clear hfz13_1
           try clear hfz13_2
           try clear hfz13_3
           try clear hfz14_0
           try clear hfz14_1
           try clear hfz14_2
           try clear hfz14_3
           try clear hfz16_0
           try clear hfz16_1
           try clear hfz16_2
           try clear hfz16_3
           try clear hfz17_0
           try clear hfz17_1
           try clear hfz17_2
           try clear hfz17_3
           try clear hfz20_0
           try clear hfz20_1
           try clear hfz20_2
           try clear hfz20_3
           try clear hx481_0
           try clear hx483_0
           try clear p2
           try clear p4
           try clear p481
           try clear p483
           try clear q4
           try clear q481
           try clear q483
           obtain ⟨x14_5, x17_5, rfl, rfl, HA, HK5, HO_12, BK479, HB⟩ := hrel
           cases gk with
           | zero => exact absurd HA.out (by simp [solve_Trmv_nil.l1])
           | succ k5 =>
            have H := HA.out
            clear HA
            simp only [solve_Trmv_nil.l1] at H
            by_cases c41 : x17_5 < x16_30
            ·
             rw [if_pos c41] at H
             have c41b0 : decide (x17_5 < x16_30) = true := decide_eq_true c41
             clear c41
             obtain ⟨t491, A420, H⟩ := Option.bind_eq_some_iff.mp H
             (try dsimp -simprocs only at H)
             have A42 := Aside0.mk A420
             clear A420
             by_cases c43 : 0 ≤ x17_5
             rotate_left
             ·
              rw [if_neg c43] at H
              exact absurd H (by simp)
             rw [if_pos c43] at H
             have c43b0 : decide (0 ≤ x17_5) = true := decide_eq_true c43
             clear c43
             by_cases c44 : x17_5 < (l4.length : Int)
             rotate_left
             ·
              rw [if_neg c44] at H
              exact absurd H (by simp)
             rw [if_pos c44] at H
             have c44b0 : decide (x17_5 < (l4.length : Int)) = true := decide_eq_true c44
             clear c44
             obtain ⟨t493, A450, H⟩ := Option.bind_eq_some_iff.mp H
             (try dsimp -simprocs only at H)
             have A45 := Aside0.mk A450
             clear A450
             obtain ⟨t494, A460, H⟩ := Option.bind_eq_some_iff.mp H
             (try dsimp -simprocs only at H)
             have A46 := Aside0.mk A460
             clear A460
             have H' := Aside0.mk H
             clear H
             try go_wp2
             refine ax3 (Kd.R_drew HO_12.out) (blk_drew BK479.out) (below_drew1 HB.out) ?_
             clear HO_12 BK479 HB
             intro HO_12 BK479 HB
             have p492 : 0 ≤ (x17_5 : Int) := of_decide_eq_true (by first | (with_reducible assumption) | assumption)
             have q492 : x17_5 < (l4.length : Int) := of_decide_eq_true (by first | (with_reducible assumption) | assumption)
             obtain ⟨ad492, e492, hx492_0⟩ := Kd.at_int HR4.out x17_5 p492 q492
             have hw492_0 := hx492_0
             obtain rfl : ad481 = ad492 := (by injection e492)
             replace hx492_0 := (HB.out.cell (World.block_lt_of_cell? w _ hx492_0)).trans hx492_0
             replace p492 := eq_true p492
             replace q492 := eq_true q492
             refine start_ (n := 14) (S := fun w' => w'.cell? ⟨gb479, 0, none⟩ = some (.int .i64 a1_0) ∧ w'.cell? ⟨gb479, 1, none⟩ = some (.int .i64 a1_1) ∧ w'.cell? ⟨gb479, 2, none⟩ = some (.int .i64 a1_2) ∧ w'.cell? ⟨gb479, 3, none⟩ = some (.slice A1_3 l1_3.length c1_3) ∧ w'.cell? (ad481.add (x17_5).toNat) = some (.int .u64 (rd l4 x17_5))) (ds := []) #[false, false, false, false, false, false, false, false, false, false, false, false, false, false] (by kernel_rfl) rfl rfl ⟨bk BK479 0, bk BK479 1, bk BK479 2, bk BK479 3, ((HB.out.cell (World.block_lt_of_cell? w _ hw492_0)).trans hw492_0)⟩ (fun hHeld => ?_); refine with_tabW solve_Trmv_nil.tab14 solve_Trmv_nil.bits14 (fun HT_ HW_ => ?_)
             generalize wr.drew = w47 at HO_12 BK479 HB hx492_0 hHeld ⊢
             refine pu 0 72 (lm 14 1) HT_ ?_
             refine pu 1 73 (lm 14 3) HT_ ?_
             refine pu 2 74 (lm 14 7) HT_ ?_
             refine pu 4 76 (lm 14 23) HT_ ?_
             refine pu 5 77 (lm 14 55) HT_ ?_
             refine pu 7 79 (lm 14 183) HT_ ?_
             refine pu 8 80 (lm 14 439) HT_ ?_
             refine pu 9 81 (lm 14 951) HT_ ?_
             refine ta 3 75 (lm 14 959) HT_ HW_ hHeld ?_
             refine ta 10 82 (lm 14 1983) HT_ HW_ hHeld ?_
             refine on 6 (some 78) (lm 14 2047) HT_ (fun K hK => ?_)
             refine goes_ Try.func11 (by kernel_rfl) rfl #[.agg #[.int .i64 a1_0, .int .i64 a1_1, .int .i64 a1_2, .slice A1_3 l1_3.length c1_3], .int .i64 x37_2, .int .i64 x17_5] (by rfl) rfl rfl ga ?_
             with_reducible refine (mat_Matrix_At.calls a1_0 a1_1 a1_2 _ _ l1_3 x37_2 x17_5 t491 _ ?side1 ?side2 A42.out).mono ?_
             (case side1 => repeat (first | exact (Kd.C_below HR1_3.out HB.out) | (with_reducible refine Kd.C_alloc ?_ _) | (with_reducible refine Kd.C_drewN ?_ _) | (with_reducible refine Kd.C_drew ?_)))
             (case side2 => exact HC1_3.out)
             rintro e w48 ⟨rfl, hb⟩
             refine ⟨_, rfl, ?_⟩
             refine ax3 (Kd.R_below (kr HO_12) hb) (bb BK479 hb) (below_step bes hb) ?_
             clear HO_12 BK479 HB
             intro HO_12 BK479 HB
             (try clear hb)
             (try clear hb2)
             (try clear hk)
             (try clear hi)
             refine hK.out _ _ ⟨bk BK479 0, bk BK479 1, bk BK479 2, bk BK479 3, ((HB.out.cell (World.block_lt_of_cell? w _ hw492_0)).trans hw492_0)⟩ (fun hHeld => ?_)
             clear hK K
             refine no 78 ?_
             refine on 11 (some 83) (lm 14 4095) HT_ (fun K hK => ?_)
             refine goes_ Try.func14 (by kernel_rfl) rfl #[.pointer none, .int .u64 t491, .int .u64 (rd l4 x17_5)] (by rfl) rfl rfl ga ?_
             with_reducible refine (soft_Calc_Mul_nil.calls k5  t491 (rd l4 x17_5) t493 _ A45.out).mono ?_
             rintro e w49 ⟨rfl, hb⟩
             refine ⟨_, rfl, ?_⟩
             refine ax3 (Kd.R_below (kr HO_12) hb) (bb BK479 hb) (below_step bes hb) ?_
             clear HO_12 BK479 HB
             intro HO_12 BK479 HB
             (try clear hb)
             (try clear hb2)
             (try clear hk)
             (try clear hi)
             refine hK.out _ _ ⟨bk BK479 0, bk BK479 1, bk BK479 2, bk BK479 3, ((HB.out.cell (World.block_lt_of_cell? w _ hw492_0)).trans hw492_0)⟩ (fun hHeld => ?_)
             clear hK K
             refine no 83 ?_
             refine on 12 (some 84) (lm 14 8191) HT_ (fun K hK => ?_)
             refine goes_ Try.func24 (by kernel_rfl) rfl #[.pointer none, .int .u64 x14_5, .int .u64 t493] (by rfl) rfl rfl ga ?_
             with_reducible refine (soft_Calc_Add_nil.calls k5  x14_5 t493 t494 _ A46.out).mono ?_
             rintro e w50 ⟨rfl, hb⟩
             refine ⟨_, rfl, ?_⟩
             refine ax3 (Kd.R_below (kr HO_12) hb) (bb BK479 hb) (below_step bes hb) ?_
             clear HO_12 BK479 HB
             intro HO_12 BK479 HB
             (try clear hb)
             (try clear hb2)
             (try clear hk)
             (try clear hi)
             refine hK.out _ _ ⟨bk BK479 0, bk BK479 1, bk BK479 2, bk BK479 3, ((HB.out.cell (World.block_lt_of_cell? w _ hw492_0)).trans hw492_0)⟩ (fun hHeld => ?_)
             clear hK K
             refine no 84 ?_
             refine pu 13 14 (lm 14 16383) HT_ ?_
             refine done_ (done_of HT_.out (by kernel_rfl)) ?_
             try go_wp2
             go_roundg k5
             case measure => have := HJ5.out; have := HK2.out; have := HJ23.out; have := HJ30.out; have := HK5.out; omega
             case rel => exact ⟨(t494), (wrap64 (x17_5 + 1)), (by first | rfl | (simp; done) | (simp [*]; done)), (by first | rfl | (simp; done) | (simp [*]; done)), H', ⟨by have := HJ5.out; have := HK2.out; have := HJ23.out; have := HJ30.out; have := HK5.out; omega⟩, ⟨kr HO_12⟩, ⟨kb BK479⟩, ⟨bes⟩⟩
            ·
             rw [if_neg c41] at H
             have c41b0 : decide (x17_5 < x16_30) = false := decide_eq_false c41
             clear c41
             by_cases c51 : x12_2.length < 17592186044416
             rotate_left
             ·
              rw [if_neg c51] at H
              exact absurd H (by simp)
             rw [if_pos c51] at H
             have LMc51 := Aside0.mk c51
             clear c51
             obtain ⟨y495, hy495⟩ : ∃ y_ : List Int, y_ = (x12_2 ++ [x14_5]) := ⟨_, rfl⟩
             replace H : (solve_Trmv_nil.l0 k5 a2 a3 l4 y495 a1_0 (wrap64 (x37_2 + 1)) a1_0 a1_1 a1_2 l1_3) = some (r1, r2) := by first | (rw [hy495]; with_reducible exact H) | (have H2_ := (Option.bind_some _ _).symm.trans H; rw [hy495]; with_reducible exact H2_) | (have H2_ := (Option.bind_some _ _).symm.trans H; with_reducible exact H2_) | with_reducible exact H | (rw [hy495]; exact H) | exact H
             have Ny495 := Aside0.mk hy495
             clear hy495
             have H' := Aside0.mk H
             clear H
             go_wp2_with (first | ((with_reducible refine gate_builtin (b := .append) (xs := #[.tmp 85, .tmp 87]) rfl ?_); at_builtin; refine Kd.R_append (Kd.int .u64) (w0 := w) w.heap.size rfl (.tmp 85) (.tmp 87) 22 35 (.int .u64 0) 8 rfl Try.underlying22 info35 rfl (by decide) (by omega) u12 x12_2 x14_5 [.int .u64 x14_5] (fun _ => True) (fun _ => False) rfl rfl ?aP (fun _ hk => hk.elim) ?aF ?aO ?aB ?aS ?aL ?_; (case aP => exact rfl); (case aB => exact bes); (case aF => exact (fun _ _ => trivial)); (case aO => exact (kr HO_12)); (case aS => exact (below_size bes)); (case aL => have := LMc51.out; omega); intro v496 w52 ho hb hg hat; rw [← Ny495.out] at ho; refine ax3 (blk_grown (g := gb479) (o := .cells #[.int .i64 a1_0, .int .i64 a1_1, .int .i64 a1_2, .slice A1_3 l1_3.length c1_3] 25 (0, 0)) (kb BK479) hg (Kd.R_ne HO_12.out BK479.out (by decide))) hb ho ?_; clear BK479; clear HB; clear HO_12; intro BK479 HB HO497; clear ho hb hg hat))
             go_roundg k5
             case measure => have := HJ5.out; have := HK2.out; have := HJ23.out; have := HJ30.out; have := HK5.out; omega
             case rel => exact ⟨(y495), (wrap64 (x37_2 + 1)), (by first | rfl | (simp; done) | (simp [*]; done)), H', ⟨by have := HJ5.out; have := HK2.out; have := HJ23.out; have := HJ30.out; have := HK5.out; omega⟩, ⟨kr HO497⟩, ⟨kb BK479⟩, ⟨bes⟩⟩
end Go.Proofs.Ytnjobojkoaknpaa.F
