-- Written by a program of this seat's session (mkprint), out of the translation.
import Derived.Test.YtnjobojkoaknpaaShort
import Derived.Test.YtnjobojkoaknpaaFx0
import Derived.Test.YtnjobojkoaknpaaFx2
import Derived.Test.YtnjobojkoaknpaaFx6
import Derived.Test.YtnjobojkoaknpaaFx7
import Derived.Test.YtnjobojkoaknpaaFx8
namespace Go.Proofs.Ytnjobojkoaknpaa.F
open Go.RowKit Go.Proofs.YtnjobojkoaknpaaW.PrintWords Go.Proofs.YtnjobojkoaknpaaW.PrintLast Go.Proofs.YtnjobojkoaknpaaW.PrintMore
attribute [local go_sem] max2_int min2_int max_two min_two max_three min_three max_four min_four   -- for this text's walks alone
set_option linter.unusedVariables false
set_option linter.unusedSimpArgs false

attribute [local go_sem] sel_run60
/-! ### solve_Trsv_nil: function 9 -/
mutual
def solve_Trsv_nil.j0 : Nat → Bool → Bool → List Int → Bool → Int → Int → Int → List Int → Option (List Int × Int)
 | 0, _, _, _, _, _, _, _, _ => none
 | k + 1, x2, x3, x4, x36, x316000, x316001, x316002, x316003 => if x36 = true then (some (([] : List Int), 4)) else (solve_Trsv_nil.l0 k x2 x3 x4 (x4.length : Int) (x4.length : Int) 0 x316000 x316001 x316002 x316003)
def solve_Trsv_nil.l0 : Nat → Bool → Bool → List Int → Int → Int → Int → Int → Int → Int → List Int → Option (List Int × Int)
 | 0, _, _, _, _, _, _, _, _, _, _ => none
 | k + 1, x2, x3, x4, x12, x39, x40, x316000, x316001, x316002, x316003 => if x40 < x39 then (if x3 = true then (solve_Trsv_nil.l0 k x2 x3 x4 x12 x39 (wrap64 (x40 + 1)) x316000 x316001 x316002 x316003) else ((mat_Matrix_At.f x316000 x316001 x316002 x316003 x40 x40).bind fun t317 => ((word_Kind.f k t317).bind fun t318 => (if t318 = 1 then (some (([] : List Int), 7)) else (solve_Trsv_nil.l0 k x2 x3 x4 x12 x39 (wrap64 (x40 + 1)) x316000 x316001 x316002 x316003))))) else (if ([] : List Int).length + x4.length < 17592186044416 then (solve_Trsv_nil.l1 k x2 x3 x12 (([] : List Int) ++ x4) x12 0 x316000 x316001 x316002 x316003) else (none))
def solve_Trsv_nil.l1 : Nat → Bool → Bool → Int → List Int → Int → Int → Int → Int → Int → List Int → Option (List Int × Int)
 | 0, _, _, _, _, _, _, _, _, _, _ => none
 | k + 1, x2, x3, x12, x14, x56, x57, x316000, x316001, x316002, x316003 => if x57 < x56 then (if x2 = true then (solve_Trsv_nil.j3 k x2 x3 x12 x14 (wrap64 ((wrap64 (x12 - 1)) - x57)) x56 x57 x316000 x316001 x316002 x316003) else (solve_Trsv_nil.j3 k x2 x3 x12 x14 x57 x56 x57 x316000 x316001 x316002 x316003)) else (some (x14, 0))
def solve_Trsv_nil.j3 : Nat → Bool → Bool → Int → List Int → Int → Int → Int → Int → Int → Int → List Int → Option (List Int × Int)
 | 0, _, _, _, _, _, _, _, _, _, _, _ => none
 | k + 1, x2, x3, x12, x14, x16, x56, x57, x316000, x316001, x316002, x316003 => if x2 = true then ((solve_of_t.f x2).bind fun t322 => ((solve_of_1.f x16 x12).bind fun bt323 => (solve_Trsv_nil.j4 k x2 x3 x12 x14 x16 bt323.1 bt323.2 x56 x57 x316000 x316001 x316002 x316003))) else ((solve_of_e.f x2).bind fun t325 => ((solve_of_2.f x16 x12).bind fun bt326 => (solve_Trsv_nil.j4 k x2 x3 x12 x14 x16 bt326.1 bt326.2 x56 x57 x316000 x316001 x316002 x316003)))
def solve_Trsv_nil.j4 : Nat → Bool → Bool → Int → List Int → Int → Int → Int → Int → Int → Int → Int → Int → List Int → Option (List Int × Int)
 | 0, _, _, _, _, _, _, _, _, _, _, _, _, _ => none
 | k + 1, x2, x3, x12, x14, x16, x17, x18, x56, x57, x316000, x316001, x316002, x316003 => solve_Trsv_nil.l2 k x2 x3 x12 x14 x16 x18 x17 x56 x57 x316000 x316001 x316002 x316003
def solve_Trsv_nil.l2 : Nat → Bool → Bool → Int → List Int → Int → Int → Int → Int → Int → Int → Int → Int → List Int → Option (List Int × Int)
 | 0, _, _, _, _, _, _, _, _, _, _, _, _, _ => none
 | k + 1, x2, x3, x12, x14, x16, x18, x19, x56, x57, x316000, x316001, x316002, x316003 => if x19 < x18 then (if 0 ≤ x16 then (if x16 < (x14.length : Int) then ((mat_Matrix_At.f x316000 x316001 x316002 x316003 x16 x19).bind fun t329 => (if 0 ≤ x19 then (if x19 < (x14.length : Int) then ((soft_Calc_Mul_nil.f k t329 (rd x14 x19)).bind fun t331 => ((soft_Calc_Sub_nil.f k (rd x14 x16) t331).bind fun t332 => (solve_Trsv_nil.l2 k x2 x3 x12 (x14.set (x16 : Int).toNat t332) x16 x18 (wrap64 (x19 + 1)) x56 x57 x316000 x316001 x316002 x316003))) else (none)) else (none))) else (none)) else (none)) else (if x3 = true then (solve_Trsv_nil.l1 k x2 x3 x12 x14 x56 (wrap64 (x57 + 1)) x316000 x316001 x316002 x316003) else (if 0 ≤ x16 then (if x16 < (x14.length : Int) then ((mat_Matrix_At.f x316000 x316001 x316002 x316003 x16 x16).bind fun t335 => ((soft_Calc_Div_nil.f k (rd x14 x16) t335).bind fun t336 => (solve_Trsv_nil.l1 k x2 x3 x12 (x14.set (x16 : Int).toNat t336) x56 (wrap64 (x57 + 1)) x316000 x316001 x316002 x316003))) else (none)) else (none)))
end
def solve_Trsv_nil.f (k : Nat)  (a1_0 : Int) (a1_1 : Int) (a1_2 : Int) (l1_3 : List Int) (a2 : Bool) (a3 : Bool) (l4 : List Int) : Option (List Int × Int) := (mat_Matrix_Check.f k a1_0 a1_1 a1_2 l1_3).bind fun t316 => (if t316 = 0 then (if a1_0 = a1_1 then (solve_Trsv_nil.j0 k a2 a3 l4 (a1_1 != (l4.length : Int)) a1_0 a1_1 a1_2 l1_3) else (solve_Trsv_nil.j0 k a2 a3 l4 true a1_0 a1_1 a1_2 l1_3)) else (solve_Trsv_nil.j0 k a2 a3 l4 true a1_0 a1_1 a1_2 l1_3))
theorem solve_Trsv_nil.mono_l : ∀ k, (∀ y0 y1 y2 y3 y4 y5 y6 y7, LeO (solve_Trsv_nil.j0 k y0 y1 y2 y3 y4 y5 y6 y7) (solve_Trsv_nil.j0 (k + 1) y0 y1 y2 y3 y4 y5 y6 y7)) ∧ (∀ y0 y1 y2 y3 y4 y5 y6 y7 y8 y9, LeO (solve_Trsv_nil.l0 k y0 y1 y2 y3 y4 y5 y6 y7 y8 y9) (solve_Trsv_nil.l0 (k + 1) y0 y1 y2 y3 y4 y5 y6 y7 y8 y9)) ∧ (∀ y0 y1 y2 y3 y4 y5 y6 y7 y8 y9, LeO (solve_Trsv_nil.l1 k y0 y1 y2 y3 y4 y5 y6 y7 y8 y9) (solve_Trsv_nil.l1 (k + 1) y0 y1 y2 y3 y4 y5 y6 y7 y8 y9)) ∧ (∀ y0 y1 y2 y3 y4 y5 y6 y7 y8 y9 y10, LeO (solve_Trsv_nil.j3 k y0 y1 y2 y3 y4 y5 y6 y7 y8 y9 y10) (solve_Trsv_nil.j3 (k + 1) y0 y1 y2 y3 y4 y5 y6 y7 y8 y9 y10)) ∧ (∀ y0 y1 y2 y3 y4 y5 y6 y7 y8 y9 y10 y11 y12, LeO (solve_Trsv_nil.j4 k y0 y1 y2 y3 y4 y5 y6 y7 y8 y9 y10 y11 y12) (solve_Trsv_nil.j4 (k + 1) y0 y1 y2 y3 y4 y5 y6 y7 y8 y9 y10 y11 y12)) ∧ (∀ y0 y1 y2 y3 y4 y5 y6 y7 y8 y9 y10 y11 y12, LeO (solve_Trsv_nil.l2 k y0 y1 y2 y3 y4 y5 y6 y7 y8 y9 y10 y11 y12) (solve_Trsv_nil.l2 (k + 1) y0 y1 y2 y3 y4 y5 y6 y7 y8 y9 y10 y11 y12))
 | 0 => ⟨fun _ _ _ _ _ _ _ _ r h => by simp [solve_Trsv_nil.j0] at h, fun _ _ _ _ _ _ _ _ _ _ r h => by simp [solve_Trsv_nil.l0] at h, fun _ _ _ _ _ _ _ _ _ _ r h => by simp [solve_Trsv_nil.l1] at h, fun _ _ _ _ _ _ _ _ _ _ _ r h => by simp [solve_Trsv_nil.j3] at h, fun _ _ _ _ _ _ _ _ _ _ _ _ _ r h => by simp [solve_Trsv_nil.j4] at h, fun _ _ _ _ _ _ _ _ _ _ _ _ _ r h => by simp [solve_Trsv_nil.l2] at h⟩
 | k + 1 => by
  obtain ⟨ih0, ih1, ih2, ih3, ih4, ih5⟩ := solve_Trsv_nil.mono_l k
  refine ⟨?_, ?_, ?_, ?_, ?_, ?_⟩ <;> intros <;> (first | unfold solve_Trsv_nil.j0 | unfold solve_Trsv_nil.l0 | unfold solve_Trsv_nil.l1 | unfold solve_Trsv_nil.j3 | unfold solve_Trsv_nil.j4 | unfold solve_Trsv_nil.l2) <;>
   repeat' with_reducible first | apply ih0 | apply ih1 | apply ih2 | apply ih3 | apply ih4 | apply ih5 | apply mat_Matrix_Check.mono | apply soft_Calc_Div_nil.mono | apply soft_Calc_Mul_nil.mono | apply soft_Calc_Sub_nil.mono | apply word_Kind.mono | exact LeO.refl _ | exact LeO.none _ | refine LeO.ite ?_ ?_ | refine LeO.bind ?_ (fun _ => ?_)
theorem solve_Trsv_nil.mono : ∀ a0 a1 a2 a3 a4 a5 a6 k, LeO (solve_Trsv_nil.f k a0 a1 a2 a3 a4 a5 a6) (solve_Trsv_nil.f (k + 1) a0 a1 a2 a3 a4 a5 a6) := by
 intro a0 a1 a2 a3 a4 a5 a6 k
 obtain ⟨ih0, ih1, ih2, ih3, ih4, ih5⟩ := solve_Trsv_nil.mono_l k
 unfold solve_Trsv_nil.f
 repeat' with_reducible first | apply ih0 | apply ih1 | apply ih2 | apply ih3 | apply ih4 | apply ih5 | apply mat_Matrix_Check.mono | apply soft_Calc_Div_nil.mono | apply soft_Calc_Mul_nil.mono | apply soft_Calc_Sub_nil.mono | apply word_Kind.mono | exact LeO.refl _ | exact LeO.none _ | refine LeO.ite ?_ ?_ | refine LeO.bind ?_ (fun _ => ?_)
def solve_Trsv_nil.T21 : Bool × List (List Nat × List Nat) := (true, [([], []), ([], []), ([], []), ([], []), ([], []), ([3, 4], [3, 4]), ([5], [5]), ([], []), ([], []), ([], []), ([], []), ([8, 9, 10], [8, 9, 10]), ([], []), ([], []), ([12, 13], [12, 13]), ([14], [14]), ([7, 11, 15, 11], [7, 11, 15]), ([2, 6, 16, 16], [2, 6, 16]), ([0, 1, 0, 1, 2, 3, 4, 5, 6, 7, 8, 9, 10, 11, 12, 13, 14, 15, 16, 17], [0, 1]), ([18, 17, 17, 0, 1, 2, 3, 4, 5, 6, 7, 8, 9, 10, 11, 12, 13, 14, 15, 16, 17], [17, 18])])
def solve_Trsv_nil.B21 : List Nat := [0, 0, 0, 0, 0, 24, 56, 0, 0, 0, 0, 1792, 0, 0, 12288, 28672, 65408, 131068, 262143, 524287]
theorem solve_Trsv_nil.tab21 : rtab .any (opsOf Try.f9 21) = solve_Trsv_nil.T21 := by kernel_rfl
theorem solve_Trsv_nil.bits21 : waitsOk solve_Trsv_nil.T21.2 solve_Trsv_nil.B21 = true := by kernel_rfl
def solve_Trsv_nil.T23 : Bool × List (List Nat × List Nat) := (true, [([], []), ([], []), ([], []), ([], []), ([], []), ([3, 4], [3, 4]), ([5], [5]), ([], []), ([], []), ([], []), ([7, 8, 9], [7, 8, 9]), ([2, 6, 10, 10], [2, 6, 10]), ([0, 1, 0, 1, 2, 3, 4, 5, 6, 7, 8, 9, 10, 11], [0, 1]), ([12, 11, 11, 0, 1, 2, 3, 4, 5, 6, 7, 8, 9, 10, 11], [11, 12])])
def solve_Trsv_nil.B23 : List Nat := [0, 0, 0, 0, 0, 24, 56, 0, 0, 0, 896, 2044, 4095, 8191]
theorem solve_Trsv_nil.tab23 : rtab .any (opsOf Try.f9 23) = solve_Trsv_nil.T23 := by kernel_rfl
theorem solve_Trsv_nil.bits23 : waitsOk solve_Trsv_nil.T23.2 solve_Trsv_nil.B23 = true := by kernel_rfl
set_option maxHeartbeats 8000000 in
set_option maxRecDepth 100000 in
theorem solve_Trsv_nil.calls (k : Nat)  (a1_0 : Int) (a1_1 : Int) (a1_2 : Int) (A1_3 : Option Addr) (c1_3 : Nat) (l1_3 : List Int) (a2 : Bool) (a3 : Bool) (A4 : Option Addr) (c4 : Nat) (l4 : List Int) (r1 : List Int) (r2 : Int) (w : World) (hr1_3 : Kd.C (Kd.int .u64) w A1_3 l1_3.length l1_3) (hc1_3 : l1_3.length ≤ c1_3) (hr4 : Kd.C (Kd.int .u64) w A4 l4.length l4) (hc4 : l4.length ≤ c4) (h : solve_Trsv_nil.f k a1_0 a1_1 a1_2 l1_3 a2 a3 l4 = some (r1, r2)) :
  Calls Try.prog 9 #[.pointer none, .agg #[.int .i64 a1_0, .int .i64 a1_1, .int .i64 a1_2, .slice A1_3 l1_3.length c1_3], .bool a2, .bool a3, .slice A4 l4.length c4] w fun e w' => ∃ v0_ : Value, e = .returned (.tuple #[v0_, .int .i64 r2]) ∧ Kd.R (Kd.int .u64) 35 w' w.heap.size (fun _ => True) v0_ r1 ∧ Below w.heap.size w w' := by
 have hu25 := Try.underlying25
 have hu60 := Try.underlying60
 have HR1_3 := Aside0.mk hr1_3
 have HC1_3 := Aside0.mk hc1_3
 clear hr1_3 hc1_3
 have HR4 := Aside0.mk hr4
 have HC4 := Aside0.mk hc4
 clear hr4 hc4
 have HB := Aside0.mk (Below.refl w.heap.size w)
 have H : ((mat_Matrix_Check.f k a1_0 a1_1 a1_2 l1_3).bind fun t316 => (if t316 = 0 then (if a1_0 = a1_1 then (solve_Trsv_nil.j0 k a2 a3 l4 (a1_1 != (l4.length : Int)) a1_0 a1_1 a1_2 l1_3) else (solve_Trsv_nil.j0 k a2 a3 l4 true a1_0 a1_1 a1_2 l1_3)) else (solve_Trsv_nil.j0 k a2 a3 l4 true a1_0 a1_1 a1_2 l1_3))) = some (r1, r2) := h
 clear h
 have HC6 := Aside0.mk H
 clear H
 go_enter Try.func9, Try.ntmps9
 go_upto_region 1 with (first | ((with_reducible refine gate_dst (N := 6) rfl ?_); refine gbox (N := 6) (cs := #[.int .i64 a1_0, .int .i64 a1_1, .int .i64 a1_2, .slice A1_3 l1_3.length c1_3]) (t := 25) ?_; intro gb315 hg w7 hbox hb; refine ax4 (below_step bel hb) hbox ((ge hg : w.heap.size ≤ gb315)) ((ge hg : w.heap.size ≤ gb315)) ?_; clear HB; intro HB BK315 GW315 GE315; clear hb hbox hg))
 (try simp only [Act.put, sa0, sa1, sa2])
 go_cut [36] (fun v36 wc => ∃ (kq : Nat) (x36_5 : Bool), v36 = .bool x36_5 ∧ Aside0 (solve_Trsv_nil.j0 kq a2 a3 l4 x36_5 a1_0 a1_1 a1_2 l1_3 = some (r1, r2)) ∧ Aside0 (kq ≤ k) ∧ Aside0 (wc.heap[gb315]? = some (.cells #[.int .i64 a1_0, .int .i64 a1_1, .int .i64 a1_2, (.slice A1_3 l1_3.length c1_3)] 25 (0, 0))) ∧ Aside0 (Below w.heap.size w wc))
 case first =>
  have H := HC6.out
  clear HC6
  obtain ⟨t316, A80, H⟩ := Option.bind_eq_some_iff.mp H
  (try dsimp -simprocs only at H)
  have A8 := Aside0.mk A80
  clear A80
  by_cases c9 : t316 = 0
  ·
   rw [if_pos c9] at H
   have c9b0 : (t316 == 0) = true := beq_iff_eq.mpr c9
   have c9b1 : (t316 != 0) = false := bne_eq_false_iff_eq.mpr c9
   clear c9
   (first | rw [c9b0] | (simp only [i64_w, i32_w]; rw [c9b0]) | skip)
   by_cases c10 : a1_0 = a1_1
   ·
    rw [if_pos c10] at H
    have c10b0 : (a1_0 == a1_1) = true := beq_iff_eq.mpr c10
    have c10b1 : (a1_0 != a1_1) = false := bne_eq_false_iff_eq.mpr c10
    clear c10
    have H' := Aside0.mk H
    clear H
    have hcz11_0 := bc BK315 0 rfl
    have hcz11_1 := bc BK315 1 rfl
    have hcz11_2 := bc BK315 2 rfl
    have hcz11_3 := bc BK315 3 rfl
    have hfz11_0 := blk_frozen BK315.out 0
    have hfz11_1 := blk_frozen BK315.out 1
    have hfz11_2 := blk_frozen BK315.out 2
    have hfz11_3 := blk_frozen BK315.out 3
    go_wp2_with (first | ((with_reducible refine gate_callee (f := 26) rfl ?_); refine goesL_ (some 21) rfl rfl Try.func26 (by kernel_rfl) rfl #[.agg #[.int .i64 a1_0, .int .i64 a1_1, .int .i64 a1_2, .slice A1_3 l1_3.length c1_3]] rfl ga ?_; (with_reducible refine (mat_Matrix_Check.calls k a1_0 a1_1 a1_2 _ _ l1_3 t316 _ ?side1 ?side2 A8.out).mono ?_); (case side1 => repeat (first | exact (Kd.C_below HR1_3.out HB.out) | (with_reducible refine Kd.C_alloc ?_ _) | (with_reducible refine Kd.C_drewN ?_ _) | (with_reducible refine Kd.C_drew ?_))); (case side2 => exact HC1_3.out); rintro e w12 ⟨rfl, hb⟩; refine ⟨_, rfl, ?_⟩; refine ax2 (bb BK315 hb) (below_step bes hb) ?_; clear BK315; clear HB; intro BK315 HB; (try clear hb); have hcz13_0 := bc BK315 0 rfl; have hcz13_1 := bc BK315 1 rfl; have hcz13_2 := bc BK315 2 rfl; have hcz13_3 := bc BK315 3 rfl; have hfz13_0 := blk_frozen BK315.out 0; have hfz13_1 := blk_frozen BK315.out 1; have hfz13_2 := blk_frozen BK315.out 2; have hfz13_3 := blk_frozen BK315.out 3))
    go_meet
    case rel => exact ⟨_, ((a1_1 != (l4.length : Int))), (by first | rfl | (simp; done) | (simp [*]; done)), H', ⟨by first | omega | exact Nat.le_refl _⟩, ⟨kb BK315⟩, ⟨bes⟩⟩
   ·
    rw [if_neg c10] at H
    have c10b0 : (a1_0 == a1_1) = false := beq_eq_false_iff_ne.mpr c10
    have c10b1 : (a1_0 != a1_1) = true := bne_iff_ne.mpr c10
    have H' := Aside0.mk H
    clear H
    have hcz14_0 := bc BK315 0 rfl
    have hcz14_1 := bc BK315 1 rfl
    have hcz14_2 := bc BK315 2 rfl
    have hcz14_3 := bc BK315 3 rfl
    have hfz14_0 := blk_frozen BK315.out 0
    have hfz14_1 := blk_frozen BK315.out 1
    have hfz14_2 := blk_frozen BK315.out 2
    have hfz14_3 := blk_frozen BK315.out 3
    go_wp2_with (first | ((with_reducible refine gate_callee (f := 26) rfl ?_); refine goesL_ (some 21) rfl rfl Try.func26 (by kernel_rfl) rfl #[.agg #[.int .i64 a1_0, .int .i64 a1_1, .int .i64 a1_2, .slice A1_3 l1_3.length c1_3]] rfl ga ?_; (with_reducible refine (mat_Matrix_Check.calls k a1_0 a1_1 a1_2 _ _ l1_3 t316 _ ?side1 ?side2 A8.out).mono ?_); (case side1 => repeat (first | exact (Kd.C_below HR1_3.out HB.out) | (with_reducible refine Kd.C_alloc ?_ _) | (with_reducible refine Kd.C_drewN ?_ _) | (with_reducible refine Kd.C_drew ?_))); (case side2 => exact HC1_3.out); rintro e w15 ⟨rfl, hb⟩; refine ⟨_, rfl, ?_⟩; refine ax2 (bb BK315 hb) (below_step bes hb) ?_; clear BK315; clear HB; intro BK315 HB; (try clear hb); have hcz16_0 := bc BK315 0 rfl; have hcz16_1 := bc BK315 1 rfl; have hcz16_2 := bc BK315 2 rfl; have hcz16_3 := bc BK315 3 rfl; have hfz16_0 := blk_frozen BK315.out 0; have hfz16_1 := blk_frozen BK315.out 1; have hfz16_2 := blk_frozen BK315.out 2; have hfz16_3 := blk_frozen BK315.out 3))
    go_meet
    case rel => exact ⟨_, (true), (by first | rfl | (simp; done) | (simp [*]; done)), H', ⟨by first | omega | exact Nat.le_refl _⟩, ⟨kb BK315⟩, ⟨bes⟩⟩
  ·
   rw [if_neg c9] at H
   have c9b0 : (t316 == 0) = false := beq_eq_false_iff_ne.mpr c9
   have c9b1 : (t316 != 0) = true := bne_iff_ne.mpr c9
   (first | rw [c9b0] | (simp only [i64_w, i32_w]; rw [c9b0]) | skip)
   have H' := Aside0.mk H
   clear H
   have hcz17_0 := bc BK315 0 rfl
   have hcz17_1 := bc BK315 1 rfl
   have hcz17_2 := bc BK315 2 rfl
   have hcz17_3 := bc BK315 3 rfl
   have hfz17_0 := blk_frozen BK315.out 0
   have hfz17_1 := blk_frozen BK315.out 1
   have hfz17_2 := blk_frozen BK315.out 2
   have hfz17_3 := blk_frozen BK315.out 3
   go_wp2_with (first | ((with_reducible refine gate_callee (f := 26) rfl ?_); refine goesL_ (some 21) rfl rfl Try.func26 (by kernel_rfl) rfl #[.agg #[.int .i64 a1_0, .int .i64 a1_1, .int .i64 a1_2, .slice A1_3 l1_3.length c1_3]] rfl ga ?_; (with_reducible refine (mat_Matrix_Check.calls k a1_0 a1_1 a1_2 _ _ l1_3 t316 _ ?side1 ?side2 A8.out).mono ?_); (case side1 => repeat (first | exact (Kd.C_below HR1_3.out HB.out) | (with_reducible refine Kd.C_alloc ?_ _) | (with_reducible refine Kd.C_drewN ?_ _) | (with_reducible refine Kd.C_drew ?_))); (case side2 => exact HC1_3.out); rintro e w18 ⟨rfl, hb⟩; refine ⟨_, rfl, ?_⟩; refine ax2 (bb BK315 hb) (below_step bes hb) ?_; clear BK315; clear HB; intro BK315 HB; (try clear hb)))
   go_meet
   case rel => exact ⟨_, (true), (by first | rfl | (simp; done) | (simp [*]; done)), H', ⟨by first | omega | exact Nat.le_refl _⟩, ⟨kb BK315⟩, ⟨bes⟩⟩
 case rest =>
  clear HC6
  try clear c1
  try clear c2
  try clear p2
  try clear c4
  try clear c7
  try clear c9
  try clear c9b0
  try clear c9b1
  try clear c10
  try clear c10b0
  try clear c10b1
  try clear hcz11_0
  try clear hcz11_1
  try clear hcz11_2
  try clear hcz11_3
  try clear hcz13_0
  try clear hcz13_1
  try clear hcz13_2
  try clear hcz13_3
  try clear hcz14_0
  try clear hcz14_1
  try clear hcz14_2
  try clear hcz14_3
  try clear hcz16_0
  try clear hcz16_1
  try clear hcz16_2
  try clear hcz16_3
  try clear hcz17_0
  try clear hcz17_1
  try clear hcz17_2
  try clear hcz17_3
  try clear hfz11_0
  try clear hfz11_1
  try clear hfz11_2
  try clear hfz11_3
  try clear hfz13_0
  try clear hfz13_1
  try clear hfz13_2
  try clear hfz13_3
  try clear hfz14_0
  try clear hfz14_1
  try clear hfz14_2
  try clear hfz14_3
  try clear hfz16_0
  try clear hfz16_1
  try clear hfz16_2
  try clear hfz16_3
  try clear hfz17_0
  try clear hfz17_1
  try clear hfz17_2
  try clear hfz17_3
  obtain ⟨kq, x36_5, rfl, HA, HJ5, BK315, HB⟩ := hcut
  cases kq with
  | zero => exact absurd HA.out (by simp [solve_Trsv_nil.j0])
  | succ kj5 =>
   have H := HA.out
   clear HA
   simp only [solve_Trsv_nil.j0] at H
   by_cases c19 : x36_5 = true
   ·
    subst c19
    rw [if_pos rfl] at H
    simp only [Option.some.injEq, Prod.mk.injEq] at H
    obtain ⟨rfl, rfl⟩ := H
    go_wp2
    go_ret2
    exact ⟨_, er, by first | exact Kd.R_nil _ _ _ _ _ | exact Kd.N_nil _ _ _ _ _ | exact Kd.V_nil _ _ _ _ _ | exact Kd.Q_nil _ _ _ _ _ | exact Kd.S_nil _ _ _ _ _, bes⟩
   ·
    replace c19 := Bool.eq_false_iff.mpr c19
    subst c19
    rw [if_neg (show ¬ (false = true) by decide)] at H
    have H' := Aside0.mk H
    clear H
    go_wp2
    go_loopg [40] kj5 (fun kq v40 w' => ∃ (x40_2 : Int), v40 = .int .i64 x40_2 ∧ Aside0 (solve_Trsv_nil.l0 kq a2 a3 l4 (l4.length : Int) (l4.length : Int) x40_2 a1_0 a1_1 a1_2 l1_3 = some (r1, r2)) ∧ Aside0 (kq ≤ kj5) ∧ Aside0 (w'.heap[gb315]? = some (.cells #[.int .i64 a1_0, .int .i64 a1_1, .int .i64 a1_2, (.slice A1_3 l1_3.length c1_3)] 25 (0, 0))) ∧ Aside0 (Below w.heap.size w w'))
    case atStart => exact ⟨(0), (by first | rfl | (simp; done) | (simp [*]; done)), H', ⟨Nat.le_refl _⟩, ⟨kb BK315⟩, ⟨bes⟩⟩
    case round =>
     clear H'
     try clear c1
     try clear c2
     try clear p2
     try clear c4
     try clear c7
     try clear c9
     try clear c9b0
     try clear c9b1
     try clear c10
     try clear c10b0
     try clear c10b1
     try clear c19
     try clear hcz11_0
     try clear hcz11_1
     try clear hcz11_2
     try clear hcz11_3
     try clear hcz13_0
     try clear hcz13_1
     try clear hcz13_2
     try clear hcz13_3
     try clear hcz14_0
     try clear hcz14_1
     try clear hcz14_2
     try clear hcz14_3
     try clear hcz16_0
     try clear hcz16_1
     try clear hcz16_2
     try clear hcz16_3
     try clear hcz17_0
     try clear hcz17_1
     try clear hcz17_2
     try clear hcz17_3
     try clear hfz11_0
     try clear hfz11_1
     try clear hfz11_2
     try clear hfz11_3
     try clear hfz13_0
     try clear hfz13_1
     try clear hfz13_2
     try clear hfz13_3
     try clear hfz14_0
     try clear hfz14_1
     try clear hfz14_2
     try clear hfz14_3
     try clear hfz16_0
     try clear hfz16_1
     try clear hfz16_2
     try clear hfz16_3
     try clear hfz17_0
     try clear hfz17_1
     try clear hfz17_2
     try clear hfz17_3
     try clear p2
     obtain ⟨x40_2, rfl, HA, HK2, BK315, HB⟩ := hrel
     cases gk with
     | zero => exact absurd HA.out (by simp [solve_Trsv_nil.l0])
     | succ k2 =>
      have H := HA.out
      clear HA
      simp only [solve_Trsv_nil.l0] at H
      by_cases c20 : x40_2 < (l4.length : Int)
      ·
       rw [if_pos c20] at H
       have c20b0 : decide (x40_2 < (l4.length : Int)) = true := decide_eq_true c20
       clear c20
       by_cases c21 : a3 = true
       ·
        subst c21
        rw [if_pos rfl] at H
        have H' := Aside0.mk H
        clear H
        go_wp2
        go_roundg k2
        case measure => have := HJ5.out; have := HK2.out; omega
        case rel => exact ⟨(wrap64 (x40_2 + 1)), (by first | rfl | (simp; done) | (simp [*]; done)), H', ⟨by have := HJ5.out; have := HK2.out; omega⟩, ⟨kb BK315⟩, ⟨bes⟩⟩
       ·
        replace c21 := Bool.eq_false_iff.mpr c21
        subst c21
        rw [if_neg (show ¬ (false = true) by decide)] at H
        obtain ⟨t317, A220, H⟩ := Option.bind_eq_some_iff.mp H
        (try dsimp -simprocs only at H)
        have A22 := Aside0.mk A220
        clear A220
        obtain ⟨t318, A230, H⟩ := Option.bind_eq_some_iff.mp H
        (try dsimp -simprocs only at H)
        have A23 := Aside0.mk A230
        clear A230
        by_cases c24 : t318 = 1
        ·
         rw [if_pos c24] at H
         have c24b0 : (t318 == 1) = true := beq_iff_eq.mpr c24
         have c24b1 : (t318 != 1) = false := bne_eq_false_iff_eq.mpr c24
         clear c24
         simp only [Option.some.injEq, Prod.mk.injEq] at H
         obtain ⟨rfl, rfl⟩ := H
         have hcz25_0 := bc BK315 0 rfl
         have hcz25_1 := bc BK315 1 rfl
         have hcz25_2 := bc BK315 2 rfl
         have hcz25_3 := bc BK315 3 rfl
         have hfz25_0 := blk_frozen BK315.out 0
         have hfz25_1 := blk_frozen BK315.out 1
         have hfz25_2 := blk_frozen BK315.out 2
         have hfz25_3 := blk_frozen BK315.out 3
         go_wp2_with (first | (go_at_call 11; (with_reducible refine (mat_Matrix_At.calls a1_0 a1_1 a1_2 _ _ l1_3 x40_2 x40_2 t317 _ ?side1 ?side2 A22.out).mono ?_); (case side1 => repeat (first | exact (Kd.C_below HR1_3.out HB.out) | (with_reducible refine Kd.C_alloc ?_ _) | (with_reducible refine Kd.C_drewN ?_ _) | (with_reducible refine Kd.C_drew ?_))); (case side2 => exact HC1_3.out); rintro e w26 ⟨rfl, hb⟩; refine ax2 (bb BK315 hb) (below_step bes hb) ?_; clear BK315; clear HB; intro BK315 HB; (try clear hb)) | (go_at_call 27; (with_reducible refine (word_Kind.calls k2 t317 t318 _ A23.out).mono ?_); rintro e w' ⟨rfl, ⟨nd, rfl⟩⟩))
         go_ret2
         exact ⟨_, er, by first | exact Kd.R_nil _ _ _ _ _ | exact Kd.N_nil _ _ _ _ _ | exact Kd.V_nil _ _ _ _ _ | exact Kd.Q_nil _ _ _ _ _ | exact Kd.S_nil _ _ _ _ _, bes⟩
        ·
         rw [if_neg c24] at H
         have c24b0 : (t318 == 1) = false := beq_eq_false_iff_ne.mpr c24
         have c24b1 : (t318 != 1) = true := bne_iff_ne.mpr c24
         have H' := Aside0.mk H
         clear H
         have hcz27_0 := bc BK315 0 rfl
         have hcz27_1 := bc BK315 1 rfl
         have hcz27_2 := bc BK315 2 rfl
         have hcz27_3 := bc BK315 3 rfl
         have hfz27_0 := blk_frozen BK315.out 0
         have hfz27_1 := blk_frozen BK315.out 1
         have hfz27_2 := blk_frozen BK315.out 2
         have hfz27_3 := blk_frozen BK315.out 3
         go_wp2_with (first | (go_at_call 11; (with_reducible refine (mat_Matrix_At.calls a1_0 a1_1 a1_2 _ _ l1_3 x40_2 x40_2 t317 _ ?side1 ?side2 A22.out).mono ?_); (case side1 => repeat (first | exact (Kd.C_below HR1_3.out HB.out) | (with_reducible refine Kd.C_alloc ?_ _) | (with_reducible refine Kd.C_drewN ?_ _) | (with_reducible refine Kd.C_drew ?_))); (case side2 => exact HC1_3.out); rintro e w28 ⟨rfl, hb⟩; refine ax2 (bb BK315 hb) (below_step bes hb) ?_; clear BK315; clear HB; intro BK315 HB; (try clear hb)) | (go_at_call 27; (with_reducible refine (word_Kind.calls k2 t317 t318 _ A23.out).mono ?_); rintro e w' ⟨rfl, ⟨nd, rfl⟩⟩))
         go_roundg k2
         case measure => have := HJ5.out; have := HK2.out; omega
         case rel => exact ⟨(wrap64 (x40_2 + 1)), (by first | rfl | (simp; done) | (simp [*]; done)), H', ⟨by have := HJ5.out; have := HK2.out; omega⟩, ⟨kb BK315⟩, ⟨bes⟩⟩
      ·
       rw [if_neg c20] at H
       have c20b0 : decide (x40_2 < (l4.length : Int)) = false := decide_eq_false c20
       clear c20
       by_cases c29 : ([] : List Int).length + l4.length < 17592186044416
       rotate_left
       ·
        rw [if_neg c29] at H
        exact absurd H (by simp)

       rw [if_pos c29] at H
       have LMc29 := Aside0.mk c29
       clear c29
       obtain ⟨y319, hy319⟩ : ∃ y_ : List Int, y_ = (([] : List Int) ++ l4) := ⟨_, rfl⟩
       replace H : (solve_Trsv_nil.l1 k2 a2 a3 (l4.length : Int) y319 (l4.length : Int) 0 a1_0 a1_1 a1_2 l1_3) = some (r1, r2) := by first | (rw [hy319]; with_reducible exact H) | (have H2_ := (Option.bind_some _ _).symm.trans H; rw [hy319]; with_reducible exact H2_) | (have H2_ := (Option.bind_some _ _).symm.trans H; with_reducible exact H2_) | with_reducible exact H | (rw [hy319]; exact H) | exact H
       have Ny319 := Aside0.mk hy319
       clear hy319
       have H' := Aside0.mk H
       clear H
       go_wp2_with (first | ((with_reducible refine gate_builtin (b := .append) (xs := #[.const (.slice none 0 0), .tmp 54]) rfl ?_); at_builtin; refine Kd.R_append_rows (Kd.int .u64) (w0 := w) w.heap.size rfl (.const (.slice none 0 0)) (.tmp 54) 22 35 (.int .u64 0) 8 rfl Try.underlying22 info35 rfl (by decide) (by omega) (.slice none 0 0) ([] : List Int) l4 _ _ _ (fun _ => True) (fun _ => False) rfl rfl ?aO ?aR (fun _ _ h => h) (fun _ h => h.elim) ?aF ?aB ?aS ?aL ?_; (case aR => repeat (first | exact (Kd.C_below HR4.out HB.out) | (with_reducible refine Kd.C_alloc ?_ _) | (with_reducible refine Kd.C_drewN ?_ _) | (with_reducible refine Kd.C_drew ?_))); (case aB => exact bes); (case aF => exact (fun _ _ => trivial)); (case aO => exact ((Kd.R_nil _ _ _ _ (fun _ => True)))); (case aS => exact (below_size bes)); (case aL => have := LMc29.out; omega); intro v320 w30 ho hb hg hat; rw [← Ny319.out] at ho; refine ax3 (blk_grown (g := gb315) (o := .cells #[.int .i64 a1_0, .int .i64 a1_1, .int .i64 a1_2, .slice A1_3 l1_3.length c1_3] 25 (0, 0)) (kb BK315) hg (by simp [Value.ownBlock])) hb ho ?_; clear BK315; clear HB; intro BK315 HB HO321; clear ho hb hg hat))
       go_loopg [57] k2 (fun kq v57 w' => ∃ (x14_3 : List Int) (x57_3 : Int), v57 = .int .i64 x57_3 ∧ Aside0 (solve_Trsv_nil.l1 kq a2 a3 (l4.length : Int) x14_3 (l4.length : Int) x57_3 a1_0 a1_1 a1_2 l1_3 = some (r1, r2)) ∧ Aside0 (kq ≤ k2) ∧ Aside0 (Kd.R (Kd.int .u64) 35 w' w.heap.size (fun _ => True) v320 x14_3) ∧ Aside0 (w'.heap[gb315]? = some (.cells #[.int .i64 a1_0, .int .i64 a1_1, .int .i64 a1_2, (.slice A1_3 l1_3.length c1_3)] 25 (0, 0))) ∧ Aside0 (Below w.heap.size w w'))
       case atStart => exact ⟨(y319), (0), (by first | rfl | (simp; done) | (simp [*]; done)), H', ⟨Nat.le_refl _⟩, ⟨kr HO321⟩, ⟨kb BK315⟩, ⟨bes⟩⟩
       case round =>
        clear H'
        try clear c1
        try clear c2
        try clear p2
        try clear c4
        try clear p6
        try clear c7
        try clear c9
        try clear c9b0
        try clear c9b1
        try clear c10
        try clear c10b0
        try clear c10b1
        try clear c19
        try clear c20
        try clear c20b0
        try clear c21
        try clear c24
        try clear c24b0
        try clear c24b1
        try clear c26
        try clear c29
        try clear hcz11_0
        try clear hcz11_1
        try clear hcz11_2
        try clear hcz11_3
        try clear hcz13_0
        try clear hcz13_1
        try clear hcz13_2
        try clear hcz13_3
        try clear hcz14_0
        try clear hcz14_1
        try clear hcz14_2
        try clear hcz14_3
        try clear hcz16_0
        try clear hcz16_1
        try clear hcz16_2
        try clear hcz16_3
        try clear hcz17_0
        try clear hcz17_1
        try clear hcz17_2
        try clear hcz17_3
        try clear hcz25_0
        try clear hcz25_1
        try clear hcz25_2
        try clear hcz25_3
        try clear hcz27_0
        try clear hcz27_1
        try clear hcz27_2
        try clear hcz27_3
        try clear hfz11_0
        try clear hfz11_1
        try clear hfz11_2
        try clear hfz11_3
        try clear hfz13_0
        try clear hfz13_1
        try clear hfz13_2
        try clear hfz13_3
        try clear hfz14_0
        try clear hfz14_1
        try clear hfz14_2
        try clear hfz14_3
        try clear hfz16_0
        try clear hfz16_1
        try clear hfz16_2
        try clear hfz16_3
        try clear hfz17_0
        try clear hfz17_1
        try clear hfz17_2
        try clear hfz17_3
        try clear hfz25_0
        try clear hfz25_1
        try clear hfz25_2
        try clear hfz25_3
        try clear hfz27_0
        try clear hfz27_1
        try clear hfz27_2
        try clear hfz27_3
        try clear p2
        obtain ⟨x14_3, x57_3, rfl, HA, HK3, HO_14, BK315, HB⟩ := hrel
        cases gk with
        | zero => exact absurd HA.out (by simp [solve_Trsv_nil.l1])
        | succ k3 =>
         have H := HA.out
         clear HA
         simp only [solve_Trsv_nil.l1] at H
         by_cases c31 : x57_3 < (l4.length : Int)
         rotate_left
         ·
          rw [if_neg c31] at H
          have c31b0 : decide (x57_3 < (l4.length : Int)) = false := decide_eq_false c31
          clear c31
          simp only [Option.some.injEq, Prod.mk.injEq] at H
          obtain ⟨rfl, rfl⟩ := H
          go_wp2
          go_ret2
          exact ⟨_, er, kr HO_14, bes⟩
         rw [if_pos c31] at H
         have c31b0 : decide (x57_3 < (l4.length : Int)) = true := decide_eq_true c31
         clear c31
         have HC32 := Aside0.mk H
         clear H
         go_upto_if 61 with (fail)
         go_cut [16] (fun v16 wc => ∃ (kq : Nat) (x16_31 : Int), v16 = .int .i64 x16_31 ∧ Aside0 (solve_Trsv_nil.j3 kq a2 a3 (l4.length : Int) x14_3 x16_31 (l4.length : Int) x57_3 a1_0 a1_1 a1_2 l1_3 = some (r1, r2)) ∧ Aside0 (kq ≤ k3) ∧ Aside0 (Kd.R (Kd.int .u64) 35 wc w.heap.size (fun _ => True) v320 x14_3) ∧ Aside0 (wc.heap[gb315]? = some (.cells #[.int .i64 a1_0, .int .i64 a1_1, .int .i64 a1_2, (.slice A1_3 l1_3.length c1_3)] 25 (0, 0))) ∧ Aside0 (Below w.heap.size w wc))
         case first =>
          have H := HC32.out
          clear HC32
          by_cases c33 : a2 = true
          ·
           subst c33
           rw [if_pos rfl] at H
           have H' := Aside0.mk H
           clear H
           go_wp2
           go_meet
           case rel => exact ⟨_, (wrap64 ((wrap64 ((l4.length : Int) - 1)) - x57_3)), (by first | rfl | (simp; done) | (simp [*]; done)), H', ⟨by have := HJ5.out; have := HK2.out; have := HK3.out; first | omega | exact Nat.le_refl _⟩, ⟨kr HO_14⟩, ⟨kb BK315⟩, ⟨bes⟩⟩
          ·
           replace c33 := Bool.eq_false_iff.mpr c33
           subst c33
           rw [if_neg (show ¬ (false = true) by decide)] at H
           have H' := Aside0.mk H
           clear H
           go_wp2
           go_meet
           case rel => exact ⟨_, (x57_3), (by first | rfl | (simp; done) | (simp [*]; done)), H', ⟨by have := HJ5.out; have := HK2.out; have := HK3.out; first | omega | exact Nat.le_refl _⟩, ⟨kr HO_14⟩, ⟨kb BK315⟩, ⟨bes⟩⟩
         case rest =>
          clear HC32
          try clear c1
          try clear c2
          try clear p2
          try clear c3
          try clear c4
          try clear p6
          try clear c7
          try clear c9
          try clear c9b0
          try clear c9b1
          try clear c10
          try clear c10b0
          try clear c10b1
          try clear c19
          try clear c20
          try clear c20b0
          try clear c21
          try clear c24
          try clear c24b0
          try clear c24b1
          try clear c26
          try clear c29
          try clear c31
          try clear c31b0
          try clear c33
          try clear hcz11_0
          try clear hcz11_1
          try clear hcz11_2
          try clear hcz11_3
          try clear hcz13_0
          try clear hcz13_1
          try clear hcz13_2
          try clear hcz13_3
          try clear hcz14_0
          try clear hcz14_1
          try clear hcz14_2
          try clear hcz14_3
          try clear hcz16_0
          try clear hcz16_1
          try clear hcz16_2
          try clear hcz16_3
          try clear hcz17_0
          try clear hcz17_1
          try clear hcz17_2
          try clear hcz17_3
          try clear hcz25_0
          try clear hcz25_1
          try clear hcz25_2
          try clear hcz25_3
          try clear hcz27_0
          try clear hcz27_1
          try clear hcz27_2
          try clear hcz27_3
          try clear hfz11_0
          try clear hfz11_1
          try clear hfz11_2
          try clear hfz11_3
          try clear hfz13_0
          try clear hfz13_1
          try clear hfz13_2
          try clear hfz13_3
          try clear hfz14_0
          try clear hfz14_1
          try clear hfz14_2
          try clear hfz14_3
          try clear hfz16_0
          try clear hfz16_1
          try clear hfz16_2
          try clear hfz16_3
          try clear hfz17_0
          try clear hfz17_1
          try clear hfz17_2
          try clear hfz17_3
          try clear hfz25_0
          try clear hfz25_1
          try clear hfz25_2
          try clear hfz25_3
          try clear hfz27_0
          try clear hfz27_1
          try clear hfz27_2
          try clear hfz27_3
          try clear p2
          try clear p6
          obtain ⟨kq, x16_31, rfl, HA, HJ31, HO_14, BK315, HB⟩ := hcut
          cases kq with
          | zero => exact absurd HA.out (by simp [solve_Trsv_nil.j3])
          | succ kj31 =>
           have H := HA.out
           clear HA
           simp only [solve_Trsv_nil.j3] at H
           have HC34 := Aside0.mk H
           clear H
           go_upto_region 17 with (fail)
           go_cut [17, 18] (fun v17 v18 wc => ∃ (kq : Nat) (x17_33 : Int) (x18_33 : Int), v17 = .int .i64 x17_33 ∧ v18 = .int .i64 x18_33 ∧ Aside0 (solve_Trsv_nil.j4 kq a2 a3 (l4.length : Int) x14_3 x16_31 x17_33 x18_33 (l4.length : Int) x57_3 a1_0 a1_1 a1_2 l1_3 = some (r1, r2)) ∧ Aside0 (kq ≤ kj31) ∧ Aside0 (Kd.R (Kd.int .u64) 35 wc w.heap.size (fun _ => True) v320 x14_3) ∧ Aside0 (wc.heap[gb315]? = some (.cells #[.int .i64 a1_0, .int .i64 a1_1, .int .i64 a1_2, (.slice A1_3 l1_3.length c1_3)] 25 (0, 0))) ∧ Aside0 (Below w.heap.size w wc))
           case first =>
            have H := HC34.out
            clear HC34
            by_cases c35 : a2 = true
            ·
             subst c35
             rw [if_pos rfl] at H
             obtain ⟨t322, A360, H⟩ := Option.bind_eq_some_iff.mp H
             (try dsimp -simprocs only at H)
             have A36 := Aside0.mk A360
             clear A360
             obtain ⟨⟨t323, t324⟩, A370, H⟩ := Option.bind_eq_some_iff.mp H
             (try dsimp -simprocs only at H)
             have A37 := Aside0.mk A370
             clear A370
             have H' := Aside0.mk H
             clear H
             go_wp2_with (first | ((with_reducible refine gate_callee (f := 28) rfl ?_); refine goesL_ (some 68) rfl rfl Try.func28 (by kernel_rfl) rfl #[.bool true] rfl ga ?_; (with_reducible refine (solve_of_t.calls true t322 _ A36.out).mono ?_); rintro e w38 ⟨rfl, hb⟩; refine ⟨_, rfl, ?_⟩; refine ax3 (Kd.R_below (kr HO_14) hb) (bb BK315 hb) (below_step bes hb) ?_; clear HO_14; clear BK315; clear HB; intro HO_14 BK315 HB; (try clear hb)) | (go_at_call 42; (with_reducible refine (solve_of_1.calls x16_31 (l4.length : Int) t323 t324 _ A37.out).mono ?_); rintro e w' ⟨rfl, ⟨nd, rfl⟩⟩))
             go_meet
             case rel => exact ⟨_, (t323), (t324), (by first | rfl | (simp; done) | (simp [*]; done)), (by first | rfl | (simp; done) | (simp [*]; done)), H', ⟨by have := HJ5.out; have := HK2.out; have := HK3.out; have := HJ31.out; first | omega | exact Nat.le_refl _⟩, ⟨kr HO_14⟩, ⟨kb BK315⟩, ⟨bes⟩⟩
            ·
             replace c35 := Bool.eq_false_iff.mpr c35
             subst c35
             rw [if_neg (show ¬ (false = true) by decide)] at H
             obtain ⟨t325, A390, H⟩ := Option.bind_eq_some_iff.mp H
             (try dsimp -simprocs only at H)
             have A39 := Aside0.mk A390
             clear A390
             obtain ⟨⟨t326, t327⟩, A400, H⟩ := Option.bind_eq_some_iff.mp H
             (try dsimp -simprocs only at H)
             have A40 := Aside0.mk A400
             clear A400
             have H' := Aside0.mk H
             clear H
             go_wp2_with (first | ((with_reducible refine gate_callee (f := 28) rfl ?_); refine goesL_ (some 68) rfl rfl Try.func28 (by kernel_rfl) rfl #[.bool false] rfl ga ?_; (with_reducible refine (solve_of_e.calls false t325 _ A39.out).mono ?_); rintro e w41 ⟨rfl, hb⟩; refine ⟨_, rfl, ?_⟩; refine ax3 (Kd.R_below (kr HO_14) hb) (bb BK315 hb) (below_step bes hb) ?_; clear HO_14; clear BK315; clear HB; intro HO_14 BK315 HB; (try clear hb)) | (go_at_call 43; (with_reducible refine (solve_of_2.calls x16_31 (l4.length : Int) t326 t327 _ A40.out).mono ?_); rintro e w' ⟨rfl, ⟨nd, rfl⟩⟩))
             go_meet
             case rel => exact ⟨_, (t326), (t327), (by first | rfl | (simp; done) | (simp [*]; done)), (by first | rfl | (simp; done) | (simp [*]; done)), H', ⟨by have := HJ5.out; have := HK2.out; have := HK3.out; have := HJ31.out; first | omega | exact Nat.le_refl _⟩, ⟨kr HO_14⟩, ⟨kb BK315⟩, ⟨bes⟩⟩
           case rest =>
            clear HC34
            try clear c1
            try clear c2
            try clear p2
            try clear c3
            try clear c4
            try clear p6
            try clear c7
            try clear c9
            try clear c9b0
            try clear c9b1
            try clear c10
            try clear c10b0
            try clear c10b1
            try clear c19
            try clear c20
            try clear c20b0
            try clear c21
            try clear c24
            try clear c24b0
            try clear c24b1
            try clear c26
            try clear c29
            try clear c31
            try clear c31b0
            try clear c33
            try clear c35
            try clear hcz11_0
            try clear hcz11_1
            try clear hcz11_2
            try clear hcz11_3
            try clear hcz13_0
            try clear hcz13_1
            try clear hcz13_2
            try clear hcz13_3
            try clear hcz14_0
            try clear hcz14_1
            try clear hcz14_2
            try clear hcz14_3
            try clear hcz16_0
            try clear hcz16_1
            try clear hcz16_2
            try clear hcz16_3
            try clear hcz17_0
            try clear hcz17_1
            try clear hcz17_2
            try clear hcz17_3
            try clear hcz25_0
            try clear hcz25_1
            try clear hcz25_2
            try clear hcz25_3
            try clear hcz27_0
            try clear hcz27_1
            try clear hcz27_2
            try clear hcz27_3
            try clear hfz11_0
            try clear hfz11_1
            try clear hfz11_2
            try clear hfz11_3
            try clear hfz13_0
            try clear hfz13_1
            try clear hfz13_2
            try clear hfz13_3
            try clear hfz14_0
            try clear hfz14_1
            try clear hfz14_2
            try clear hfz14_3
            try clear hfz16_0
            try clear hfz16_1
            try clear hfz16_2
            try clear hfz16_3
            try clear hfz17_0
            try clear hfz17_1
            try clear hfz17_2
            try clear hfz17_3
            try clear hfz25_0
            try clear hfz25_1
            try clear hfz25_2
            try clear hfz25_3
            try clear hfz27_0
            try clear hfz27_1
            try clear hfz27_2
            try clear hfz27_3
            try clear p2
            try clear p6
            obtain ⟨kq, x17_33, x18_33, rfl, rfl, HA, HJ33, HO_14, BK315, HB⟩ := hcut
            cases kq with
            | zero => exact absurd HA.out (by simp [solve_Trsv_nil.j4])
            | succ kj33 =>
             have H := HA.out
             clear HA
             simp only [solve_Trsv_nil.j4] at H
             have H' := Aside0.mk H
             clear H
             go_wp2
             go_loopg [19] kj33 (fun kq v19 w' => ∃ (x14_6 : List Int) (x19_6 : Int), v19 = .int .i64 x19_6 ∧ Aside0 (solve_Trsv_nil.l2 kq a2 a3 (l4.length : Int) x14_6 x16_31 x18_33 x19_6 (l4.length : Int) x57_3 a1_0 a1_1 a1_2 l1_3 = some (r1, r2)) ∧ Aside0 (kq ≤ kj33) ∧ Aside0 (Kd.R (Kd.int .u64) 35 w' w.heap.size (fun _ => True) v320 x14_6) ∧ Aside0 (w'.heap[gb315]? = some (.cells #[.int .i64 a1_0, .int .i64 a1_1, .int .i64 a1_2, (.slice A1_3 l1_3.length c1_3)] 25 (0, 0))) ∧ Aside0 (Below w.heap.size w w'))
             case atStart => exact ⟨(x14_3), (x17_33), (by first | rfl | (simp; done) | (simp [*]; done)), H', ⟨Nat.le_refl _⟩, ⟨kr HO_14⟩, ⟨kb BK315⟩, ⟨bes⟩⟩
             case round =>
              clear H'
              try clear c1
              try clear c2
              try clear p2
              try clear c3
              try clear c4
              try clear p6
              try clear c7
              try clear c9
              try clear c9b0
              try clear c9b1
              try clear c10
              try clear c10b0
              try clear c10b1
              try clear c19
              try clear c20
              try clear c20b0
              try clear c21
              try clear c24
              try clear c24b0
              try clear c24b1
              try clear c26
              try clear c29
              try clear c31
              try clear c31b0
              try clear c33
              try clear c35
              try clear hcz11_0
              try clear hcz11_1
              try clear hcz11_2
              try clear hcz11_3
              try clear hcz13_0
              try clear hcz13_1
              try clear hcz13_2
              try clear hcz13_3
              try clear hcz14_0
              try clear hcz14_1
              try clear hcz14_2
              try clear hcz14_3
              try clear hcz16_0
              try clear hcz16_1
              try clear hcz16_2
              try clear hcz16_3
              try clear hcz17_0
              try clear hcz17_1
              try clear hcz17_2
              try clear hcz17_3
              try clear hcz25_0
              try clear hcz25_1
              try clear hcz25_2
              try clear hcz25_3
              try clear hcz27_0
              try clear hcz27_1
              try clear hcz27_2
              try clear hcz27_3
              try clear hfz11_0
              try clear hfz11_1
              try clear hfz11_2
              try clear hfz11_3
              try clear hfz13_0
              try clear hfz13_1
              try clear hfz13_2
              try clear hfz13_3
              try clear hfz14_0
              try clear hfz14_1
              try clear hfz14_2
              try clear hfz14_3
              try clear hfz16_0
              try clear hfz16_1
              try clear hfz16_2
              try clear hfz16_3
              try clear hfz17_0
              try clear hfz17_1
              try clear hfz17_2
              try clear hfz17_3
              try clear hfz25_0
              try clear hfz25_1
              try clear hfz25_2
              try clear hfz25_3
              try clear hfz27_0
              try clear hfz27_1
              try clear hfz27_2
              try clear hfz27_3
              try clear p2
              try clear p6
              obtain ⟨x14_6, x19_6, rfl, HA, HK6, HO_14, BK315, HB⟩ := hrel
              cases gk with
              | zero => exact absurd HA.out (by simp [solve_Trsv_nil.l2])
              | succ k6 =>
               have H := HA.out
               clear HA
               simp only [solve_Trsv_nil.l2] at H
               by_cases c42 : x19_6 < x18_33
               ·
                rw [if_pos c42] at H
                have c42b0 : decide (x19_6 < x18_33) = true := decide_eq_true c42
                clear c42
                by_cases c43 : 0 ≤ x16_31
                rotate_left
                ·
                 rw [if_neg c43] at H
                 exact absurd H (by simp)
                rw [if_pos c43] at H
                have c43b0 : decide (0 ≤ x16_31) = true := decide_eq_true c43
                clear c43
                by_cases c44 : x16_31 < (x14_6.length : Int)
                rotate_left
                ·
                 rw [if_neg c44] at H
                 exact absurd H (by simp)
                rw [if_pos c44] at H
                have c44b0 : decide (x16_31 < (x14_6.length : Int)) = true := decide_eq_true c44
                clear c44
                obtain ⟨t329, A450, H⟩ := Option.bind_eq_some_iff.mp H
                (try dsimp -simprocs only at H)
                have A45 := Aside0.mk A450
                clear A450
                by_cases c46 : 0 ≤ x19_6
                rotate_left
                ·
                 rw [if_neg c46] at H
                 exact absurd H (by simp)
                rw [if_pos c46] at H
                have c46b0 : decide (0 ≤ x19_6) = true := decide_eq_true c46
                clear c46
                by_cases c47 : x19_6 < (x14_6.length : Int)
                rotate_left
                ·
                 rw [if_neg c47] at H
                 exact absurd H (by simp)
                rw [if_pos c47] at H
                have c47b0 : decide (x19_6 < (x14_6.length : Int)) = true := decide_eq_true c47
                clear c47
                obtain ⟨t331, A480, H⟩ := Option.bind_eq_some_iff.mp H
                (try dsimp -simprocs only at H)
                have A48 := Aside0.mk A480
                clear A480
                obtain ⟨t332, A490, H⟩ := Option.bind_eq_some_iff.mp H
                (try dsimp -simprocs only at H)
                have A49 := Aside0.mk A490
                clear A490
                obtain ⟨y333, hy333⟩ : ∃ y_ : List Int, y_ = (x14_6.set (x16_31 : Int).toNat t332) := ⟨_, rfl⟩
                replace H : (solve_Trsv_nil.l2 k6 a2 a3 (l4.length : Int) y333 x16_31 x18_33 (wrap64 (x19_6 + 1)) (l4.length : Int) x57_3 a1_0 a1_1 a1_2 l1_3) = some (r1, r2) := by first | (rw [hy333]; with_reducible exact H) | (have H2_ := (Option.bind_some _ _).symm.trans H; rw [hy333]; with_reducible exact H2_) | (have H2_ := (Option.bind_some _ _).symm.trans H; with_reducible exact H2_) | with_reducible exact H | (rw [hy333]; exact H) | exact H
                have Ny333 := Aside0.mk hy333
                clear hy333
                have H' := Aside0.mk H
                clear H
                obtain ⟨Ao51, co51, eo51⟩ := Kd.R_slice HO_14.out
                subst eo51
                try go_wp2
                refine ax3 (Kd.R_drew HO_14.out) (blk_drew BK315.out) (below_drew1 HB.out) ?_
                clear HO_14 BK315 HB
                intro HO_14 BK315 HB
                have p328 : 0 ≤ (x16_31 : Int) := of_decide_eq_true (by first | (with_reducible assumption) | assumption)
                have q328 : x16_31 < (x14_6.length : Int) := of_decide_eq_true (by first | (with_reducible assumption) | assumption)
                obtain ⟨ad328, e328, hx328_0⟩ := Kd.at_int (Kd.R_reads' HO_14.out).2.2 x16_31 p328 q328
                cases e328
                replace p328 := eq_true p328
                replace q328 := eq_true q328
                have p330 : 0 ≤ (x19_6 : Int) := of_decide_eq_true (by first | (with_reducible assumption) | assumption)
                have q330 : x19_6 < (x14_6.length : Int) := of_decide_eq_true (by first | (with_reducible assumption) | assumption)
                obtain ⟨ad330, e330, hx330_0⟩ := Kd.at_int (Kd.R_reads' HO_14.out).2.2 x19_6 p330 q330
                obtain rfl : ad328 = ad330 := (by injection e330)
                replace p330 := eq_true p330
                replace q330 := eq_true q330
                refine start_ (n := 20) (S := fun w' => w'.cell? ⟨gb315, 0, none⟩ = some (.int .i64 a1_0) ∧ w'.cell? ⟨gb315, 1, none⟩ = some (.int .i64 a1_1) ∧ w'.cell? ⟨gb315, 2, none⟩ = some (.int .i64 a1_2) ∧ w'.cell? ⟨gb315, 3, none⟩ = some (.slice A1_3 l1_3.length c1_3) ∧ w'.cell? (ad328.add (x16_31).toNat) = some (.int .u64 (rd x14_6 x16_31)) ∧ w'.cell? (ad328.add (x19_6).toNat) = some (.int .u64 (rd x14_6 x19_6))) (ds := [19]) #[false, false, false, false, false, false, false, false, false, false, false, false, false, false, false, false, false, false, false, false] (by kernel_rfl) rfl rfl ⟨bk BK315 0, bk BK315 1, bk BK315 2, bk BK315 3, hx328_0, hx330_0⟩ (fun hHeld => ?_); refine with_tabW solve_Trsv_nil.tab21 solve_Trsv_nil.bits21 (fun HT_ HW_ => ?_)
                generalize wr.drew = w52 at HO_14 BK315 HB hx328_0 hx330_0 hHeld ⊢
                refine pu 0 81 (lm 20 1) HT_ ?_
                refine pu 1 82 (lm 20 3) HT_ ?_
                refine pu 2 83 (lm 20 7) HT_ ?_
                refine pu 3 84 (lm 20 15) HT_ ?_
                refine pu 4 85 (lm 20 31) HT_ ?_
                refine pu 5 86 (lm 20 63) HT_ ?_
                refine pu 7 88 (lm 20 191) HT_ ?_
                refine pu 9 90 (lm 20 703) HT_ ?_
                refine pu 10 91 (lm 20 1727) HT_ ?_
                refine pu 12 93 (lm 20 5823) HT_ ?_
                refine pu 13 94 (lm 20 14015) HT_ ?_
                refine pu 14 95 (lm 20 30399) HT_ ?_
                refine ta 6 87 (lm 20 30463) HT_ HW_ hHeld ?_
                refine ta 8 89 (lm 20 30719) HT_ HW_ hHeld ?_
                refine ta 15 96 (lm 20 63487) HT_ HW_ hHeld ?_
                refine on 11 (some 92) (lm 20 65535) HT_ (fun K hK => ?_)
                refine goes_ Try.func11 (by kernel_rfl) rfl #[.agg #[.int .i64 a1_0, .int .i64 a1_1, .int .i64 a1_2, .slice A1_3 l1_3.length c1_3], .int .i64 x16_31, .int .i64 x19_6] (by rfl) rfl rfl ga ?_
                with_reducible refine (mat_Matrix_At.calls a1_0 a1_1 a1_2 _ _ l1_3 x16_31 x19_6 t329 _ ?side1 ?side2 A45.out).mono ?_
                (case side1 => repeat (first | exact (Kd.C_below HR1_3.out HB.out) | (with_reducible refine Kd.C_alloc ?_ _) | (with_reducible refine Kd.C_drewN ?_ _) | (with_reducible refine Kd.C_drew ?_)))
                (case side2 => exact HC1_3.out)
                rintro e w53 ⟨rfl, hb⟩
                have HS4_ := (hb.cell (World.block_lt_of_cell? _ _ (hHeld.2.2.2.2.1))).trans (hHeld.2.2.2.2.1)
                have HS5_ := (hb.cell (World.block_lt_of_cell? _ _ (hHeld.2.2.2.2.2))).trans (hHeld.2.2.2.2.2)
                refine ⟨_, rfl, ?_⟩
                refine ax3 (Kd.R_below (kr HO_14) hb) (bb BK315 hb) (below_step bes hb) ?_
                clear HO_14 BK315 HB
                intro HO_14 BK315 HB
                (try clear hb)
                (try clear hb2)
                (try clear hk)
                (try clear hi)
                refine hK.out _ _ ⟨bk BK315 0, bk BK315 1, bk BK315 2, bk BK315 3, HS4_, HS5_⟩ (fun hHeld => ?_)
                clear hK K
                refine no 92 ?_
                refine on 16 (some 97) (lm 20 131071) HT_ (fun K hK => ?_)
                refine goes_ Try.func14 (by kernel_rfl) rfl #[.pointer none, .int .u64 t329, .int .u64 (rd x14_6 x19_6)] (by rfl) rfl rfl ga ?_
                with_reducible refine (soft_Calc_Mul_nil.calls k6  t329 (rd x14_6 x19_6) t331 _ A48.out).mono ?_
                rintro e w54 ⟨rfl, hb⟩
                have HS4_ := (hb.cell (World.block_lt_of_cell? _ _ (hHeld.2.2.2.2.1))).trans (hHeld.2.2.2.2.1)
                have HS5_ := (hb.cell (World.block_lt_of_cell? _ _ (hHeld.2.2.2.2.2))).trans (hHeld.2.2.2.2.2)
                refine ⟨_, rfl, ?_⟩
                refine ax3 (Kd.R_below (kr HO_14) hb) (bb BK315 hb) (below_step bes hb) ?_
                clear HO_14 BK315 HB
                intro HO_14 BK315 HB
                (try clear hb)
                (try clear hb2)
                (try clear hk)
                (try clear hi)
                refine hK.out _ _ ⟨bk BK315 0, bk BK315 1, bk BK315 2, bk BK315 3, HS4_, HS5_⟩ (fun hHeld => ?_)
                clear hK K
                refine no 97 ?_
                refine on 17 (some 98) (lm 20 262143) HT_ (fun K hK => ?_)
                refine goes_ Try.func13 (by kernel_rfl) rfl #[.pointer none, .int .u64 (rd x14_6 x16_31), .int .u64 t331] (by rfl) rfl rfl ga ?_
                with_reducible refine (soft_Calc_Sub_nil.calls k6  (rd x14_6 x16_31) t331 t332 _ A49.out).mono ?_
                rintro e w55 ⟨rfl, hb⟩
                have HS4_ := (hb.cell (World.block_lt_of_cell? _ _ (hHeld.2.2.2.2.1))).trans (hHeld.2.2.2.2.1)
                have HS5_ := (hb.cell (World.block_lt_of_cell? _ _ (hHeld.2.2.2.2.2))).trans (hHeld.2.2.2.2.2)
                refine ⟨_, rfl, ?_⟩
                refine ax3 (Kd.R_below (kr HO_14) hb) (bb BK315 hb) (below_step bes hb) ?_
                clear HO_14 BK315 HB
                intro HO_14 BK315 HB
                (try clear hb)
                (try clear hb2)
                (try clear hk)
                (try clear hi)
                have p50 : 0 ≤ (x16_31 : Int) := of_decide_eq_true (by first | (with_reducible assumption) | assumption)
                have q50 : (x16_31 : Int) < ((x14_6.length : Int) : Int) := of_decide_eq_true (by first | (with_reducible assumption) | assumption)
                obtain ⟨go50, co50, eo50, gb50, gl50, cl50, HG50⟩ := Kd.R_form HO_14.out (by omega)
                (first | cases eo50 | (injection eo50 with ea_ en_ ec_; (first | subst ea_ | (injection ea_ with ea_; subst ea_)); subst ec_; clear en_))
                have GB50 := Aside0.mk gb50
                have GG50 := Aside0.mk HG50
                clear gb50 gl50 HG50
                (first | simp only [add_plain] at hx328_0 | skip)
                (first | simp only [add_plain] at hx330_0 | skip)
                obtain ⟨hx50_0, hf50_0⟩ := Kd.R_celln 0 HO_14.out (x16_31 : Int) p50 q50
                replace p50 := eq_true p50
                replace q50 := eq_true q50
                have HP56 := Kd.R_putn HO_14.out (x16_31 : Int) t332
                rw [← Ny333.out] at HP56
                have HQ56 := Aside0.mk HP56
                clear HP56
                refine hK.out _ _ ⟨bk BK315 0, bk BK315 1, bk BK315 2, bk BK315 3, HS4_, HS5_⟩ (fun hHeld => ?_)
                clear hK K
                refine no 98 ?_
                refine pu 18 99 (lm 20 524287) HT_ ?_
                refine last_ (i := 19) (N := none) #[true, true, true, true, true, true, true, true, true, true, true, true, true, true, true, true, true, true, true, true] rfl rfl (one_of HT_.out (by kernel_rfl)) (by decide) (fun K hK => ?_)
                refine skip_ (w1 := ?_) (by rfl) rfl ?_ ?_
                rotate_left
                ·
                 go_simp
                 rfl
                refine hK.out _ _ ?_
                clear hK K
                refine done_ (done_of HT_.out (by kernel_rfl)) ?_
                try go_wp2
                go_roundg k6
                case measure => have := HJ5.out; have := HK2.out; have := HK3.out; have := HJ31.out; have := HJ33.out; have := HK6.out; omega
                case rel => exact ⟨(y333), (wrap64 (x19_6 + 1)), (by first | rfl | (simp; done) | (simp [*]; done)), H', ⟨by have := HJ5.out; have := HK2.out; have := HK3.out; have := HJ31.out; have := HJ33.out; have := HK6.out; omega⟩, ⟨kr HQ56⟩, ⟨by (with_reducible repeat (first | refine blk_drewN ?_ _ | refine blk_drew ?_ | refine blk_alloc ?_ _)); refine blk_far ?_ (by have h_ := Kd.R_ne HO_14.out BK315.out (by decide); intro e_; exact h_ (by rw [e_]; rfl)) _; (with_reducible repeat (first | refine blk_drewN ?_ _ | refine blk_drew ?_ | refine blk_alloc ?_ _)); exact BK315.out⟩, ⟨bes⟩⟩
               ·
                rw [if_neg c42] at H
                have c42b0 : decide (x19_6 < x18_33) = false := decide_eq_false c42
                clear c42
                by_cases c57 : a3 = true
                ·
                 subst c57
                 rw [if_pos rfl] at H
                 have H' := Aside0.mk H
                 clear H
                 go_wp2
                 go_roundg k6
                 case measure => have := HJ5.out; have := HK2.out; have := HK3.out; have := HJ31.out; have := HJ33.out; have := HK6.out; omega
                 case rel => exact ⟨(x14_6), (wrap64 (x57_3 + 1)), (by first | rfl | (simp; done) | (simp [*]; done)), H', ⟨by have := HJ5.out; have := HK2.out; have := HK3.out; have := HJ31.out; have := HJ33.out; have := HK6.out; omega⟩, ⟨kr HO_14⟩, ⟨kb BK315⟩, ⟨bes⟩⟩
                ·
                 replace c57 := Bool.eq_false_iff.mpr c57
                 subst c57
                 rw [if_neg (show ¬ (false = true) by decide)] at H
                 by_cases c58 : 0 ≤ x16_31
                 rotate_left
                 ·
                  rw [if_neg c58] at H
                  exact absurd H (by simp)
                 rw [if_pos c58] at H
                 have c58b0 : decide (0 ≤ x16_31) = true := decide_eq_true c58
                 clear c58
                 by_cases c59 : x16_31 < (x14_6.length : Int)
                 rotate_left
                 ·
                  rw [if_neg c59] at H
                  exact absurd H (by simp)
                 rw [if_pos c59] at H
                 have c59b0 : decide (x16_31 < (x14_6.length : Int)) = true := decide_eq_true c59
                 clear c59
                 obtain ⟨t335, A600, H⟩ := Option.bind_eq_some_iff.mp H
                 (try dsimp -simprocs only at H)
                 have A60 := Aside0.mk A600
                 clear A600
                 obtain ⟨t336, A610, H⟩ := Option.bind_eq_some_iff.mp H
                 (try dsimp -simprocs only at H)
                 have A61 := Aside0.mk A610
                 clear A610
                 obtain ⟨y337, hy337⟩ : ∃ y_ : List Int, y_ = (x14_6.set (x16_31 : Int).toNat t336) := ⟨_, rfl⟩
                 replace H : (solve_Trsv_nil.l1 k6 a2 false (l4.length : Int) y337 (l4.length : Int) (wrap64 (x57_3 + 1)) a1_0 a1_1 a1_2 l1_3) = some (r1, r2) := by first | (rw [hy337]; with_reducible exact H) | (have H2_ := (Option.bind_some _ _).symm.trans H; rw [hy337]; with_reducible exact H2_) | (have H2_ := (Option.bind_some _ _).symm.trans H; with_reducible exact H2_) | with_reducible exact H | (rw [hy337]; exact H) | exact H
                 have Ny337 := Aside0.mk hy337
                 clear hy337
                 have H' := Aside0.mk H
                 clear H
                 obtain ⟨Ao63, co63, eo63⟩ := Kd.R_slice HO_14.out
                 subst eo63
                 try go_wp2
                 refine ax3 (Kd.R_drew HO_14.out) (blk_drew BK315.out) (below_drew1 HB.out) ?_
                 clear HO_14 BK315 HB
                 intro HO_14 BK315 HB
                 have p334 : 0 ≤ (x16_31 : Int) := of_decide_eq_true (by first | (with_reducible assumption) | assumption)
                 have q334 : x16_31 < (x14_6.length : Int) := of_decide_eq_true (by first | (with_reducible assumption) | assumption)
                 obtain ⟨ad334, e334, hx334_0⟩ := Kd.at_int (Kd.R_reads' HO_14.out).2.2 x16_31 p334 q334
                 cases e334
                 replace p334 := eq_true p334
                 replace q334 := eq_true q334
                 refine start_ (n := 14) (S := fun w' => w'.cell? ⟨gb315, 0, none⟩ = some (.int .i64 a1_0) ∧ w'.cell? ⟨gb315, 1, none⟩ = some (.int .i64 a1_1) ∧ w'.cell? ⟨gb315, 2, none⟩ = some (.int .i64 a1_2) ∧ w'.cell? ⟨gb315, 3, none⟩ = some (.slice A1_3 l1_3.length c1_3) ∧ w'.cell? (ad334.add (x16_31).toNat) = some (.int .u64 (rd x14_6 x16_31))) (ds := [13]) #[false, false, false, false, false, false, false, false, false, false, false, false, false, false] (by kernel_rfl) rfl rfl ⟨bk BK315 0, bk BK315 1, bk BK315 2, bk BK315 3, hx334_0⟩ (fun hHeld => ?_); refine with_tabW solve_Trsv_nil.tab23 solve_Trsv_nil.bits23 (fun HT_ HW_ => ?_)
                 generalize wr.drew = w64 at HO_14 BK315 HB hx334_0 hHeld ⊢
                 refine pu 0 102 (lm 14 1) HT_ ?_
                 refine pu 1 103 (lm 14 3) HT_ ?_
                 refine pu 2 104 (lm 14 7) HT_ ?_
                 refine pu 3 105 (lm 14 15) HT_ ?_
                 refine pu 4 106 (lm 14 31) HT_ ?_
                 refine pu 5 107 (lm 14 63) HT_ ?_
                 refine pu 8 110 (lm 14 319) HT_ ?_
                 refine pu 9 111 (lm 14 831) HT_ ?_
                 refine ta 6 108 (lm 14 895) HT_ HW_ hHeld ?_
                 refine ta 7 109 (lm 14 1023) HT_ HW_ hHeld ?_
                 refine on 10 (some 112) (lm 14 2047) HT_ (fun K hK => ?_)
                 refine goes_ Try.func11 (by kernel_rfl) rfl #[.agg #[.int .i64 a1_0, .int .i64 a1_1, .int .i64 a1_2, .slice A1_3 l1_3.length c1_3], .int .i64 x16_31, .int .i64 x16_31] (by rfl) rfl rfl ga ?_
                 with_reducible refine (mat_Matrix_At.calls a1_0 a1_1 a1_2 _ _ l1_3 x16_31 x16_31 t335 _ ?side1 ?side2 A60.out).mono ?_
                 (case side1 => repeat (first | exact (Kd.C_below HR1_3.out HB.out) | (with_reducible refine Kd.C_alloc ?_ _) | (with_reducible refine Kd.C_drewN ?_ _) | (with_reducible refine Kd.C_drew ?_)))
                 (case side2 => exact HC1_3.out)
                 rintro e w65 ⟨rfl, hb⟩
                 have HS4_ := (hb.cell (World.block_lt_of_cell? _ _ (hHeld.2.2.2.2))).trans (hHeld.2.2.2.2)
                 refine ⟨_, rfl, ?_⟩
                 refine ax3 (Kd.R_below (kr HO_14) hb) (bb BK315 hb) (below_step bes hb) ?_
                 clear HO_14 BK315 HB
                 intro HO_14 BK315 HB
                 (try clear hb)
                 (try clear hb2)
                 (try clear hk)
                 (try clear hi)
                 refine hK.out _ _ ⟨bk BK315 0, bk BK315 1, bk BK315 2, bk BK315 3, HS4_⟩ (fun hHeld => ?_)
                 clear hK K
                 refine no 112 ?_
                 refine on 11 (some 113) (lm 14 4095) HT_ (fun K hK => ?_)
                 refine goes_ Try.func15 (by kernel_rfl) rfl #[.pointer none, .int .u64 (rd x14_6 x16_31), .int .u64 t335] (by rfl) rfl rfl ga ?_
                 with_reducible refine (soft_Calc_Div_nil.calls k6  (rd x14_6 x16_31) t335 t336 _ A61.out).mono ?_
                 rintro e w66 ⟨rfl, hb⟩
                 have HS4_ := (hb.cell (World.block_lt_of_cell? _ _ (hHeld.2.2.2.2))).trans (hHeld.2.2.2.2)
                 refine ⟨_, rfl, ?_⟩
                 refine ax3 (Kd.R_below (kr HO_14) hb) (bb BK315 hb) (below_step bes hb) ?_
                 clear HO_14 BK315 HB
                 intro HO_14 BK315 HB
                 (try clear hb)
                 (try clear hb2)
                 (try clear hk)
                 (try clear hi)
                 have p62 : 0 ≤ (x16_31 : Int) := of_decide_eq_true (by first | (with_reducible assumption) | assumption)
                 have q62 : (x16_31 : Int) < ((x14_6.length : Int) : Int) := of_decide_eq_true (by first | (with_reducible assumption) | assumption)
                 obtain ⟨go62, co62, eo62, gb62, gl62, cl62, HG62⟩ := Kd.R_form HO_14.out (by omega)
                 (first | cases eo62 | (injection eo62 with ea_ en_ ec_; (first | subst ea_ | (injection ea_ with ea_; subst ea_)); subst ec_; clear en_))
                 have GB62 := Aside0.mk gb62
                 have GG62 := Aside0.mk HG62
                 clear gb62 gl62 HG62
                 (first | simp only [add_plain] at hx334_0 | skip)
                 obtain ⟨hx62_0, hf62_0⟩ := Kd.R_celln 0 HO_14.out (x16_31 : Int) p62 q62
                 replace p62 := eq_true p62
                 replace q62 := eq_true q62
                 have HP67 := Kd.R_putn HO_14.out (x16_31 : Int) t336
                 rw [← Ny337.out] at HP67
                 have HQ67 := Aside0.mk HP67
                 clear HP67
                 refine hK.out _ _ ⟨bk BK315 0, bk BK315 1, bk BK315 2, bk BK315 3, HS4_⟩ (fun hHeld => ?_)
                 clear hK K
                 refine no 113 ?_
                 refine pu 12 114 (lm 14 8191) HT_ ?_
                 refine last_ (i := 13) (N := none) #[true, true, true, true, true, true, true, true, true, true, true, true, true, true] rfl rfl (one_of HT_.out (by kernel_rfl)) (by decide) (fun K hK => ?_)
                 refine skip_ (w1 := ?_) (by rfl) rfl ?_ ?_
                 rotate_left
                 ·
                  go_simp
                  rfl
                 refine hK.out _ _ ?_
                 clear hK K
                 refine done_ (done_of HT_.out (by kernel_rfl)) ?_
                 try go_wp2
                 go_roundg k6
                 case measure => have := HJ5.out; have := HK2.out; have := HK3.out; have := HJ31.out; have := HJ33.out; have := HK6.out; omega
                 case rel => exact ⟨(y337), (wrap64 (x57_3 + 1)), (by first | rfl | (simp; done) | (simp [*]; done)), H', ⟨by have := HJ5.out; have := HK2.out; have := HK3.out; have := HJ31.out; have := HJ33.out; have := HK6.out; omega⟩, ⟨kr HQ67⟩, ⟨by (with_reducible repeat (first | refine blk_drewN ?_ _ | refine blk_drew ?_ | refine blk_alloc ?_ _)); refine blk_far ?_ (by have h_ := Kd.R_ne HO_14.out BK315.out (by decide); intro e_; exact h_ (by rw [e_]; rfl)) _; (with_reducible repeat (first | refine blk_drewN ?_ _ | refine blk_drew ?_ | refine blk_alloc ?_ _)); exact BK315.out⟩, ⟨bes⟩⟩
end Go.Proofs.Ytnjobojkoaknpaa.F
