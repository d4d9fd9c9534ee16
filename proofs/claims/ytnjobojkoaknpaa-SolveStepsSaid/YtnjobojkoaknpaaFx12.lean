-- Written by a program of this seat's session (mkprint), out of the translation.
import Derived.Test.YtnjobojkoaknpaaShort
import Derived.Test.YtnjobojkoaknpaaFx0
import Derived.Test.YtnjobojkoaknpaaFx2
import Derived.Test.YtnjobojkoaknpaaFx8
import Derived.Test.YtnjobojkoaknpaaFx11
namespace Go.Proofs.Ytnjobojkoaknpaa.F
open Go.RowKit Go.Proofs.YtnjobojkoaknpaaW.PrintWords Go.Proofs.YtnjobojkoaknpaaW.PrintLast Go.Proofs.YtnjobojkoaknpaaW.PrintMore
attribute [local go_sem] max2_int min2_int max_two min_two max_three min_three max_four min_four   -- for this text's walks alone
set_option linter.unusedVariables false
set_option linter.unusedSimpArgs false

attribute [local go_sem] sel_run60
/-! ### solve_Trsv: function 9 -/
mutual
def solve_Trsv.j0 : Nat → Bool → Bool → List Int → Bool → Int → Int → Int → Int → List Int → Option (List Int × Int × Int)
 | 0, _, _, _, _, _, _, _, _, _ => none
 | k + 1, x2, x3, x4, x36, x1000, x290000, x290001, x290002, x290003 => if x36 = true then (some (([] : List Int), 4, x1000)) else (solve_Trsv.l0 k x2 x3 x4 (x4.length : Int) (x4.length : Int) 0 x1000 x290000 x290001 x290002 x290003)
def solve_Trsv.l0 : Nat → Bool → Bool → List Int → Int → Int → Int → Int → Int → Int → Int → List Int → Option (List Int × Int × Int)
 | 0, _, _, _, _, _, _, _, _, _, _, _ => none
 | k + 1, x2, x3, x4, x12, x39, x40, x1000, x290000, x290001, x290002, x290003 => if x40 < x39 then (if x3 = true then (solve_Trsv.l0 k x2 x3 x4 x12 x39 (wrap64 (x40 + 1)) x1000 x290000 x290001 x290002 x290003) else ((mat_Matrix_At.f x290000 x290001 x290002 x290003 x40 x40).bind fun t291 => ((word_Kind.f k t291).bind fun t292 => (if t292 = 1 then (some (([] : List Int), 7, x1000)) else (solve_Trsv.l0 k x2 x3 x4 x12 x39 (wrap64 (x40 + 1)) x1000 x290000 x290001 x290002 x290003))))) else (if ([] : List Int).length + x4.length < 17592186044416 then (solve_Trsv.l1 k x2 x3 x12 (([] : List Int) ++ x4) x12 0 x1000 x290000 x290001 x290002 x290003) else (none))
def solve_Trsv.l1 : Nat → Bool → Bool → Int → List Int → Int → Int → Int → Int → Int → Int → List Int → Option (List Int × Int × Int)
 | 0, _, _, _, _, _, _, _, _, _, _, _ => none
 | k + 1, x2, x3, x12, x14, x56, x57, x1000, x290000, x290001, x290002, x290003 => if x57 < x56 then (if x2 = true then (solve_Trsv.j3 k x2 x3 x12 x14 (wrap64 ((wrap64 (x12 - 1)) - x57)) x56 x57 x1000 x290000 x290001 x290002 x290003) else (solve_Trsv.j3 k x2 x3 x12 x14 x57 x56 x57 x1000 x290000 x290001 x290002 x290003)) else (some (x14, 0, x1000))
def solve_Trsv.j3 : Nat → Bool → Bool → Int → List Int → Int → Int → Int → Int → Int → Int → Int → List Int → Option (List Int × Int × Int)
 | 0, _, _, _, _, _, _, _, _, _, _, _, _ => none
 | k + 1, x2, x3, x12, x14, x16, x56, x57, x1000, x290000, x290001, x290002, x290003 => if x2 = true then ((solve_of_t.f x2).bind fun t296 => ((solve_of_1.f x16 x12).bind fun bt297 => (solve_Trsv.j4 k x2 x3 x12 x14 x16 bt297.1 bt297.2 x56 x57 x1000 x290000 x290001 x290002 x290003))) else ((solve_of_e.f x2).bind fun t299 => ((solve_of_2.f x16 x12).bind fun bt300 => (solve_Trsv.j4 k x2 x3 x12 x14 x16 bt300.1 bt300.2 x56 x57 x1000 x290000 x290001 x290002 x290003)))
def solve_Trsv.j4 : Nat → Bool → Bool → Int → List Int → Int → Int → Int → Int → Int → Int → Int → Int → Int → List Int → Option (List Int × Int × Int)
 | 0, _, _, _, _, _, _, _, _, _, _, _, _, _, _ => none
 | k + 1, x2, x3, x12, x14, x16, x17, x18, x56, x57, x1000, x290000, x290001, x290002, x290003 => solve_Trsv.l2 k x2 x3 x12 x14 x16 x18 x17 x56 x57 x1000 x290000 x290001 x290002 x290003
def solve_Trsv.l2 : Nat → Bool → Bool → Int → List Int → Int → Int → Int → Int → Int → Int → Int → Int → Int → List Int → Option (List Int × Int × Int)
 | 0, _, _, _, _, _, _, _, _, _, _, _, _, _, _ => none
 | k + 1, x2, x3, x12, x14, x16, x18, x19, x56, x57, x1000, x290000, x290001, x290002, x290003 => if x19 < x18 then (if 0 ≤ x16 then (if x16 < (x14.length : Int) then ((mat_Matrix_At.f x290000 x290001 x290002 x290003 x16 x19).bind fun t303 => (if 0 ≤ x19 then (if x19 < (x14.length : Int) then ((soft_Calc_Mul.f k x1000 t303 (rd x14 x19)).bind fun bt305 => ((soft_Calc_Sub.f k bt305.2 (rd x14 x16) bt305.1).bind fun bt307 => (solve_Trsv.l2 k x2 x3 x12 (x14.set (x16 : Int).toNat bt307.1) x16 x18 (wrap64 (x19 + 1)) x56 x57 bt307.2 x290000 x290001 x290002 x290003))) else (none)) else (none))) else (none)) else (none)) else (if x3 = true then (solve_Trsv.l1 k x2 x3 x12 x14 x56 (wrap64 (x57 + 1)) x1000 x290000 x290001 x290002 x290003) else (if 0 ≤ x16 then (if x16 < (x14.length : Int) then ((mat_Matrix_At.f x290000 x290001 x290002 x290003 x16 x16).bind fun t311 => ((soft_Calc_Div.f k x1000 (rd x14 x16) t311).bind fun bt312 => (solve_Trsv.l1 k x2 x3 x12 (x14.set (x16 : Int).toNat bt312.1) x56 (wrap64 (x57 + 1)) bt312.2 x290000 x290001 x290002 x290003))) else (none)) else (none)))
end
def solve_Trsv.f (k : Nat) (s0_0 : Int) (a1_0 : Int) (a1_1 : Int) (a1_2 : Int) (l1_3 : List Int) (a2 : Bool) (a3 : Bool) (l4 : List Int) : Option (List Int × Int × Int) := (mat_Matrix_Check.f k a1_0 a1_1 a1_2 l1_3).bind fun t290 => (if t290 = 0 then (if a1_0 = a1_1 then (solve_Trsv.j0 k a2 a3 l4 (a1_1 != (l4.length : Int)) s0_0 a1_0 a1_1 a1_2 l1_3) else (solve_Trsv.j0 k a2 a3 l4 true s0_0 a1_0 a1_1 a1_2 l1_3)) else (solve_Trsv.j0 k a2 a3 l4 true s0_0 a1_0 a1_1 a1_2 l1_3))
theorem solve_Trsv.mono_l : ∀ k, (∀ y0 y1 y2 y3 y4 y5 y6 y7 y8, LeO (solve_Trsv.j0 k y0 y1 y2 y3 y4 y5 y6 y7 y8) (solve_Trsv.j0 (k + 1) y0 y1 y2 y3 y4 y5 y6 y7 y8)) ∧ (∀ y0 y1 y2 y3 y4 y5 y6 y7 y8 y9 y10, LeO (solve_Trsv.l0 k y0 y1 y2 y3 y4 y5 y6 y7 y8 y9 y10) (solve_Trsv.l0 (k + 1) y0 y1 y2 y3 y4 y5 y6 y7 y8 y9 y10)) ∧ (∀ y0 y1 y2 y3 y4 y5 y6 y7 y8 y9 y10, LeO (solve_Trsv.l1 k y0 y1 y2 y3 y4 y5 y6 y7 y8 y9 y10) (solve_Trsv.l1 (k + 1) y0 y1 y2 y3 y4 y5 y6 y7 y8 y9 y10)) ∧ (∀ y0 y1 y2 y3 y4 y5 y6 y7 y8 y9 y10 y11, LeO (solve_Trsv.j3 k y0 y1 y2 y3 y4 y5 y6 y7 y8 y9 y10 y11) (solve_Trsv.j3 (k + 1) y0 y1 y2 y3 y4 y5 y6 y7 y8 y9 y10 y11)) ∧ (∀ y0 y1 y2 y3 y4 y5 y6 y7 y8 y9 y10 y11 y12 y13, LeO (solve_Trsv.j4 k y0 y1 y2 y3 y4 y5 y6 y7 y8 y9 y10 y11 y12 y13) (solve_Trsv.j4 (k + 1) y0 y1 y2 y3 y4 y5 y6 y7 y8 y9 y10 y11 y12 y13)) ∧ (∀ y0 y1 y2 y3 y4 y5 y6 y7 y8 y9 y10 y11 y12 y13, LeO (solve_Trsv.l2 k y0 y1 y2 y3 y4 y5 y6 y7 y8 y9 y10 y11 y12 y13) (solve_Trsv.l2 (k + 1) y0 y1 y2 y3 y4 y5 y6 y7 y8 y9 y10 y11 y12 y13))
 | 0 => ⟨fun _ _ _ _ _ _ _ _ _ r h => by simp [solve_Trsv.j0] at h, fun _ _ _ _ _ _ _ _ _ _ _ r h => by simp [solve_Trsv.l0] at h, fun _ _ _ _ _ _ _ _ _ _ _ r h => by simp [solve_Trsv.l1] at h, fun _ _ _ _ _ _ _ _ _ _ _ _ r h => by simp [solve_Trsv.j3] at h, fun _ _ _ _ _ _ _ _ _ _ _ _ _ _ r h => by simp [solve_Trsv.j4] at h, fun _ _ _ _ _ _ _ _ _ _ _ _ _ _ r h => by simp [solve_Trsv.l2] at h⟩
 | k + 1 => by
  obtain ⟨ih0, ih1, ih2, ih3, ih4, ih5⟩ := solve_Trsv.mono_l k
  refine ⟨?_, ?_, ?_, ?_, ?_, ?_⟩ <;> intros <;> (first | unfold solve_Trsv.j0 | unfold solve_Trsv.l0 | unfold solve_Trsv.l1 | unfold solve_Trsv.j3 | unfold solve_Trsv.j4 | unfold solve_Trsv.l2) <;>
   repeat' with_reducible first | apply ih0 | apply ih1 | apply ih2 | apply ih3 | apply ih4 | apply ih5 | apply mat_Matrix_Check.mono | apply soft_Calc_Div.mono | apply soft_Calc_Mul.mono | apply soft_Calc_Sub.mono | apply word_Kind.mono | exact LeO.refl _ | exact LeO.none _ | refine LeO.ite ?_ ?_ | refine LeO.bind ?_ (fun _ => ?_)
theorem solve_Trsv.mono : ∀ a0 a1 a2 a3 a4 a5 a6 a7 k, LeO (solve_Trsv.f k a0 a1 a2 a3 a4 a5 a6 a7) (solve_Trsv.f (k + 1) a0 a1 a2 a3 a4 a5 a6 a7) := by
 intro a0 a1 a2 a3 a4 a5 a6 a7 k
 obtain ⟨ih0, ih1, ih2, ih3, ih4, ih5⟩ := solve_Trsv.mono_l k
 unfold solve_Trsv.f
 repeat' with_reducible first | apply ih0 | apply ih1 | apply ih2 | apply ih3 | apply ih4 | apply ih5 | apply mat_Matrix_Check.mono | apply soft_Calc_Div.mono | apply soft_Calc_Mul.mono | apply soft_Calc_Sub.mono | apply word_Kind.mono | exact LeO.refl _ | exact LeO.none _ | refine LeO.ite ?_ ?_ | refine LeO.bind ?_ (fun _ => ?_)
def solve_Trsv.T21 : Bool × List (List Nat × List Nat) := (true, [([], []), ([], []), ([], []), ([], []), ([], []), ([3, 4], [3, 4]), ([5], [5]), ([], []), ([], []), ([], []), ([], []), ([8, 9, 10], [8, 9, 10]), ([], []), ([], []), ([12, 13], [12, 13]), ([14], [14]), ([7, 11, 15, 11], [7, 11, 15]), ([2, 6, 16, 16], [2, 6, 16]), ([0, 1, 0, 1, 2, 3, 4, 5, 6, 7, 8, 9, 10, 11, 12, 13, 14, 15, 16, 17], [0, 1]), ([18, 17, 17, 0, 1, 2, 3, 4, 5, 6, 7, 8, 9, 10, 11, 12, 13, 14, 15, 16, 17], [17, 18])])
def solve_Trsv.B21 : List Nat := [0, 0, 0, 0, 0, 24, 56, 0, 0, 0, 0, 1792, 0, 0, 12288, 28672, 65408, 131068, 262143, 524287]
theorem solve_Trsv.tab21 : rtab .any (opsOf Try.f9 21) = solve_Trsv.T21 := by kernel_rfl
theorem solve_Trsv.bits21 : waitsOk solve_Trsv.T21.2 solve_Trsv.B21 = true := by kernel_rfl
def solve_Trsv.T23 : Bool × List (List Nat × List Nat) := (true, [([], []), ([], []), ([], []), ([], []), ([], []), ([3, 4], [3, 4]), ([5], [5]), ([], []), ([], []), ([], []), ([7, 8, 9], [7, 8, 9]), ([2, 6, 10, 10], [2, 6, 10]), ([0, 1, 0, 1, 2, 3, 4, 5, 6, 7, 8, 9, 10, 11], [0, 1]), ([12, 11, 11, 0, 1, 2, 3, 4, 5, 6, 7, 8, 9, 10, 11], [11, 12])])
def solve_Trsv.B23 : List Nat := [0, 0, 0, 0, 0, 24, 56, 0, 0, 0, 896, 2044, 4095, 8191]
theorem solve_Trsv.tab23 : rtab .any (opsOf Try.f9 23) = solve_Trsv.T23 := by kernel_rfl
theorem solve_Trsv.bits23 : waitsOk solve_Trsv.T23.2 solve_Trsv.B23 = true := by kernel_rfl
set_option maxHeartbeats 8000000 in
set_option maxRecDepth 100000 in
theorem solve_Trsv.calls (k : Nat) (g : Nat) (s0_0 : Int) (a1_0 : Int) (a1_1 : Int) (a1_2 : Int) (A1_3 : Option Addr) (c1_3 : Nat) (l1_3 : List Int) (a2 : Bool) (a3 : Bool) (A4 : Option Addr) (c4 : Nat) (l4 : List Int) (r1 : List Int) (r2 : Int) (r3 : Int) (w0 w : World) (hI : IsS31 w0 w g s0_0) (hB : Below w0.heap.size w0 w) (hr1_3 : Kd.C (Kd.int .u64) w A1_3 l1_3.length l1_3) (hc1_3 : l1_3.length ≤ c1_3) (hf1_3 : ∀ ad, A1_3 = some ad → 0 < l1_3.length → ad.block ≠ g) (hr4 : Kd.C (Kd.int .u64) w A4 l4.length l4) (hc4 : l4.length ≤ c4) (hf4 : ∀ ad, A4 = some ad → 0 < l4.length → ad.block ≠ g) (h : solve_Trsv.f k s0_0 a1_0 a1_1 a1_2 l1_3 a2 a3 l4 = some (r1, r2, r3)) :
  Calls Try.prog 9 #[.pointer (some ⟨g, 0, none⟩), .agg #[.int .i64 a1_0, .int .i64 a1_1, .int .i64 a1_2, .slice A1_3 l1_3.length c1_3], .bool a2, .bool a3, .slice A4 l4.length c4] w fun e w' => ∃ v0_ : Value, e = .returned (.tuple #[v0_, .int .i64 r2]) ∧ Kd.R (Kd.int .u64) 35 w' w.heap.size (fun _ => True) v0_ r1 ∧ IsS31 w0 w' g r3 ∧ Below w0.heap.size w0 w' ∧ KeepBut w w' g none := by
 have hu25 := Try.underlying25
 have hu60 := Try.underlying60
 have HR1_3 := Aside0.mk hr1_3
 have HC1_3 := Aside0.mk hc1_3
 clear hr1_3 hc1_3
 have HR4 := Aside0.mk hr4
 have HC4 := Aside0.mk hc4
 clear hr4 hc4
 have HI0 := Aside0.mk hI
 have HK := Aside0.mk (KeepBut.refl w g none)
 have HL := Aside0.mk hB.size
 clear hI
 have HW0 := Aside0.mk hB.size
 have HB := Aside0.mk hB
 clear hB
 have H : ((mat_Matrix_Check.f k a1_0 a1_1 a1_2 l1_3).bind fun t290 => (if t290 = 0 then (if a1_0 = a1_1 then (solve_Trsv.j0 k a2 a3 l4 (a1_1 != (l4.length : Int)) s0_0 a1_0 a1_1 a1_2 l1_3) else (solve_Trsv.j0 k a2 a3 l4 true s0_0 a1_0 a1_1 a1_2 l1_3)) else (solve_Trsv.j0 k a2 a3 l4 true s0_0 a1_0 a1_1 a1_2 l1_3))) = some (r1, r2, r3) := h
 clear h
 have HC6 := Aside0.mk H
 clear H
 go_enter Try.func9, Try.ntmps9
 go_upto_region 1 with (first | ((with_reducible refine gate_dst (N := 6) rfl ?_); refine gbox (N := 6) (cs := #[.int .i64 a1_0, .int .i64 a1_1, .int .i64 a1_2, .slice A1_3 l1_3.length c1_3]) (t := 25) ?_; intro gb289 hg w7 hbox hb; refine ax8 (IsS31.below (ss31 HI0) hb) (KeepBut.trans (kz HK) (KeepBut.of_below hb g none) (.inl rfl)) (below_step sb31 hb) hbox ((by rw [hg]; exact (keep_size (w := w) (g := g) (row := none) (kz HK)) : w.heap.size ≤ gb289)) ((Nat.le_trans HW0.out (by rw [hg]; exact (keep_size (w := w) (g := g) (row := none) (kz HK)) : w.heap.size ≤ gb289) : w0.heap.size ≤ gb289)) ((by rw [hg]; exact Nat.ne_of_lt (IsS31.lt (show IsS31 w0 _ g s0_0 from ss31 HI0)) : g ≠ gb289)) ((by rw [hg]; exact Nat.ne_of_gt (IsS31.lt (show IsS31 w0 _ g s0_0 from ss31 HI0)) : gb289 ≠ g)) ?_; clear HI0; clear HK; clear HB; intro HI0 HK HB BK289 GW289 GE289 NB0_289 NB289_0; clear hb hbox hg))
 (try simp only [Act.put, sa0, sa1, sa2])
 go_cut [36] (fun v36 wc => ∃ (kq : Nat) (x36_5 : Bool), v36 = .bool x36_5 ∧ Aside0 (solve_Trsv.j0 kq a2 a3 l4 x36_5 s0_0 a1_0 a1_1 a1_2 l1_3 = some (r1, r2, r3)) ∧ Aside0 (kq ≤ k) ∧ Aside0 (wc.heap[gb289]? = some (.cells #[.int .i64 a1_0, .int .i64 a1_1, .int .i64 a1_2, (.slice A1_3 l1_3.length c1_3)] 25 (0, 0))) ∧ Aside0 (IsS31 w0 wc g s0_0) ∧ Aside0 (KeepBut w wc g none) ∧ Aside0 (Below w0.heap.size w0 wc))
 case first =>
  have H := HC6.out
  clear HC6
  obtain ⟨t290, A80, H⟩ := Option.bind_eq_some_iff.mp H
  (try dsimp -simprocs only at H)
  have A8 := Aside0.mk A80
  clear A80
  by_cases c9 : t290 = 0
  ·
   rw [if_pos c9] at H
   have c9b0 : (t290 == 0) = true := beq_iff_eq.mpr c9
   have c9b1 : (t290 != 0) = false := bne_eq_false_iff_eq.mpr c9
   clear c9
   (first | rw [c9b0] | (simp only [i64_w, i32_w]; rw [c9b0]) | skip)
   by_cases c10 : a1_0 = a1_1
   ·
    rw [if_pos c10] at H
    have c10b0 : (a1_0 == a1_1) = true := beq_iff_eq.mpr c10
    have c10b1 : (a1_0 != a1_1) = false := bne_eq_false_iff_eq.mpr c10
    clear c10
    have H' := Aside0.mk H
    clear H
    have hnb11 := NB289_0.out
    have hnc11 := NB0_289.out
    have hcz12_0 := bc BK289 0 rfl
    have hcz12_1 := bc BK289 1 rfl
    have hcz12_2 := bc BK289 2 rfl
    have hcz12_3 := bc BK289 3 rfl
    have hfz12_0 := blk_frozen BK289.out 0
    have hfz12_1 := blk_frozen BK289.out 1
    have hfz12_2 := blk_frozen BK289.out 2
    have hfz12_3 := blk_frozen BK289.out 3
    go_wp2_with (first | ((with_reducible refine gate_callee (f := 26) rfl ?_); refine goesL_ (some 21) rfl rfl Try.func26 (by kernel_rfl) rfl #[.agg #[.int .i64 a1_0, .int .i64 a1_1, .int .i64 a1_2, .slice A1_3 l1_3.length c1_3]] rfl ga ?_; (with_reducible refine (mat_Matrix_Check.calls k a1_0 a1_1 a1_2 _ _ l1_3 t290 _ ?side1 ?side2 A8.out).mono ?_); (case side1 => exact Kd.C_keep 0 HR1_3.out (ky HK) hf1_3); (case side2 => exact HC1_3.out); rintro e w13 ⟨rfl, hb⟩; refine ⟨_, rfl, ?_⟩; refine ax4 (IsS31.below (ss31 HI0) hb) (bb BK289 hb) (KeepBut.trans (ky HK) (KeepBut.of_below hb g none) (.inl rfl)) (below_step sb31 hb) ?_; clear HI0; clear BK289; clear HK; clear HB; intro HI0 BK289 HK HB; (try clear hb); have hcz14_0 := bc BK289 0 rfl; have hcz14_1 := bc BK289 1 rfl; have hcz14_2 := bc BK289 2 rfl; have hcz14_3 := bc BK289 3 rfl; have hfz14_0 := blk_frozen BK289.out 0; have hfz14_1 := blk_frozen BK289.out 1; have hfz14_2 := blk_frozen BK289.out 2; have hfz14_3 := blk_frozen BK289.out 3))
    go_meet
    case rel => exact ⟨_, ((a1_1 != (l4.length : Int))), (by first | rfl | (simp; done) | (simp [*]; done)), H', ⟨by first | omega | exact Nat.le_refl _⟩, ⟨kb BK289⟩, ⟨ss31 HI0⟩, ⟨ky HK⟩, ⟨sb31⟩⟩
   ·
    rw [if_neg c10] at H
    have c10b0 : (a1_0 == a1_1) = false := beq_eq_false_iff_ne.mpr c10
    have c10b1 : (a1_0 != a1_1) = true := bne_iff_ne.mpr c10
    have H' := Aside0.mk H
    clear H
    have hnb15 := NB289_0.out
    have hnc15 := NB0_289.out
    have hcz16_0 := bc BK289 0 rfl
    have hcz16_1 := bc BK289 1 rfl
    have hcz16_2 := bc BK289 2 rfl
    have hcz16_3 := bc BK289 3 rfl
    have hfz16_0 := blk_frozen BK289.out 0
    have hfz16_1 := blk_frozen BK289.out 1
    have hfz16_2 := blk_frozen BK289.out 2
    have hfz16_3 := blk_frozen BK289.out 3
    go_wp2_with (first | ((with_reducible refine gate_callee (f := 26) rfl ?_); refine goesL_ (some 21) rfl rfl Try.func26 (by kernel_rfl) rfl #[.agg #[.int .i64 a1_0, .int .i64 a1_1, .int .i64 a1_2, .slice A1_3 l1_3.length c1_3]] rfl ga ?_; (with_reducible refine (mat_Matrix_Check.calls k a1_0 a1_1 a1_2 _ _ l1_3 t290 _ ?side1 ?side2 A8.out).mono ?_); (case side1 => exact Kd.C_keep 0 HR1_3.out (ky HK) hf1_3); (case side2 => exact HC1_3.out); rintro e w17 ⟨rfl, hb⟩; refine ⟨_, rfl, ?_⟩; refine ax4 (IsS31.below (ss31 HI0) hb) (bb BK289 hb) (KeepBut.trans (ky HK) (KeepBut.of_below hb g none) (.inl rfl)) (below_step sb31 hb) ?_; clear HI0; clear BK289; clear HK; clear HB; intro HI0 BK289 HK HB; (try clear hb); have hcz18_0 := bc BK289 0 rfl; have hcz18_1 := bc BK289 1 rfl; have hcz18_2 := bc BK289 2 rfl; have hcz18_3 := bc BK289 3 rfl; have hfz18_0 := blk_frozen BK289.out 0; have hfz18_1 := blk_frozen BK289.out 1; have hfz18_2 := blk_frozen BK289.out 2; have hfz18_3 := blk_frozen BK289.out 3))
    go_meet
    case rel => exact ⟨_, (true), (by first | rfl | (simp; done) | (simp [*]; done)), H', ⟨by first | omega | exact Nat.le_refl _⟩, ⟨kb BK289⟩, ⟨ss31 HI0⟩, ⟨ky HK⟩, ⟨sb31⟩⟩
  ·
   rw [if_neg c9] at H
   have c9b0 : (t290 == 0) = false := beq_eq_false_iff_ne.mpr c9
   have c9b1 : (t290 != 0) = true := bne_iff_ne.mpr c9
   (first | rw [c9b0] | (simp only [i64_w, i32_w]; rw [c9b0]) | skip)
   have H' := Aside0.mk H
   clear H
   have hnb19 := NB289_0.out
   have hnc19 := NB0_289.out
   have hcz20_0 := bc BK289 0 rfl
   have hcz20_1 := bc BK289 1 rfl
   have hcz20_2 := bc BK289 2 rfl
   have hcz20_3 := bc BK289 3 rfl
   have hfz20_0 := blk_frozen BK289.out 0
   have hfz20_1 := blk_frozen BK289.out 1
   have hfz20_2 := blk_frozen BK289.out 2
   have hfz20_3 := blk_frozen BK289.out 3
   go_wp2_with (first | ((with_reducible refine gate_callee (f := 26) rfl ?_); refine goesL_ (some 21) rfl rfl Try.func26 (by kernel_rfl) rfl #[.agg #[.int .i64 a1_0, .int .i64 a1_1, .int .i64 a1_2, .slice A1_3 l1_3.length c1_3]] rfl ga ?_; (with_reducible refine (mat_Matrix_Check.calls k a1_0 a1_1 a1_2 _ _ l1_3 t290 _ ?side1 ?side2 A8.out).mono ?_); (case side1 => exact Kd.C_keep 0 HR1_3.out (ky HK) hf1_3); (case side2 => exact HC1_3.out); rintro e w21 ⟨rfl, hb⟩; refine ⟨_, rfl, ?_⟩; refine ax4 (IsS31.below (ss31 HI0) hb) (bb BK289 hb) (KeepBut.trans (ky HK) (KeepBut.of_below hb g none) (.inl rfl)) (below_step sb31 hb) ?_; clear HI0; clear BK289; clear HK; clear HB; intro HI0 BK289 HK HB; (try clear hb)))
   go_meet
   case rel => exact ⟨_, (true), (by first | rfl | (simp; done) | (simp [*]; done)), H', ⟨by first | omega | exact Nat.le_refl _⟩, ⟨kb BK289⟩, ⟨ss31 HI0⟩, ⟨ky HK⟩, ⟨sb31⟩⟩
 case rest =>
  clear HC6
  try clear c1
  try clear c2
  try clear p2
  try clear c4
  try clear c9
  try clear c9b0
  try clear c9b1
  try clear c10
  try clear c10b0
  try clear c10b1
  try clear c11
  try clear c15
  try clear c19
  try clear hcz12_0
  try clear hcz12_1
  try clear hcz12_2
  try clear hcz12_3
  try clear hcz14_0
  try clear hcz14_1
  try clear hcz14_2
  try clear hcz14_3
  try clear hcz16_0
  try clear hcz16_1
  try clear hcz16_2
  try clear hcz16_3
  try clear hcz18_0
  try clear hcz18_1
  try clear hcz18_2
  try clear hcz18_3
  try clear hcz20_0
  try clear hcz20_1
  try clear hcz20_2
  try clear hcz20_3
  try clear hfz12_0
  try clear hfz12_1
  try clear hfz12_2
  try clear hfz12_3
  try clear hfz14_0
  try clear hfz14_1
  try clear hfz14_2
  try clear hfz14_3
  try clear hfz16_0
  try clear hfz16_1
  try clear hfz16_2
  try clear hfz16_3
  try clear hfz18_0
  try clear hfz18_1
  try clear hfz18_2
  try clear hfz18_3
  try clear hfz20_0
  try clear hfz20_1
  try clear hfz20_2
  try clear hfz20_3
  obtain ⟨kq, x36_5, rfl, HA, HJ5, BK289, HI0, HK, HB⟩ := hcut
  cases kq with
  | zero => exact absurd HA.out (by simp [solve_Trsv.j0])
  | succ kj5 =>
   have H := HA.out
   clear HA
   simp only [solve_Trsv.j0] at H
   by_cases c22 : x36_5 = true
   ·
    subst c22
    rw [if_pos rfl] at H
    simp only [Option.some.injEq, Prod.mk.injEq] at H
    obtain ⟨rfl, rfl, rfl⟩ := H
    go_wp2
    go_ret2
    exact ⟨_, er, by first | exact Kd.R_nil _ _ _ _ _ | exact Kd.N_nil _ _ _ _ _ | exact Kd.V_nil _ _ _ _ _ | exact Kd.Q_nil _ _ _ _ _ | exact Kd.S_nil _ _ _ _ _, by repeat (first | (with_reducible first | exact HI0.out | apply IsS31.alloc | apply IsS31.drewN | apply IsS31.drew | apply IsS31.set_0 | refine IsS31.far ?_ NB0_289.out _) | exact HI0.out), by repeat (first | (with_reducible first | exact HB.out | apply below_alloc | apply pw_below_drewN | apply below_drew1 | refine below_set ?_ (IsS31.ge HI0.out) | refine below_set ?_ GE289.out) | exact HB.out), by repeat (first | (with_reducible first | exact HK.out | apply KeepBut.set_ | apply keep_drewN | apply keep_drew | apply keep_alloc | refine keep_far ?_ GW289.out _) | exact HK.out)⟩
   ·
    replace c22 := Bool.eq_false_iff.mpr c22
    subst c22
    rw [if_neg (show ¬ (false = true) by decide)] at H
    have H' := Aside0.mk H
    clear H
    go_wp2
    go_loopg [40] kj5 (fun kq v40 w' => ∃ (x40_2 : Int), v40 = .int .i64 x40_2 ∧ Aside0 (solve_Trsv.l0 kq a2 a3 l4 (l4.length : Int) (l4.length : Int) x40_2 s0_0 a1_0 a1_1 a1_2 l1_3 = some (r1, r2, r3)) ∧ Aside0 (kq ≤ kj5) ∧ Aside0 (w'.heap[gb289]? = some (.cells #[.int .i64 a1_0, .int .i64 a1_1, .int .i64 a1_2, (.slice A1_3 l1_3.length c1_3)] 25 (0, 0))) ∧ Aside0 (IsS31 w0 w' g s0_0) ∧ Aside0 (KeepBut w w' g none) ∧ Aside0 (Below w0.heap.size w0 w'))
    case atStart => exact ⟨(0), (by first | rfl | (simp; done) | (simp [*]; done)), H', ⟨Nat.le_refl _⟩, ⟨kb BK289⟩, ⟨ss31 HI0⟩, ⟨ky HK⟩, ⟨sb31⟩⟩
    case round =>
     clear H'
     try clear c1
     try clear c2
     try clear p2
     try clear c4
     try clear c9
     try clear c9b0
     try clear c9b1
     try clear c10
     try clear c10b0
     try clear c10b1
     try clear c11
     try clear c15
     try clear c19
     try clear c22
     try clear hcz12_0
     try clear hcz12_1
     try clear hcz12_2
     try clear hcz12_3
     try clear hcz14_0
     try clear hcz14_1
     try clear hcz14_2
     try clear hcz14_3
     try clear hcz16_0
     try clear hcz16_1
     try clear hcz16_2
     try clear hcz16_3
     try clear hcz18_0
     try clear hcz18_1
     try clear hcz18_2
     try clear hcz18_3
     try clear hcz20_0
     try clear hcz20_1
     try clear hcz20_2
     try clear hcz20_3
     try clear hfz12_0
     try clear hfz12_1
     try clear hfz12_2
     try clear hfz12_3
     try clear hfz14_0
     try clear hfz14_1
     try clear hfz14_2
     try clear hfz14_3
     try clear hfz16_0
     try clear hfz16_1
     try clear hfz16_2
     try clear hfz16_3
     try clear hfz18_0
     try clear hfz18_1
     try clear hfz18_2
     try clear hfz18_3
     try clear hfz20_0
     try clear hfz20_1
     try clear hfz20_2
     try clear hfz20_3
     try clear p2
     obtain ⟨x40_2, rfl, HA, HK2, BK289, HI0, HK, HB⟩ := hrel
     cases gk with
     | zero => exact absurd HA.out (by simp [solve_Trsv.l0])
     | succ k2 =>
      have H := HA.out
      clear HA
      simp only [solve_Trsv.l0] at H
      by_cases c23 : x40_2 < (l4.length : Int)
      ·
       rw [if_pos c23] at H
       have c23b0 : decide (x40_2 < (l4.length : Int)) = true := decide_eq_true c23
       clear c23
       by_cases c24 : a3 = true
       ·
        subst c24
        rw [if_pos rfl] at H
        have H' := Aside0.mk H
        clear H
        go_wp2
        go_roundg k2
        case measure => have := HJ5.out; have := HK2.out; omega
        case rel => exact ⟨(wrap64 (x40_2 + 1)), (by first | rfl | (simp; done) | (simp [*]; done)), H', ⟨by have := HJ5.out; have := HK2.out; omega⟩, ⟨kb BK289⟩, ⟨ss31 HI0⟩, ⟨ky HK⟩, ⟨sb31⟩⟩
       ·
        replace c24 := Bool.eq_false_iff.mpr c24
        subst c24
        rw [if_neg (show ¬ (false = true) by decide)] at H
        obtain ⟨t291, A250, H⟩ := Option.bind_eq_some_iff.mp H
        (try dsimp -simprocs only at H)
        have A25 := Aside0.mk A250
        clear A250
        obtain ⟨t292, A260, H⟩ := Option.bind_eq_some_iff.mp H
        (try dsimp -simprocs only at H)
        have A26 := Aside0.mk A260
        clear A260
        by_cases c27 : t292 = 1
        ·
         rw [if_pos c27] at H
         have c27b0 : (t292 == 1) = true := beq_iff_eq.mpr c27
         have c27b1 : (t292 != 1) = false := bne_eq_false_iff_eq.mpr c27
         clear c27
         simp only [Option.some.injEq, Prod.mk.injEq] at H
         obtain ⟨rfl, rfl, rfl⟩ := H
         have hnb28 := NB289_0.out
         have hnc28 := NB0_289.out
         have hcz29_0 := bc BK289 0 rfl
         have hcz29_1 := bc BK289 1 rfl
         have hcz29_2 := bc BK289 2 rfl
         have hcz29_3 := bc BK289 3 rfl
         have hfz29_0 := blk_frozen BK289.out 0
         have hfz29_1 := blk_frozen BK289.out 1
         have hfz29_2 := blk_frozen BK289.out 2
         have hfz29_3 := blk_frozen BK289.out 3
         go_wp2_with (first | (go_at_call 11; (with_reducible refine (mat_Matrix_At.calls a1_0 a1_1 a1_2 _ _ l1_3 x40_2 x40_2 t291 _ ?side1 ?side2 A25.out).mono ?_); (case side1 => exact Kd.C_keep 0 HR1_3.out (ky HK) hf1_3); (case side2 => exact HC1_3.out); rintro e w30 ⟨rfl, hb⟩; refine ax4 (bb BK289 hb) (IsS31.below (ss31 HI0) hb) (KeepBut.trans (ky HK) (KeepBut.of_below hb g none) (.inl rfl)) (below_step sb31 hb) ?_; clear BK289; clear HI0; clear HK; clear HB; intro BK289 HI0 HK HB; (try clear hb)) | (go_at_call 27; (with_reducible refine (word_Kind.calls k2 t291 t292 _ A26.out).mono ?_); rintro e w' ⟨rfl, ⟨nd, rfl⟩⟩))
         go_ret2
         exact ⟨_, er, by first | exact Kd.R_nil _ _ _ _ _ | exact Kd.N_nil _ _ _ _ _ | exact Kd.V_nil _ _ _ _ _ | exact Kd.Q_nil _ _ _ _ _ | exact Kd.S_nil _ _ _ _ _, by repeat (first | (with_reducible first | exact HI0.out | apply IsS31.alloc | apply IsS31.drewN | apply IsS31.drew | apply IsS31.set_0 | refine IsS31.far ?_ NB0_289.out _) | exact HI0.out), by repeat (first | (with_reducible first | exact HB.out | apply below_alloc | apply pw_below_drewN | apply below_drew1 | refine below_set ?_ (IsS31.ge HI0.out) | refine below_set ?_ GE289.out) | exact HB.out), by repeat (first | (with_reducible first | exact HK.out | apply KeepBut.set_ | apply keep_drewN | apply keep_drew | apply keep_alloc | refine keep_far ?_ GW289.out _) | exact HK.out)⟩
        ·
         rw [if_neg c27] at H
         have c27b0 : (t292 == 1) = false := beq_eq_false_iff_ne.mpr c27
         have c27b1 : (t292 != 1) = true := bne_iff_ne.mpr c27
         have H' := Aside0.mk H
         clear H
         have hnb31 := NB289_0.out
         have hnc31 := NB0_289.out
         have hcz32_0 := bc BK289 0 rfl
         have hcz32_1 := bc BK289 1 rfl
         have hcz32_2 := bc BK289 2 rfl
         have hcz32_3 := bc BK289 3 rfl
         have hfz32_0 := blk_frozen BK289.out 0
         have hfz32_1 := blk_frozen BK289.out 1
         have hfz32_2 := blk_frozen BK289.out 2
         have hfz32_3 := blk_frozen BK289.out 3
         go_wp2_with (first | (go_at_call 11; (with_reducible refine (mat_Matrix_At.calls a1_0 a1_1 a1_2 _ _ l1_3 x40_2 x40_2 t291 _ ?side1 ?side2 A25.out).mono ?_); (case side1 => exact Kd.C_keep 0 HR1_3.out (ky HK) hf1_3); (case side2 => exact HC1_3.out); rintro e w33 ⟨rfl, hb⟩; refine ax4 (bb BK289 hb) (IsS31.below (ss31 HI0) hb) (KeepBut.trans (ky HK) (KeepBut.of_below hb g none) (.inl rfl)) (below_step sb31 hb) ?_; clear BK289; clear HI0; clear HK; clear HB; intro BK289 HI0 HK HB; (try clear hb)) | (go_at_call 27; (with_reducible refine (word_Kind.calls k2 t291 t292 _ A26.out).mono ?_); rintro e w' ⟨rfl, ⟨nd, rfl⟩⟩))
         go_roundg k2
         case measure => have := HJ5.out; have := HK2.out; omega
         case rel => exact ⟨(wrap64 (x40_2 + 1)), (by first | rfl | (simp; done) | (simp [*]; done)), H', ⟨by have := HJ5.out; have := HK2.out; omega⟩, ⟨kb BK289⟩, ⟨ss31 HI0⟩, ⟨ky HK⟩, ⟨sb31⟩⟩
      ·
       rw [if_neg c23] at H
       have c23b0 : decide (x40_2 < (l4.length : Int)) = false := decide_eq_false c23
       clear c23
       by_cases c34 : ([] : List Int).length + l4.length < 17592186044416
       rotate_left
       ·
        rw [if_neg c34] at H
        exact absurd H (by simp)

       rw [if_pos c34] at H
       have LMc34 := Aside0.mk c34
       clear c34
       obtain ⟨y293, hy293⟩ : ∃ y_ : List Int, y_ = (([] : List Int) ++ l4) := ⟨_, rfl⟩
       replace H : (solve_Trsv.l1 k2 a2 a3 (l4.length : Int) y293 (l4.length : Int) 0 s0_0 a1_0 a1_1 a1_2 l1_3) = some (r1, r2, r3) := by first | (rw [hy293]; with_reducible exact H) | (have H2_ := (Option.bind_some _ _).symm.trans H; rw [hy293]; with_reducible exact H2_) | (have H2_ := (Option.bind_some _ _).symm.trans H; with_reducible exact H2_) | with_reducible exact H | (rw [hy293]; exact H) | exact H
       have Ny293 := Aside0.mk hy293
       clear hy293
       have H' := Aside0.mk H
       clear H
       go_wp2_with (first | ((with_reducible refine gate_builtin (b := .append) (xs := #[.const (.slice none 0 0), .tmp 54]) rfl ?_); at_builtin; refine Kd.R_append_rows (Kd.int .u64) w.heap.size rfl (.const (.slice none 0 0)) (.tmp 54) 22 35 (.int .u64 0) 8 rfl Try.underlying22 info35 rfl (by decide) (by omega) (.slice none 0 0) ([] : List Int) l4 _ _ _ (fun _ => True) (fun _ => False) rfl rfl ?aO ?aR (fun _ _ h => h) (fun _ h => h.elim) ?aF (Below.refl _ _) ?aS ?aL ?_; (case aR => exact Kd.C_keep 0 HR4.out (ky HK) hf4); (case aF => exact (fun _ _ => trivial)); (case aO => exact ((Kd.R_nil _ _ _ _ (fun _ => True)))); (case aS => exact (keep_size (w := w) (g := g) (row := none) (ky HK))); (case aL => have := LMc34.out; omega); intro v294 w35 ho hb hg hat; rw [← Ny293.out] at ho; refine ax5 (blk_grown (g := gb289) (o := .cells #[.int .i64 a1_0, .int .i64 a1_1, .int .i64 a1_2, .slice A1_3 l1_3.length c1_3] 25 (0, 0)) (kb BK289) hg (by simp [Value.ownBlock])) (IsS31.grown (ss31 HI0) hg (by simp [Value.ownBlock])) (below_weaken sb31 HL.out hb) (KeepBut.trans (ky HK) (KeepBut.of_grown hg g) (.inl (by simp [Value.ownBlock]))) ho ?_; clear BK289; clear HI0; clear HB; clear HK; intro BK289 HI0 HB HK HO295; clear ho hb hg hat))
       go_loopg [57] k2 (fun kq v57 w' => ∃ (x14_3 : List Int) (x57_3 : Int) (x1000_3 : Int), v57 = .int .i64 x57_3 ∧ Aside0 (solve_Trsv.l1 kq a2 a3 (l4.length : Int) x14_3 (l4.length : Int) x57_3 x1000_3 a1_0 a1_1 a1_2 l1_3 = some (r1, r2, r3)) ∧ Aside0 (kq ≤ k2) ∧ Aside0 (Kd.R (Kd.int .u64) 35 w' w.heap.size (fun _ => True) v294 x14_3) ∧ Aside0 (w'.heap[gb289]? = some (.cells #[.int .i64 a1_0, .int .i64 a1_1, .int .i64 a1_2, (.slice A1_3 l1_3.length c1_3)] 25 (0, 0))) ∧ Aside0 (IsS31 w0 w' g x1000_3) ∧ Aside0 (KeepBut w w' g none) ∧ Aside0 (Below w0.heap.size w0 w'))
       case atStart => exact ⟨(y293), (0), (s0_0), (by first | rfl | (simp; done) | (simp [*]; done)), H', ⟨Nat.le_refl _⟩, ⟨kr HO295⟩, ⟨kb BK289⟩, ⟨ss31 HI0⟩, ⟨ky HK⟩, ⟨sb31⟩⟩
       case round =>
        clear H'
        try clear c1
        try clear c2
        try clear p2
        try clear c3
        try clear c4
        try clear p6
        try clear c9
        try clear c9b0
        try clear c9b1
        try clear c10
        try clear c10b0
        try clear c10b1
        try clear c11
        try clear c15
        try clear c19
        try clear c22
        try clear c23
        try clear c23b0
        try clear c24
        try clear c26
        try clear c27
        try clear c27b0
        try clear c27b1
        try clear c28
        try clear c31
        try clear c34
        try clear hcz12_0
        try clear hcz12_1
        try clear hcz12_2
        try clear hcz12_3
        try clear hcz14_0
        try clear hcz14_1
        try clear hcz14_2
        try clear hcz14_3
        try clear hcz16_0
        try clear hcz16_1
        try clear hcz16_2
        try clear hcz16_3
        try clear hcz18_0
        try clear hcz18_1
        try clear hcz18_2
        try clear hcz18_3
        try clear hcz20_0
        try clear hcz20_1
        try clear hcz20_2
        try clear hcz20_3
        try clear hcz29_0
        try clear hcz29_1
        try clear hcz29_2
        try clear hcz29_3
        try clear hcz32_0
        try clear hcz32_1
        try clear hcz32_2
        try clear hcz32_3
        try clear hfz12_0
        try clear hfz12_1
        try clear hfz12_2
        try clear hfz12_3
        try clear hfz14_0
        try clear hfz14_1
        try clear hfz14_2
        try clear hfz14_3
        try clear hfz16_0
        try clear hfz16_1
        try clear hfz16_2
        try clear hfz16_3
        try clear hfz18_0
        try clear hfz18_1
        try clear hfz18_2
        try clear hfz18_3
        try clear hfz20_0
        try clear hfz20_1
        try clear hfz20_2
        try clear hfz20_3
        try clear hfz29_0
        try clear hfz29_1
        try clear hfz29_2
        try clear hfz29_3
        try clear hfz32_0
        try clear hfz32_1
        try clear hfz32_2
        try clear hfz32_3
        try clear p2
        obtain ⟨x14_3, x57_3, x1000_3, rfl, HA, HK3, HO_14, BK289, HI0, HK, HB⟩ := hrel
        cases gk with
        | zero => exact absurd HA.out (by simp [solve_Trsv.l1])
        | succ k3 =>
         have H := HA.out
         clear HA
         simp only [solve_Trsv.l1] at H
         by_cases c36 : x57_3 < (l4.length : Int)
         rotate_left
         ·
          rw [if_neg c36] at H
          have c36b0 : decide (x57_3 < (l4.length : Int)) = false := decide_eq_false c36
          clear c36
          simp only [Option.some.injEq, Prod.mk.injEq] at H
          obtain ⟨rfl, rfl, rfl⟩ := H
          go_wp2
          go_ret2
          exact ⟨_, er, kr HO_14, by repeat (first | (with_reducible first | exact HI0.out | apply IsS31.alloc | apply IsS31.drewN | apply IsS31.drew | apply IsS31.set_0 | refine IsS31.far ?_ NB0_289.out _) | exact HI0.out), by repeat (first | (with_reducible first | exact HB.out | apply below_alloc | apply pw_below_drewN | apply below_drew1 | refine below_set ?_ (IsS31.ge HI0.out) | refine below_set ?_ GE289.out) | exact HB.out), by repeat (first | (with_reducible first | exact HK.out | apply KeepBut.set_ | apply keep_drewN | apply keep_drew | apply keep_alloc | refine keep_far ?_ GW289.out _) | exact HK.out)⟩
         rw [if_pos c36] at H
         have c36b0 : decide (x57_3 < (l4.length : Int)) = true := decide_eq_true c36
         clear c36
         have HC37 := Aside0.mk H
         clear H
         go_upto_if 61 with (fail)
         go_cut [16] (fun v16 wc => ∃ (kq : Nat) (x16_36 : Int), v16 = .int .i64 x16_36 ∧ Aside0 (solve_Trsv.j3 kq a2 a3 (l4.length : Int) x14_3 x16_36 (l4.length : Int) x57_3 x1000_3 a1_0 a1_1 a1_2 l1_3 = some (r1, r2, r3)) ∧ Aside0 (kq ≤ k3) ∧ Aside0 (Kd.R (Kd.int .u64) 35 wc w.heap.size (fun _ => True) v294 x14_3) ∧ Aside0 (wc.heap[gb289]? = some (.cells #[.int .i64 a1_0, .int .i64 a1_1, .int .i64 a1_2, (.slice A1_3 l1_3.length c1_3)] 25 (0, 0))) ∧ Aside0 (IsS31 w0 wc g x1000_3) ∧ Aside0 (KeepBut w wc g none) ∧ Aside0 (Below w0.heap.size w0 wc))
         case first =>
          have H := HC37.out
          clear HC37
          by_cases c38 : a2 = true
          ·
           subst c38
           rw [if_pos rfl] at H
           have H' := Aside0.mk H
           clear H
           go_wp2
           go_meet
           case rel => exact ⟨_, (wrap64 ((wrap64 ((l4.length : Int) - 1)) - x57_3)), (by first | rfl | (simp; done) | (simp [*]; done)), H', ⟨by have := HJ5.out; have := HK2.out; have := HK3.out; first | omega | exact Nat.le_refl _⟩, ⟨kr HO_14⟩, ⟨kb BK289⟩, ⟨ss31 HI0⟩, ⟨ky HK⟩, ⟨sb31⟩⟩
          ·
           replace c38 := Bool.eq_false_iff.mpr c38
           subst c38
           rw [if_neg (show ¬ (false = true) by decide)] at H
           have H' := Aside0.mk H
           clear H
           go_wp2
           go_meet
           case rel => exact ⟨_, (x57_3), (by first | rfl | (simp; done) | (simp [*]; done)), H', ⟨by have := HJ5.out; have := HK2.out; have := HK3.out; first | omega | exact Nat.le_refl _⟩, ⟨kr HO_14⟩, ⟨kb BK289⟩, ⟨ss31 HI0⟩, ⟨ky HK⟩, ⟨sb31⟩⟩
         case rest =>
          clear HC37
          try clear c1
          try clear c2
          try clear p2
          try clear c3
          try clear c4
          try clear p6
          try clear c9
          try clear c9b0
          try clear c9b1
          try clear c10
          try clear c10b0
          try clear c10b1
          try clear c11
          try clear c15
          try clear c19
          try clear c22
          try clear c23
          try clear c23b0
          try clear c24
          try clear c26
          try clear c27
          try clear c27b0
          try clear c27b1
          try clear c28
          try clear c31
          try clear c34
          try clear c36
          try clear c36b0
          try clear c38
          try clear hcz12_0
          try clear hcz12_1
          try clear hcz12_2
          try clear hcz12_3
          try clear hcz14_0
          try clear hcz14_1
          try clear hcz14_2
          try clear hcz14_3
          try clear hcz16_0
          try clear hcz16_1
          try clear hcz16_2
          try clear hcz16_3
          try clear hcz18_0
          try clear hcz18_1
          try clear hcz18_2
          try clear hcz18_3
          try clear hcz20_0
          try clear hcz20_1
          try clear hcz20_2
          try clear hcz20_3
          try clear hcz29_0
          try clear hcz29_1
          try clear hcz29_2
          try clear hcz29_3
          try clear hcz32_0
          try clear hcz32_1
          try clear hcz32_2
          try clear hcz32_3
          try clear hfz12_0
          try clear hfz12_1
          try clear hfz12_2
          try clear hfz12_3
          try clear hfz14_0
          try clear hfz14_1
          try clear hfz14_2
          try clear hfz14_3
          try clear hfz16_0
          try clear hfz16_1
          try clear hfz16_2
          try clear hfz16_3
          try clear hfz18_0
          try clear hfz18_1
          try clear hfz18_2
          try clear hfz18_3
          try clear hfz20_0
          try clear hfz20_1
          try clear hfz20_2
          try clear hfz20_3
          try clear hfz29_0
          try clear hfz29_1
          try clear hfz29_2
          try clear hfz29_3
          try clear hfz32_0
          try clear hfz32_1
          try clear hfz32_2
          try clear hfz32_3
          try clear p2
          try clear p6
          obtain ⟨kq, x16_36, rfl, HA, HJ36, HO_14, BK289, HI0, HK, HB⟩ := hcut
          cases kq with
          | zero => exact absurd HA.out (by simp [solve_Trsv.j3])
          | succ kj36 =>
           have H := HA.out
           clear HA
           simp only [solve_Trsv.j3] at H
           have HC39 := Aside0.mk H
           clear H
           go_upto_region 17 with (fail)
           go_cut [17, 18] (fun v17 v18 wc => ∃ (kq : Nat) (x17_38 : Int) (x18_38 : Int), v17 = .int .i64 x17_38 ∧ v18 = .int .i64 x18_38 ∧ Aside0 (solve_Trsv.j4 kq a2 a3 (l4.length : Int) x14_3 x16_36 x17_38 x18_38 (l4.length : Int) x57_3 x1000_3 a1_0 a1_1 a1_2 l1_3 = some (r1, r2, r3)) ∧ Aside0 (kq ≤ kj36) ∧ Aside0 (Kd.R (Kd.int .u64) 35 wc w.heap.size (fun _ => True) v294 x14_3) ∧ Aside0 (wc.heap[gb289]? = some (.cells #[.int .i64 a1_0, .int .i64 a1_1, .int .i64 a1_2, (.slice A1_3 l1_3.length c1_3)] 25 (0, 0))) ∧ Aside0 (IsS31 w0 wc g x1000_3) ∧ Aside0 (KeepBut w wc g none) ∧ Aside0 (Below w0.heap.size w0 wc))
           case first =>
            have H := HC39.out
            clear HC39
            by_cases c40 : a2 = true
            ·
             subst c40
             rw [if_pos rfl] at H
             obtain ⟨t296, A410, H⟩ := Option.bind_eq_some_iff.mp H
             (try dsimp -simprocs only at H)
             have A41 := Aside0.mk A410
             clear A410
             obtain ⟨⟨t297, t298⟩, A420, H⟩ := Option.bind_eq_some_iff.mp H
             (try dsimp -simprocs only at H)
             have A42 := Aside0.mk A420
             clear A420
             have H' := Aside0.mk H
             clear H
             go_wp2_with (first | ((with_reducible refine gate_callee (f := 28) rfl ?_); refine goesL_ (some 68) rfl rfl Try.func28 (by kernel_rfl) rfl #[.bool true] rfl ga ?_; (with_reducible refine (solve_of_t.calls true t296 _ A41.out).mono ?_); rintro e w43 ⟨rfl, hb⟩; refine ⟨_, rfl, ?_⟩; refine ax5 (Kd.R_below (kr HO_14) hb) (bb BK289 hb) (IsS31.below (ss31 HI0) hb) (KeepBut.trans (ky HK) (KeepBut.of_below hb g none) (.inl rfl)) (below_step sb31 hb) ?_; clear HO_14; clear BK289; clear HI0; clear HK; clear HB; intro HO_14 BK289 HI0 HK HB; (try clear hb)) | (go_at_call 42; (with_reducible refine (solve_of_1.calls x16_36 (l4.length : Int) t297 t298 _ A42.out).mono ?_); rintro e w' ⟨rfl, ⟨nd, rfl⟩⟩))
             go_meet
             case rel => exact ⟨_, (t297), (t298), (by first | rfl | (simp; done) | (simp [*]; done)), (by first | rfl | (simp; done) | (simp [*]; done)), H', ⟨by have := HJ5.out; have := HK2.out; have := HK3.out; have := HJ36.out; first | omega | exact Nat.le_refl _⟩, ⟨kr HO_14⟩, ⟨kb BK289⟩, ⟨ss31 HI0⟩, ⟨ky HK⟩, ⟨sb31⟩⟩
            ·
             replace c40 := Bool.eq_false_iff.mpr c40
             subst c40
             rw [if_neg (show ¬ (false = true) by decide)] at H
             obtain ⟨t299, A440, H⟩ := Option.bind_eq_some_iff.mp H
             (try dsimp -simprocs only at H)
             have A44 := Aside0.mk A440
             clear A440
             obtain ⟨⟨t300, t301⟩, A450, H⟩ := Option.bind_eq_some_iff.mp H
             (try dsimp -simprocs only at H)
             have A45 := Aside0.mk A450
             clear A450
             have H' := Aside0.mk H
             clear H
             go_wp2_with (first | ((with_reducible refine gate_callee (f := 28) rfl ?_); refine goesL_ (some 68) rfl rfl Try.func28 (by kernel_rfl) rfl #[.bool false] rfl ga ?_; (with_reducible refine (solve_of_e.calls false t299 _ A44.out).mono ?_); rintro e w46 ⟨rfl, hb⟩; refine ⟨_, rfl, ?_⟩; refine ax5 (Kd.R_below (kr HO_14) hb) (bb BK289 hb) (IsS31.below (ss31 HI0) hb) (KeepBut.trans (ky HK) (KeepBut.of_below hb g none) (.inl rfl)) (below_step sb31 hb) ?_; clear HO_14; clear BK289; clear HI0; clear HK; clear HB; intro HO_14 BK289 HI0 HK HB; (try clear hb)) | (go_at_call 43; (with_reducible refine (solve_of_2.calls x16_36 (l4.length : Int) t300 t301 _ A45.out).mono ?_); rintro e w' ⟨rfl, ⟨nd, rfl⟩⟩))
             go_meet
             case rel => exact ⟨_, (t300), (t301), (by first | rfl | (simp; done) | (simp [*]; done)), (by first | rfl | (simp; done) | (simp [*]; done)), H', ⟨by have := HJ5.out; have := HK2.out; have := HK3.out; have := HJ36.out; first | omega | exact Nat.le_refl _⟩, ⟨kr HO_14⟩, ⟨kb BK289⟩, ⟨ss31 HI0⟩, ⟨ky HK⟩, ⟨sb31⟩⟩
           case rest =>
            clear HC39
            try clear c1
            try clear c2
            try clear p2
            try clear c3
            try clear c4
            try clear p6
            try clear c7
            try clear c9
            try clear c9b0
            try clear c9b1
            try clear c10
            try clear c10b0
            try clear c10b1
            try clear c11
            try clear c15
            try clear c19
            try clear c22
            try clear c23
            try clear c23b0
            try clear c24
            try clear c26
            try clear c27
            try clear c27b0
            try clear c27b1
            try clear c28
            try clear c31
            try clear c34
            try clear c36
            try clear c36b0
            try clear c38
            try clear c40
            try clear hcz12_0
            try clear hcz12_1
            try clear hcz12_2
            try clear hcz12_3
            try clear hcz14_0
            try clear hcz14_1
            try clear hcz14_2
            try clear hcz14_3
            try clear hcz16_0
            try clear hcz16_1
            try clear hcz16_2
            try clear hcz16_3
            try clear hcz18_0
            try clear hcz18_1
            try clear hcz18_2
            try clear hcz18_3
            try clear hcz20_0
            try clear hcz20_1
            try clear hcz20_2
            try clear hcz20_3
            try clear hcz29_0
            try clear hcz29_1
            try clear hcz29_2
            try clear hcz29_3
            try clear hcz32_0
            try clear hcz32_1
            try clear hcz32_2
            try clear hcz32_3
            try clear hfz12_0
            try clear hfz12_1
            try clear hfz12_2
            try clear hfz12_3
            try clear hfz14_0
            try clear hfz14_1
            try clear hfz14_2
            try clear hfz14_3
            try clear hfz16_0
            try clear hfz16_1
            try clear hfz16_2
            try clear hfz16_3
            try clear hfz18_0
            try clear hfz18_1
            try clear hfz18_2
            try clear hfz18_3
            try clear hfz20_0
            try clear hfz20_1
            try clear hfz20_2
            try clear hfz20_3
            try clear hfz29_0
            try clear hfz29_1
            try clear hfz29_2
            try clear hfz29_3
            try clear hfz32_0
            try clear hfz32_1
            try clear hfz32_2
            try clear hfz32_3
            try clear p2
            try clear p6
            obtain ⟨kq, x17_38, x18_38, rfl, rfl, HA, HJ38, HO_14, BK289, HI0, HK, HB⟩ := hcut
            cases kq with
            | zero => exact absurd HA.out (by simp [solve_Trsv.j4])
            | succ kj38 =>
             have H := HA.out
             clear HA
             simp only [solve_Trsv.j4] at H
             have H' := Aside0.mk H
             clear H
             go_wp2
             go_loopg [19] kj38 (fun kq v19 w' => ∃ (x14_6 : List Int) (x19_6 : Int) (x1000_6 : Int), v19 = .int .i64 x19_6 ∧ Aside0 (solve_Trsv.l2 kq a2 a3 (l4.length : Int) x14_6 x16_36 x18_38 x19_6 (l4.length : Int) x57_3 x1000_6 a1_0 a1_1 a1_2 l1_3 = some (r1, r2, r3)) ∧ Aside0 (kq ≤ kj38) ∧ Aside0 (Kd.R (Kd.int .u64) 35 w' w.heap.size (fun _ => True) v294 x14_6) ∧ Aside0 (w'.heap[gb289]? = some (.cells #[.int .i64 a1_0, .int .i64 a1_1, .int .i64 a1_2, (.slice A1_3 l1_3.length c1_3)] 25 (0, 0))) ∧ Aside0 (IsS31 w0 w' g x1000_6) ∧ Aside0 (KeepBut w w' g none) ∧ Aside0 (Below w0.heap.size w0 w'))
             case atStart => exact ⟨(x14_3), (x17_38), (x1000_3), (by first | rfl | (simp; done) | (simp [*]; done)), H', ⟨Nat.le_refl _⟩, ⟨kr HO_14⟩, ⟨kb BK289⟩, ⟨ss31 HI0⟩, ⟨ky HK⟩, ⟨sb31⟩⟩
             case round =>
              clear H'
              try clear c1
              try clear c2
              try clear p2
              try clear c3
              try clear c4
              try clear p6
              try clear c7
              try clear c9
              try clear c9b0
              try clear c9b1
              try clear c10
              try clear c10b0
              try clear c10b1
              try clear c11
              try clear c15
              try clear c19
              try clear c22
              try clear c23
              try clear c23b0
              try clear c24
              try clear c26
              try clear c27
              try clear c27b0
              try clear c27b1
              try clear c28
              try clear c31
              try clear c34
              try clear c36
              try clear c36b0
              try clear c38
              try clear c40
              try clear hcz12_0
              try clear hcz12_1
              try clear hcz12_2
              try clear hcz12_3
              try clear hcz14_0
              try clear hcz14_1
              try clear hcz14_2
              try clear hcz14_3
              try clear hcz16_0
              try clear hcz16_1
              try clear hcz16_2
              try clear hcz16_3
              try clear hcz18_0
              try clear hcz18_1
              try clear hcz18_2
              try clear hcz18_3
              try clear hcz20_0
              try clear hcz20_1
              try clear hcz20_2
              try clear hcz20_3
              try clear hcz29_0
              try clear hcz29_1
              try clear hcz29_2
              try clear hcz29_3
              try clear hcz32_0
              try clear hcz32_1
              try clear hcz32_2
              try clear hcz32_3
              try clear hfz12_0
              try clear hfz12_1
              try clear hfz12_2
              try clear hfz12_3
              try clear hfz14_0
              try clear hfz14_1
              try clear hfz14_2
              try clear hfz14_3
              try clear hfz16_0
              try clear hfz16_1
              try clear hfz16_2
              try clear hfz16_3
              try clear hfz18_0
              try clear hfz18_1
              try clear hfz18_2
              try clear hfz18_3
              try clear hfz20_0
              try clear hfz20_1
              try clear hfz20_2
              try clear hfz20_3
              try clear hfz29_0
              try clear hfz29_1
              try clear hfz29_2
              try clear hfz29_3
              try clear hfz32_0
              try clear hfz32_1
              try clear hfz32_2
              try clear hfz32_3
              try clear p2
              try clear p6
              obtain ⟨x14_6, x19_6, x1000_6, rfl, HA, HK6, HO_14, BK289, HI0, HK, HB⟩ := hrel
              cases gk with
              | zero => exact absurd HA.out (by simp [solve_Trsv.l2])
              | succ k6 =>
               have H := HA.out
               clear HA
               simp only [solve_Trsv.l2] at H
               by_cases c47 : x19_6 < x18_38
               ·
                rw [if_pos c47] at H
                have c47b0 : decide (x19_6 < x18_38) = true := decide_eq_true c47
                clear c47
                by_cases c48 : 0 ≤ x16_36
                rotate_left
                ·
                 rw [if_neg c48] at H
                 exact absurd H (by simp)
                rw [if_pos c48] at H
                have c48b0 : decide (0 ≤ x16_36) = true := decide_eq_true c48
                clear c48
                by_cases c49 : x16_36 < (x14_6.length : Int)
                rotate_left
                ·
                 rw [if_neg c49] at H
                 exact absurd H (by simp)
                rw [if_pos c49] at H
                have c49b0 : decide (x16_36 < (x14_6.length : Int)) = true := decide_eq_true c49
                clear c49
                obtain ⟨t303, A500, H⟩ := Option.bind_eq_some_iff.mp H
                (try dsimp -simprocs only at H)
                have A50 := Aside0.mk A500
                clear A500
                by_cases c51 : 0 ≤ x19_6
                rotate_left
                ·
                 rw [if_neg c51] at H
                 exact absurd H (by simp)
                rw [if_pos c51] at H
                have c51b0 : decide (0 ≤ x19_6) = true := decide_eq_true c51
                clear c51
                by_cases c52 : x19_6 < (x14_6.length : Int)
                rotate_left
                ·
                 rw [if_neg c52] at H
                 exact absurd H (by simp)
                rw [if_pos c52] at H
                have c52b0 : decide (x19_6 < (x14_6.length : Int)) = true := decide_eq_true c52
                clear c52
                obtain ⟨⟨t305, t306⟩, A530, H⟩ := Option.bind_eq_some_iff.mp H
                (try dsimp -simprocs only at H)
                have A53 := Aside0.mk A530
                clear A530
                obtain ⟨⟨t307, t308⟩, A540, H⟩ := Option.bind_eq_some_iff.mp H
                (try dsimp -simprocs only at H)
                have A54 := Aside0.mk A540
                clear A540
                obtain ⟨y309, hy309⟩ : ∃ y_ : List Int, y_ = (x14_6.set (x16_36 : Int).toNat t307) := ⟨_, rfl⟩
                replace H : (solve_Trsv.l2 k6 a2 a3 (l4.length : Int) y309 x16_36 x18_38 (wrap64 (x19_6 + 1)) (l4.length : Int) x57_3 t308 a1_0 a1_1 a1_2 l1_3) = some (r1, r2, r3) := by first | (rw [hy309]; with_reducible exact H) | (have H2_ := (Option.bind_some _ _).symm.trans H; rw [hy309]; with_reducible exact H2_) | (have H2_ := (Option.bind_some _ _).symm.trans H; with_reducible exact H2_) | with_reducible exact H | (rw [hy309]; exact H) | exact H
                have Ny309 := Aside0.mk hy309
                clear hy309
                have H' := Aside0.mk H
                clear H
                obtain ⟨Ao56, co56, eo56⟩ := Kd.R_slice HO_14.out
                subst eo56
                try go_wp2
                refine ax5 (Kd.R_drew HO_14.out) (blk_drew BK289.out) (IsS31.drew HI0.out) (keep_drew HK.out) (below_drew1 HB.out) ?_
                clear HO_14 BK289 HI0 HK HB
                intro HO_14 BK289 HI0 HK HB
                have p302 : 0 ≤ (x16_36 : Int) := of_decide_eq_true (by first | (with_reducible assumption) | assumption)
                have q302 : x16_36 < (x14_6.length : Int) := of_decide_eq_true (by first | (with_reducible assumption) | assumption)
                obtain ⟨ad302, e302, hx302_0⟩ := Kd.at_int (Kd.R_reads' HO_14.out).2.2 x16_36 p302 q302
                cases e302
                replace p302 := eq_true p302
                replace q302 := eq_true q302
                have p304 : 0 ≤ (x19_6 : Int) := of_decide_eq_true (by first | (with_reducible assumption) | assumption)
                have q304 : x19_6 < (x14_6.length : Int) := of_decide_eq_true (by first | (with_reducible assumption) | assumption)
                obtain ⟨ad304, e304, hx304_0⟩ := Kd.at_int (Kd.R_reads' HO_14.out).2.2 x19_6 p304 q304
                obtain rfl : ad302 = ad304 := (by injection e304)
                replace p304 := eq_true p304
                replace q304 := eq_true q304
                refine start_ (n := 20) (S := fun w' => w'.cell? ⟨gb289, 0, none⟩ = some (.int .i64 a1_0) ∧ w'.cell? ⟨gb289, 1, none⟩ = some (.int .i64 a1_1) ∧ w'.cell? ⟨gb289, 2, none⟩ = some (.int .i64 a1_2) ∧ w'.cell? ⟨gb289, 3, none⟩ = some (.slice A1_3 l1_3.length c1_3) ∧ w'.cell? (ad302.add (x16_36).toNat) = some (.int .u64 (rd x14_6 x16_36)) ∧ w'.cell? (ad302.add (x19_6).toNat) = some (.int .u64 (rd x14_6 x19_6))) (ds := [19]) #[false, false, false, false, false, false, false, false, false, false, false, false, false, false, false, false, false, false, false, false] (by kernel_rfl) rfl rfl ⟨bk BK289 0, bk BK289 1, bk BK289 2, bk BK289 3, hx302_0, hx304_0⟩ (fun hHeld => ?_); refine with_tabW solve_Trsv.tab21 solve_Trsv.bits21 (fun HT_ HW_ => ?_)
                generalize wr.drew = w57 at HO_14 BK289 HI0 HK HB hx302_0 hx304_0 hHeld ⊢
                refine pu 0 81 (lm 20 1) HT_ ?_
                refine pu 1 82 (lm 20 3) HT_ ?_
                refine pu 2 83 (lm 20 7) HT_ ?_
                refine pu 3 84 (lm 20 15) HT_ ?_
                refine pu 4 85 (lm 20 31) HT_ ?_
                refine pu 5 86 (lm 20 63) HT_ ?_
                refine pu 7 88 (lm 20 191) HT_ ?_
                refine pu 9 90 (lm 20 703) HT_ ?_
                refine pu 10 91 (lm 20 1727) HT_ ?_
                refine pu 12 93 (lm 20 5823) HT_ ?_
                refine pu 13 94 (lm 20 14015) HT_ ?_
                refine pu 14 95 (lm 20 30399) HT_ ?_
                refine ta 6 87 (lm 20 30463) HT_ HW_ hHeld ?_
                refine ta 8 89 (lm 20 30719) HT_ HW_ hHeld ?_
                refine ta 15 96 (lm 20 63487) HT_ HW_ hHeld ?_
                refine on 11 (some 92) (lm 20 65535) HT_ (fun K hK => ?_)
                refine goes_ Try.func11 (by kernel_rfl) rfl #[.agg #[.int .i64 a1_0, .int .i64 a1_1, .int .i64 a1_2, .slice A1_3 l1_3.length c1_3], .int .i64 x16_36, .int .i64 x19_6] (by rfl) rfl rfl ga ?_
                with_reducible refine (mat_Matrix_At.calls a1_0 a1_1 a1_2 _ _ l1_3 x16_36 x19_6 t303 _ ?side1 ?side2 A50.out).mono ?_
                (case side1 => exact Kd.C_keep 0 HR1_3.out (ky HK) hf1_3)
                (case side2 => exact HC1_3.out)
                rintro e w58 ⟨rfl, hb⟩
                have HS4_ := (hb.cell (World.block_lt_of_cell? _ _ (hHeld.2.2.2.2.1))).trans (hHeld.2.2.2.2.1)
                have HS5_ := (hb.cell (World.block_lt_of_cell? _ _ (hHeld.2.2.2.2.2))).trans (hHeld.2.2.2.2.2)
                refine ⟨_, rfl, ?_⟩
                refine ax5 (Kd.R_below (kr HO_14) hb) (bb BK289 hb) (IsS31.below (ss31 HI0) hb) (KeepBut.trans (ky HK) (KeepBut.of_below hb g none) (.inl rfl)) (below_step sb31 hb) ?_
                clear HO_14 BK289 HI0 HK HB
                intro HO_14 BK289 HI0 HK HB
                (try clear hb)
                (try clear hb2)
                (try clear hk)
                (try clear hi)
                refine hK.out _ _ ⟨bk BK289 0, bk BK289 1, bk BK289 2, bk BK289 3, HS4_, HS5_⟩ (fun hHeld => ?_)
                clear hK K
                refine no 92 ?_
                refine on 16 (some 97) (lm 20 131071) HT_ (fun K hK => ?_)
                refine goes_ Try.func14 (by kernel_rfl) rfl #[.pointer (some ⟨g, 0, none⟩), .int .u64 t303, .int .u64 (rd x14_6 x19_6)] (by rfl) rfl rfl ga ?_
                with_reducible refine (soft_Calc_Mul.calls k6 g x1000_6 t303 (rd x14_6 x19_6) t305 t306 w0 _ ?side1 ?side2 A53.out).mono ?_
                (case side1 => repeat (first | (with_reducible first | exact HI0.out | apply IsS31.alloc | apply IsS31.drewN | apply IsS31.drew | apply IsS31.set_0 | refine IsS31.far ?_ NB0_289.out _) | exact HI0.out))
                (case side2 => repeat (first | (with_reducible first | exact HB.out | apply below_alloc | apply pw_below_drewN | apply below_drew1 | refine below_set ?_ (IsS31.ge HI0.out) | refine below_set ?_ GE289.out) | exact HB.out))
                rintro e w59 ⟨rfl, hi, hb, hk⟩
                have HS4_ := keep_cell hk (hHeld.2.2.2.2.1) (by first | (rw [add_block]; exact Kd.own_blk (IsS31.own_ne HI0.out HO_14.out (by decide))) | (show (Addr.add _ _).block ≠ _; rw [add_block]; exact Kd.own_blk (IsS31.own_ne HI0.out HO_14.out (by decide))) | exact Kd.own_blk (IsS31.own_ne HI0.out HO_14.out (by decide)))
                have HS5_ := keep_cell hk (hHeld.2.2.2.2.2) (by first | (rw [add_block]; exact Kd.own_blk (IsS31.own_ne HI0.out HO_14.out (by decide))) | (show (Addr.add _ _).block ≠ _; rw [add_block]; exact Kd.own_blk (IsS31.own_ne HI0.out HO_14.out (by decide))) | exact Kd.own_blk (IsS31.own_ne HI0.out HO_14.out (by decide)))
                refine ⟨_, rfl, ?_⟩
                refine ax5 (Kd.R_mono (Kd.R_keep (IsS31.apart (show IsS31 w0 _ g x1000_6 from ss31 HI0) (kr HO_14) (by decide)) hk (fun _ h => h.2)) (fun _ h => h.1)) (KeepBut.blk hk (g' := gb289) (o := .cells #[.int .i64 a1_0, .int .i64 a1_1, .int .i64 a1_2, .slice A1_3 l1_3.length c1_3] 25 (0, 0)) (kb BK289) NB289_0.out (by simp)) (KeepBut.trans (ky HK) hk (.inl rfl)) hb hi ?_
                clear HO_14 BK289 HK HB HI0
                intro HO_14 BK289 HK HB HI0
                (try clear hb)
                (try clear hb2)
                (try clear hk)
                (try clear hi)
                refine hK.out _ _ ⟨bk BK289 0, bk BK289 1, bk BK289 2, bk BK289 3, HS4_, HS5_⟩ (fun hHeld => ?_)
                clear hK K
                refine no 97 ?_
                refine on 17 (some 98) (lm 20 262143) HT_ (fun K hK => ?_)
                refine goes_ Try.func13 (by kernel_rfl) rfl #[.pointer (some ⟨g, 0, none⟩), .int .u64 (rd x14_6 x16_36), .int .u64 t305] (by rfl) rfl rfl ga ?_
                with_reducible refine (soft_Calc_Sub.calls k6 g t306 (rd x14_6 x16_36) t305 t307 t308 w0 _ ?side1 ?side2 A54.out).mono ?_
                (case side1 => repeat (first | (with_reducible first | exact HI0.out | apply IsS31.alloc | apply IsS31.drewN | apply IsS31.drew | apply IsS31.set_0 | refine IsS31.far ?_ NB0_289.out _) | exact HI0.out))
                (case side2 => repeat (first | (with_reducible first | exact HB.out | apply below_alloc | apply pw_below_drewN | apply below_drew1 | refine below_set ?_ (IsS31.ge HI0.out) | refine below_set ?_ GE289.out) | exact HB.out))
                rintro e w60 ⟨rfl, hi, hb, hk⟩
                have HS4_ := keep_cell hk (hHeld.2.2.2.2.1) (by first | (rw [add_block]; exact Kd.own_blk (IsS31.own_ne HI0.out HO_14.out (by decide))) | (show (Addr.add _ _).block ≠ _; rw [add_block]; exact Kd.own_blk (IsS31.own_ne HI0.out HO_14.out (by decide))) | exact Kd.own_blk (IsS31.own_ne HI0.out HO_14.out (by decide)))
                have HS5_ := keep_cell hk (hHeld.2.2.2.2.2) (by first | (rw [add_block]; exact Kd.own_blk (IsS31.own_ne HI0.out HO_14.out (by decide))) | (show (Addr.add _ _).block ≠ _; rw [add_block]; exact Kd.own_blk (IsS31.own_ne HI0.out HO_14.out (by decide))) | exact Kd.own_blk (IsS31.own_ne HI0.out HO_14.out (by decide)))
                refine ⟨_, rfl, ?_⟩
                refine ax5 (Kd.R_mono (Kd.R_keep (IsS31.apart (show IsS31 w0 _ g t306 from ss31 HI0) (kr HO_14) (by decide)) hk (fun _ h => h.2)) (fun _ h => h.1)) (KeepBut.blk hk (g' := gb289) (o := .cells #[.int .i64 a1_0, .int .i64 a1_1, .int .i64 a1_2, .slice A1_3 l1_3.length c1_3] 25 (0, 0)) (kb BK289) NB289_0.out (by simp)) (KeepBut.trans (ky HK) hk (.inl rfl)) hb hi ?_
                clear HO_14 BK289 HK HB HI0
                intro HO_14 BK289 HK HB HI0
                (try clear hb)
                (try clear hb2)
                (try clear hk)
                (try clear hi)
                have p55 : 0 ≤ (x16_36 : Int) := of_decide_eq_true (by first | (with_reducible assumption) | assumption)
                have q55 : (x16_36 : Int) < ((x14_6.length : Int) : Int) := of_decide_eq_true (by first | (with_reducible assumption) | assumption)
                obtain ⟨go55, co55, eo55, gb55, gl55, cl55, HG55⟩ := Kd.R_form HO_14.out (by omega)
                (first | cases eo55 | (injection eo55 with ea_ en_ ec_; (first | subst ea_ | (injection ea_ with ea_; subst ea_)); subst ec_; clear en_))
                have GB55 := Aside0.mk gb55
                have GG55 := Aside0.mk HG55
                clear gb55 gl55 HG55
                (first | simp only [add_plain] at hx302_0 | skip)
                (first | simp only [add_plain] at hx304_0 | skip)
                obtain ⟨hx55_0, hf55_0⟩ := Kd.R_celln 0 HO_14.out (x16_36 : Int) p55 q55
                replace p55 := eq_true p55
                replace q55 := eq_true q55
                have HN0_go55 := Aside0.mk (show g ≠ go55 from by have h_ := IsS31.own_ne HI0.out HO_14.out (by decide); intro e_; exact h_ (by rw [e_]; rfl))
                have HP61 := Kd.R_putn HO_14.out (x16_36 : Int) t307
                rw [← Ny309.out] at HP61
                have HQ61 := Aside0.mk HP61
                clear HP61
                refine hK.out _ _ ⟨bk BK289 0, bk BK289 1, bk BK289 2, bk BK289 3, HS4_, HS5_⟩ (fun hHeld => ?_)
                clear hK K
                refine no 98 ?_
                refine pu 18 99 (lm 20 524287) HT_ ?_
                refine last_ (i := 19) (N := none) #[true, true, true, true, true, true, true, true, true, true, true, true, true, true, true, true, true, true, true, true] rfl rfl (one_of HT_.out (by kernel_rfl)) (by decide) (fun K hK => ?_)
                refine skip_ (w1 := ?_) (by rfl) rfl ?_ ?_
                rotate_left
                ·
                 go_simp
                 rfl
                refine hK.out _ _ ?_
                clear hK K
                refine done_ (done_of HT_.out (by kernel_rfl)) ?_
                try go_wp2
                go_roundg k6
                case measure => have := HJ5.out; have := HK2.out; have := HK3.out; have := HJ36.out; have := HJ38.out; have := HK6.out; omega
                case rel => exact ⟨(y309), (wrap64 (x19_6 + 1)), (t308), (by first | rfl | (simp; done) | (simp [*]; done)), H', ⟨by have := HJ5.out; have := HK2.out; have := HK3.out; have := HJ36.out; have := HJ38.out; have := HK6.out; omega⟩, ⟨kr HQ61⟩, ⟨by (with_reducible repeat (first | refine blk_drewN ?_ _ | refine blk_drew ?_ | refine blk_alloc ?_ _)); refine blk_far ?_ (by have h_ := Kd.R_ne HO_14.out BK289.out (by decide); intro e_; exact h_ (by rw [e_]; rfl)) _; (with_reducible repeat (first | refine blk_drewN ?_ _ | refine blk_drew ?_ | refine blk_alloc ?_ _)); exact BK289.out⟩, ⟨ss31 HI0⟩, ⟨ky HK⟩, ⟨by repeat (first | (with_reducible first | exact HB.out | apply below_alloc | apply pw_below_drewN | apply below_drew1 | refine below_set ?_ (Nat.le_trans HL.out GB55.out) | refine below_set ?_ (IsS31.ge HI0.out) | refine below_set ?_ GE289.out) | exact HB.out)⟩⟩
               ·
                rw [if_neg c47] at H
                have c47b0 : decide (x19_6 < x18_38) = false := decide_eq_false c47
                clear c47
                by_cases c62 : a3 = true
                ·
                 subst c62
                 rw [if_pos rfl] at H
                 have H' := Aside0.mk H
                 clear H
                 go_wp2
                 go_roundg k6
                 case measure => have := HJ5.out; have := HK2.out; have := HK3.out; have := HJ36.out; have := HJ38.out; have := HK6.out; omega
                 case rel => exact ⟨(x14_6), (wrap64 (x57_3 + 1)), (x1000_6), (by first | rfl | (simp; done) | (simp [*]; done)), H', ⟨by have := HJ5.out; have := HK2.out; have := HK3.out; have := HJ36.out; have := HJ38.out; have := HK6.out; omega⟩, ⟨kr HO_14⟩, ⟨kb BK289⟩, ⟨ss31 HI0⟩, ⟨ky HK⟩, ⟨sb31⟩⟩
                ·
                 replace c62 := Bool.eq_false_iff.mpr c62
                 subst c62
                 rw [if_neg (show ¬ (false = true) by decide)] at H
                 by_cases c63 : 0 ≤ x16_36
                 rotate_left
                 ·
                  rw [if_neg c63] at H
                  exact absurd H (by simp)
                 rw [if_pos c63] at H
                 have c63b0 : decide (0 ≤ x16_36) = true := decide_eq_true c63
                 clear c63
                 by_cases c64 : x16_36 < (x14_6.length : Int)
                 rotate_left
                 ·
                  rw [if_neg c64] at H
                  exact absurd H (by simp)
                 rw [if_pos c64] at H
                 have c64b0 : decide (x16_36 < (x14_6.length : Int)) = true := decide_eq_true c64
                 clear c64
                 obtain ⟨t311, A650, H⟩ := Option.bind_eq_some_iff.mp H
                 (try dsimp -simprocs only at H)
                 have A65 := Aside0.mk A650
                 clear A650
                 obtain ⟨⟨t312, t313⟩, A660, H⟩ := Option.bind_eq_some_iff.mp H
                 (try dsimp -simprocs only at H)
                 have A66 := Aside0.mk A660
                 clear A660
                 obtain ⟨y314, hy314⟩ : ∃ y_ : List Int, y_ = (x14_6.set (x16_36 : Int).toNat t312) := ⟨_, rfl⟩
                 replace H : (solve_Trsv.l1 k6 a2 false (l4.length : Int) y314 (l4.length : Int) (wrap64 (x57_3 + 1)) t313 a1_0 a1_1 a1_2 l1_3) = some (r1, r2, r3) := by first | (rw [hy314]; with_reducible exact H) | (have H2_ := (Option.bind_some _ _).symm.trans H; rw [hy314]; with_reducible exact H2_) | (have H2_ := (Option.bind_some _ _).symm.trans H; with_reducible exact H2_) | with_reducible exact H | (rw [hy314]; exact H) | exact H
                 have Ny314 := Aside0.mk hy314
                 clear hy314
                 have H' := Aside0.mk H
                 clear H
                 obtain ⟨Ao68, co68, eo68⟩ := Kd.R_slice HO_14.out
                 subst eo68
                 try go_wp2
                 refine ax5 (Kd.R_drew HO_14.out) (blk_drew BK289.out) (IsS31.drew HI0.out) (keep_drew HK.out) (below_drew1 HB.out) ?_
                 clear HO_14 BK289 HI0 HK HB
                 intro HO_14 BK289 HI0 HK HB
                 have p310 : 0 ≤ (x16_36 : Int) := of_decide_eq_true (by first | (with_reducible assumption) | assumption)
                 have q310 : x16_36 < (x14_6.length : Int) := of_decide_eq_true (by first | (with_reducible assumption) | assumption)
                 obtain ⟨ad310, e310, hx310_0⟩ := Kd.at_int (Kd.R_reads' HO_14.out).2.2 x16_36 p310 q310
                 cases e310
                 replace p310 := eq_true p310
                 replace q310 := eq_true q310
                 refine start_ (n := 14) (S := fun w' => w'.cell? ⟨gb289, 0, none⟩ = some (.int .i64 a1_0) ∧ w'.cell? ⟨gb289, 1, none⟩ = some (.int .i64 a1_1) ∧ w'.cell? ⟨gb289, 2, none⟩ = some (.int .i64 a1_2) ∧ w'.cell? ⟨gb289, 3, none⟩ = some (.slice A1_3 l1_3.length c1_3) ∧ w'.cell? (ad310.add (x16_36).toNat) = some (.int .u64 (rd x14_6 x16_36))) (ds := [13]) #[false, false, false, false, false, false, false, false, false, false, false, false, false, false] (by kernel_rfl) rfl rfl ⟨bk BK289 0, bk BK289 1, bk BK289 2, bk BK289 3, hx310_0⟩ (fun hHeld => ?_); refine with_tabW solve_Trsv.tab23 solve_Trsv.bits23 (fun HT_ HW_ => ?_)
                 generalize wr.drew = w69 at HO_14 BK289 HI0 HK HB hx310_0 hHeld ⊢
                 refine pu 0 102 (lm 14 1) HT_ ?_
                 refine pu 1 103 (lm 14 3) HT_ ?_
                 refine pu 2 104 (lm 14 7) HT_ ?_
                 refine pu 3 105 (lm 14 15) HT_ ?_
                 refine pu 4 106 (lm 14 31) HT_ ?_
                 refine pu 5 107 (lm 14 63) HT_ ?_
                 refine pu 8 110 (lm 14 319) HT_ ?_
                 refine pu 9 111 (lm 14 831) HT_ ?_
                 refine ta 6 108 (lm 14 895) HT_ HW_ hHeld ?_
                 refine ta 7 109 (lm 14 1023) HT_ HW_ hHeld ?_
                 refine on 10 (some 112) (lm 14 2047) HT_ (fun K hK => ?_)
                 refine goes_ Try.func11 (by kernel_rfl) rfl #[.agg #[.int .i64 a1_0, .int .i64 a1_1, .int .i64 a1_2, .slice A1_3 l1_3.length c1_3], .int .i64 x16_36, .int .i64 x16_36] (by rfl) rfl rfl ga ?_
                 with_reducible refine (mat_Matrix_At.calls a1_0 a1_1 a1_2 _ _ l1_3 x16_36 x16_36 t311 _ ?side1 ?side2 A65.out).mono ?_
                 (case side1 => exact Kd.C_keep 0 HR1_3.out (ky HK) hf1_3)
                 (case side2 => exact HC1_3.out)
                 rintro e w70 ⟨rfl, hb⟩
                 have HS4_ := (hb.cell (World.block_lt_of_cell? _ _ (hHeld.2.2.2.2))).trans (hHeld.2.2.2.2)
                 refine ⟨_, rfl, ?_⟩
                 refine ax5 (Kd.R_below (kr HO_14) hb) (bb BK289 hb) (IsS31.below (ss31 HI0) hb) (KeepBut.trans (ky HK) (KeepBut.of_below hb g none) (.inl rfl)) (below_step sb31 hb) ?_
                 clear HO_14 BK289 HI0 HK HB
                 intro HO_14 BK289 HI0 HK HB
                 (try clear hb)
                 (try clear hb2)
                 (try clear hk)
                 (try clear hi)
                 refine hK.out _ _ ⟨bk BK289 0, bk BK289 1, bk BK289 2, bk BK289 3, HS4_⟩ (fun hHeld => ?_)
                 clear hK K
                 refine no 112 ?_
                 refine on 11 (some 113) (lm 14 4095) HT_ (fun K hK => ?_)
                 refine goes_ Try.func15 (by kernel_rfl) rfl #[.pointer (some ⟨g, 0, none⟩), .int .u64 (rd x14_6 x16_36), .int .u64 t311] (by rfl) rfl rfl ga ?_
                 with_reducible refine (soft_Calc_Div.calls k6 g x1000_6 (rd x14_6 x16_36) t311 t312 t313 w0 _ ?side1 ?side2 A66.out).mono ?_
                 (case side1 => repeat (first | (with_reducible first | exact HI0.out | apply IsS31.alloc | apply IsS31.drewN | apply IsS31.drew | apply IsS31.set_0 | refine IsS31.far ?_ NB0_289.out _) | exact HI0.out))
                 (case side2 => repeat (first | (with_reducible first | exact HB.out | apply below_alloc | apply pw_below_drewN | apply below_drew1 | refine below_set ?_ (IsS31.ge HI0.out) | refine below_set ?_ GE289.out) | exact HB.out))
                 rintro e w71 ⟨rfl, hi, hb, hk⟩
                 have HS4_ := keep_cell hk (hHeld.2.2.2.2) (by first | (rw [add_block]; exact Kd.own_blk (IsS31.own_ne HI0.out HO_14.out (by decide))) | (show (Addr.add _ _).block ≠ _; rw [add_block]; exact Kd.own_blk (IsS31.own_ne HI0.out HO_14.out (by decide))) | exact Kd.own_blk (IsS31.own_ne HI0.out HO_14.out (by decide)))
                 refine ⟨_, rfl, ?_⟩
                 refine ax5 (Kd.R_mono (Kd.R_keep (IsS31.apart (show IsS31 w0 _ g x1000_6 from ss31 HI0) (kr HO_14) (by decide)) hk (fun _ h => h.2)) (fun _ h => h.1)) (KeepBut.blk hk (g' := gb289) (o := .cells #[.int .i64 a1_0, .int .i64 a1_1, .int .i64 a1_2, .slice A1_3 l1_3.length c1_3] 25 (0, 0)) (kb BK289) NB289_0.out (by simp)) (KeepBut.trans (ky HK) hk (.inl rfl)) hb hi ?_
                 clear HO_14 BK289 HK HB HI0
                 intro HO_14 BK289 HK HB HI0
                 (try clear hb)
                 (try clear hb2)
                 (try clear hk)
                 (try clear hi)
                 have p67 : 0 ≤ (x16_36 : Int) := of_decide_eq_true (by first | (with_reducible assumption) | assumption)
                 have q67 : (x16_36 : Int) < ((x14_6.length : Int) : Int) := of_decide_eq_true (by first | (with_reducible assumption) | assumption)
                 obtain ⟨go67, co67, eo67, gb67, gl67, cl67, HG67⟩ := Kd.R_form HO_14.out (by omega)
                 (first | cases eo67 | (injection eo67 with ea_ en_ ec_; (first | subst ea_ | (injection ea_ with ea_; subst ea_)); subst ec_; clear en_))
                 have GB67 := Aside0.mk gb67
                 have GG67 := Aside0.mk HG67
                 clear gb67 gl67 HG67
                 (first | simp only [add_plain] at hx310_0 | skip)
                 obtain ⟨hx67_0, hf67_0⟩ := Kd.R_celln 0 HO_14.out (x16_36 : Int) p67 q67
                 replace p67 := eq_true p67
                 replace q67 := eq_true q67
                 have HN0_go67 := Aside0.mk (show g ≠ go67 from by have h_ := IsS31.own_ne HI0.out HO_14.out (by decide); intro e_; exact h_ (by rw [e_]; rfl))
                 have HP72 := Kd.R_putn HO_14.out (x16_36 : Int) t312
                 rw [← Ny314.out] at HP72
                 have HQ72 := Aside0.mk HP72
                 clear HP72
                 refine hK.out _ _ ⟨bk BK289 0, bk BK289 1, bk BK289 2, bk BK289 3, HS4_⟩ (fun hHeld => ?_)
                 clear hK K
                 refine no 113 ?_
                 refine pu 12 114 (lm 14 8191) HT_ ?_
                 refine last_ (i := 13) (N := none) #[true, true, true, true, true, true, true, true, true, true, true, true, true, true] rfl rfl (one_of HT_.out (by kernel_rfl)) (by decide) (fun K hK => ?_)
                 refine skip_ (w1 := ?_) (by rfl) rfl ?_ ?_
                 rotate_left
                 ·
                  go_simp
                  rfl
                 refine hK.out _ _ ?_
                 clear hK K
                 refine done_ (done_of HT_.out (by kernel_rfl)) ?_
                 try go_wp2
                 go_roundg k6
                 case measure => have := HJ5.out; have := HK2.out; have := HK3.out; have := HJ36.out; have := HJ38.out; have := HK6.out; omega
                 case rel => exact ⟨(y314), (wrap64 (x57_3 + 1)), (t313), (by first | rfl | (simp; done) | (simp [*]; done)), H', ⟨by have := HJ5.out; have := HK2.out; have := HK3.out; have := HJ36.out; have := HJ38.out; have := HK6.out; omega⟩, ⟨kr HQ72⟩, ⟨by (with_reducible repeat (first | refine blk_drewN ?_ _ | refine blk_drew ?_ | refine blk_alloc ?_ _)); refine blk_far ?_ (by have h_ := Kd.R_ne HO_14.out BK289.out (by decide); intro e_; exact h_ (by rw [e_]; rfl)) _; (with_reducible repeat (first | refine blk_drewN ?_ _ | refine blk_drew ?_ | refine blk_alloc ?_ _)); exact BK289.out⟩, ⟨ss31 HI0⟩, ⟨ky HK⟩, ⟨by repeat (first | (with_reducible first | exact HB.out | apply below_alloc | apply pw_below_drewN | apply below_drew1 | refine below_set ?_ (Nat.le_trans HL.out GB67.out) | refine below_set ?_ (IsS31.ge HI0.out) | refine below_set ?_ GE289.out) | exact HB.out)⟩⟩
end Go.Proofs.Ytnjobojkoaknpaa.F
