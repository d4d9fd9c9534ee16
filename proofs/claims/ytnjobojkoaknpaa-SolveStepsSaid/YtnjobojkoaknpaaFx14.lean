-- Written by a program of this seat's session (mkprint), out of the translation.
import Derived.Test.YtnjobojkoaknpaaShort
import Derived.Test.YtnjobojkoaknpaaFx0
import Derived.Test.YtnjobojkoaknpaaFx2
import Derived.Test.YtnjobojkoaknpaaFx10
import Derived.Test.YtnjobojkoaknpaaFx11
import Derived.Test.YtnjobojkoaknpaaFx12
import Derived.Test.YtnjobojkoaknpaaFx13
namespace Go.Proofs.Ytnjobojkoaknpaa.F
open Go.RowKit Go.Proofs.YtnjobojkoaknpaaW.PrintWords Go.Proofs.YtnjobojkoaknpaaW.PrintLast Go.Proofs.YtnjobojkoaknpaaW.PrintMore
attribute [local go_sem] max2_int min2_int max_two min_two max_three min_three max_four min_four   -- for this text's walks alone
set_option linter.unusedVariables false
set_option linter.unusedSimpArgs false

/-! ### gimballaw12_SolveSteps: function 3 -/
mutual
def gimballaw12_SolveSteps.l0 : Nat → Int → Bool → Bool → List Int → List Int → Int → Int → Int → Int → Int → List Int → Int → Int → Option (Bool)
 | 0, _, _, _, _, _, _, _, _, _, _, _, _, _ => none
 | k + 1, x0, x2, x3, x10, x13, x14, x15, x392000, x392001, x392002, x392003, x396000, x397000 => if x15 < x0 then (if x3 = true then (gimballaw12_SolveSteps.l0 k x0 x2 x3 x10 x13 x14 (wrap64 (x15 + 1)) x392000 x392001 x392002 x392003 x396000 x397000) else ((mat_Matrix_At.f x392000 x392001 x392002 x392003 x15 x15).bind fun t402 => ((word_Abs.f t402).bind fun t403 => (if t403 = 0 then (if x14 = 7 then (if (x13.length : Int) = 0 then (some (x396000 == 0)) else (some false)) else (some false)) else (gimballaw12_SolveSteps.l0 k x0 x2 x3 x10 x13 x14 (wrap64 (x15 + 1)) x392000 x392001 x392002 x392003 x396000 x397000))))) else ((some (([] : List Int) : List Int)).bind fun y404 => (if y404.length + x10.length < 17592186044416 then (gimballaw12_SolveSteps.l1 k x0 x2 x3 x13 x14 (y404 ++ x10) 0 x392000 x392001 x392002 x392003 x396000 x397000) else (none)))
def gimballaw12_SolveSteps.l1 : Nat → Int → Bool → Bool → List Int → Int → List Int → Int → Int → Int → Int → List Int → Int → Int → Option (Bool)
 | 0, _, _, _, _, _, _, _, _, _, _, _, _, _ => none
 | k + 1, x0, x2, x3, x13, x14, x16, x17, x392000, x392001, x392002, x392003, x396000, x397000 => if x17 < x0 then (if x2 = true then (gimballaw12_SolveSteps.j2 k x0 x2 x3 x13 x14 x16 x17 (wrap64 ((wrap64 (x0 - 1)) - x17)) x392000 x392001 x392002 x392003 x396000 x397000) else (gimballaw12_SolveSteps.j2 k x0 x2 x3 x13 x14 x16 x17 x17 x392000 x392001 x392002 x392003 x396000 x397000)) else (if x14 = 0 then (if (x13.length : Int) = x0 then (gimballaw12_SolveSteps.j4 k x13 x16 (x396000 != x397000)) else (gimballaw12_SolveSteps.j4 k x13 x16 true)) else (gimballaw12_SolveSteps.j4 k x13 x16 true))
def gimballaw12_SolveSteps.j2 : Nat → Int → Bool → Bool → List Int → Int → List Int → Int → Int → Int → Int → Int → List Int → Int → Int → Option (Bool)
 | 0, _, _, _, _, _, _, _, _, _, _, _, _, _, _ => none
 | k + 1, x0, x2, x3, x13, x14, x16, x17, x18, x392000, x392001, x392002, x392003, x396000, x397000 => gimballaw12_SolveSteps.l2 k x0 x2 x3 x13 x14 x16 x17 x18 0 x392000 x392001 x392002 x392003 x396000 x397000
def gimballaw12_SolveSteps.l2 : Nat → Int → Bool → Bool → List Int → Int → List Int → Int → Int → Int → Int → Int → Int → List Int → Int → Int → Option (Bool)
 | 0, _, _, _, _, _, _, _, _, _, _, _, _, _, _, _ => none
 | k + 1, x0, x2, x3, x13, x14, x16, x17, x18, x19, x392000, x392001, x392002, x392003, x396000, x397000 => if x19 < x0 then ((gimballaw12_in.f x18 x19 x2).bind fun t410 => (if t410 = true then (if 0 ≤ x18 then (if x18 < (x16.length : Int) then ((mat_Matrix_At.f x392000 x392001 x392002 x392003 x18 x19).bind fun t412 => (if 0 ≤ x19 then (if x19 < (x16.length : Int) then ((soft_Calc_Mul.f k x397000 t412 (rd x16 x19)).bind fun bt414 => ((soft_Calc_Sub.f k bt414.2 (rd x16 x18) bt414.1).bind fun bt416 => (gimballaw12_SolveSteps.l2 k x0 x2 x3 x13 x14 (x16.set (x18 : Int).toNat bt416.1) x17 x18 (wrap64 (x19 + 1)) x392000 x392001 x392002 x392003 x396000 bt416.2))) else (none)) else (none))) else (none)) else (none)) else (gimballaw12_SolveSteps.l2 k x0 x2 x3 x13 x14 x16 x17 x18 (wrap64 (x19 + 1)) x392000 x392001 x392002 x392003 x396000 x397000))) else (if x3 = true then (gimballaw12_SolveSteps.l1 k x0 x2 x3 x13 x14 x16 (wrap64 (x17 + 1)) x392000 x392001 x392002 x392003 x396000 x397000) else (if 0 ≤ x18 then (if x18 < (x16.length : Int) then ((mat_Matrix_At.f x392000 x392001 x392002 x392003 x18 x18).bind fun t420 => ((soft_Calc_Div.f k x397000 (rd x16 x18) t420).bind fun bt421 => (gimballaw12_SolveSteps.l1 k x0 x2 x3 x13 x14 (x16.set (x18 : Int).toNat bt421.1) (wrap64 (x17 + 1)) x392000 x392001 x392002 x392003 x396000 bt421.2))) else (none)) else (none)))
def gimballaw12_SolveSteps.j4 : Nat → List Int → List Int → Bool → Option (Bool)
 | 0, _, _, _ => none
 | k + 1, x13, x16, x151 => if x151 = true then (some false) else (gimballaw12_SolveSteps.l3 k x13 x16 (x13.length : Int) 0)
def gimballaw12_SolveSteps.l3 : Nat → List Int → List Int → Int → Int → Option (Bool)
 | 0, _, _, _, _ => none
 | k + 1, x13, x16, x153, x154 => if x154 < x153 then (if 0 ≤ x154 then (if x154 < (x13.length : Int) then (if x154 < (x16.length : Int) then (if (rd x13 x154) = (rd x16 x154) then (gimballaw12_SolveSteps.l3 k x13 x16 x153 (wrap64 (x154 + 1))) else (some false)) else (none)) else (none)) else (none)) else (some true)
end
def gimballaw12_SolveSteps.f (k : Nat) (a0 : Int) (l1 : List Int) (a2 : Bool) (a3 : Bool) : Option (Bool) := (gimballaw12_head.f k).bind fun t384 => (if t384 = true then (if (l1.length : Int) > 100 then (some true) else ((gimballaw12_made.f k (Go.bits .and .i64 a0 7) l1 0).bind fun bt385 => ((gimballaw12_list.f k (Go.bits .and .i64 a0 7) l1 5).bind fun t392 => ((solve_Trsv.f k 0 bt385.1 bt385.2.1 bt385.2.2.1 bt385.2.2.2 a2 a3 t392).bind fun bt397 => (gimballaw12_SolveSteps.l0 k (Go.bits .and .i64 a0 7) a2 a3 t392 bt397.1 bt397.2.1 0 bt385.1 bt385.2.1 bt385.2.2.1 bt385.2.2.2 bt397.2.2 0))))) else (some false))
theorem gimballaw12_SolveSteps.mono_l : ∀ k, (∀ y0 y1 y2 y3 y4 y5 y6 y7 y8 y9 y10 y11 y12, LeO (gimballaw12_SolveSteps.l0 k y0 y1 y2 y3 y4 y5 y6 y7 y8 y9 y10 y11 y12) (gimballaw12_SolveSteps.l0 (k + 1) y0 y1 y2 y3 y4 y5 y6 y7 y8 y9 y10 y11 y12)) ∧ (∀ y0 y1 y2 y3 y4 y5 y6 y7 y8 y9 y10 y11 y12, LeO (gimballaw12_SolveSteps.l1 k y0 y1 y2 y3 y4 y5 y6 y7 y8 y9 y10 y11 y12) (gimballaw12_SolveSteps.l1 (k + 1) y0 y1 y2 y3 y4 y5 y6 y7 y8 y9 y10 y11 y12)) ∧ (∀ y0 y1 y2 y3 y4 y5 y6 y7 y8 y9 y10 y11 y12 y13, LeO (gimballaw12_SolveSteps.j2 k y0 y1 y2 y3 y4 y5 y6 y7 y8 y9 y10 y11 y12 y13) (gimballaw12_SolveSteps.j2 (k + 1) y0 y1 y2 y3 y4 y5 y6 y7 y8 y9 y10 y11 y12 y13)) ∧ (∀ y0 y1 y2 y3 y4 y5 y6 y7 y8 y9 y10 y11 y12 y13 y14, LeO (gimballaw12_SolveSteps.l2 k y0 y1 y2 y3 y4 y5 y6 y7 y8 y9 y10 y11 y12 y13 y14) (gimballaw12_SolveSteps.l2 (k + 1) y0 y1 y2 y3 y4 y5 y6 y7 y8 y9 y10 y11 y12 y13 y14)) ∧ (∀ y0 y1 y2, LeO (gimballaw12_SolveSteps.j4 k y0 y1 y2) (gimballaw12_SolveSteps.j4 (k + 1) y0 y1 y2)) ∧ (∀ y0 y1 y2 y3, LeO (gimballaw12_SolveSteps.l3 k y0 y1 y2 y3) (gimballaw12_SolveSteps.l3 (k + 1) y0 y1 y2 y3))
 | 0 => ⟨fun _ _ _ _ _ _ _ _ _ _ _ _ _ r h => by simp [gimballaw12_SolveSteps.l0] at h, fun _ _ _ _ _ _ _ _ _ _ _ _ _ r h => by simp [gimballaw12_SolveSteps.l1] at h, fun _ _ _ _ _ _ _ _ _ _ _ _ _ _ r h => by simp [gimballaw12_SolveSteps.j2] at h, fun _ _ _ _ _ _ _ _ _ _ _ _ _ _ _ r h => by simp [gimballaw12_SolveSteps.l2] at h, fun _ _ _ r h => by simp [gimballaw12_SolveSteps.j4] at h, fun _ _ _ _ r h => by simp [gimballaw12_SolveSteps.l3] at h⟩
 | k + 1 => by
  obtain ⟨ih0, ih1, ih2, ih3, ih4, ih5⟩ := gimballaw12_SolveSteps.mono_l k
  refine ⟨?_, ?_, ?_, ?_, ?_, ?_⟩ <;> intros <;> (first | unfold gimballaw12_SolveSteps.l0 | unfold gimballaw12_SolveSteps.l1 | unfold gimballaw12_SolveSteps.j2 | unfold gimballaw12_SolveSteps.l2 | unfold gimballaw12_SolveSteps.j4 | unfold gimballaw12_SolveSteps.l3) <;>
   repeat' with_reducible first | apply ih0 | apply ih1 | apply ih2 | apply ih3 | apply ih4 | apply ih5 | apply gimballaw12_head.mono | apply gimballaw12_list.mono | apply gimballaw12_made.mono | apply soft_Calc_Div.mono | apply soft_Calc_Mul.mono | apply soft_Calc_Sub.mono | apply solve_Trsv.mono | exact LeO.refl _ | exact LeO.none _ | refine LeO.ite ?_ ?_ | refine LeO.bind ?_ (fun _ => ?_)
theorem gimballaw12_SolveSteps.mono : ∀ a0 a1 a2 a3 k, LeO (gimballaw12_SolveSteps.f k a0 a1 a2 a3) (gimballaw12_SolveSteps.f (k + 1) a0 a1 a2 a3) := by
 intro a0 a1 a2 a3 k
 obtain ⟨ih0, ih1, ih2, ih3, ih4, ih5⟩ := gimballaw12_SolveSteps.mono_l k
 unfold gimballaw12_SolveSteps.f
 repeat' with_reducible first | apply ih0 | apply ih1 | apply ih2 | apply ih3 | apply ih4 | apply ih5 | apply gimballaw12_head.mono | apply gimballaw12_list.mono | apply gimballaw12_made.mono | apply soft_Calc_Div.mono | apply soft_Calc_Mul.mono | apply soft_Calc_Sub.mono | apply solve_Trsv.mono | exact LeO.refl _ | exact LeO.none _ | refine LeO.ite ?_ ?_ | refine LeO.bind ?_ (fun _ => ?_)
def gimballaw12_SolveSteps.T27 : Bool × List (List Nat × List Nat) := (true, [([], []), ([], []), ([], []), ([], []), ([], []), ([3, 4], [3, 4]), ([5], [5]), ([], []), ([], []), ([], []), ([], []), ([8, 9, 10], [8, 9, 10]), ([], []), ([], []), ([12, 13], [12, 13]), ([14], [14]), ([7, 11, 15, 11], [7, 11, 15]), ([2, 6, 16, 16], [2, 6, 16]), ([0, 1, 0, 1, 2, 3, 4, 5, 6, 7, 8, 9, 10, 11, 12, 13, 14, 15, 16, 17], [0, 1]), ([18, 17, 17, 0, 1, 2, 3, 4, 5, 6, 7, 8, 9, 10, 11, 12, 13, 14, 15, 16, 17], [17, 18])])
def gimballaw12_SolveSteps.B27 : List Nat := [0, 0, 0, 0, 0, 24, 56, 0, 0, 0, 0, 1792, 0, 0, 12288, 28672, 65408, 131068, 262143, 524287]
theorem gimballaw12_SolveSteps.tab27 : rtab .any (opsOf Try.f3 27) = gimballaw12_SolveSteps.T27 := by kernel_rfl
theorem gimballaw12_SolveSteps.bits27 : waitsOk gimballaw12_SolveSteps.T27.2 gimballaw12_SolveSteps.B27 = true := by kernel_rfl
def gimballaw12_SolveSteps.T29 : Bool × List (List Nat × List Nat) := (true, [([], []), ([], []), ([], []), ([], []), ([], []), ([3, 4], [3, 4]), ([5], [5]), ([], []), ([], []), ([], []), ([7, 8, 9], [7, 8, 9]), ([2, 6, 10, 10], [2, 6, 10]), ([0, 1, 0, 1, 2, 3, 4, 5, 6, 7, 8, 9, 10, 11], [0, 1]), ([12, 11, 11, 0, 1, 2, 3, 4, 5, 6, 7, 8, 9, 10, 11], [11, 12])])
def gimballaw12_SolveSteps.B29 : List Nat := [0, 0, 0, 0, 0, 24, 56, 0, 0, 0, 896, 2044, 4095, 8191]
theorem gimballaw12_SolveSteps.tab29 : rtab .any (opsOf Try.f3 29) = gimballaw12_SolveSteps.T29 := by kernel_rfl
theorem gimballaw12_SolveSteps.bits29 : waitsOk gimballaw12_SolveSteps.T29.2 gimballaw12_SolveSteps.B29 = true := by kernel_rfl
def gimballaw12_SolveSteps.T30 : Bool × List (List Nat × List Nat) := (true, [([], []), ([0], [0]), ([1], [1]), ([2], [2]), ([3, 2], [2, 3]), ([2], [2]), ([4, 5, 2], [2, 4, 5]), ([2, 6], [2, 6]), ([7, 2], [7]), ([8], [8]), ([9, 8], [8, 9]), ([10, 8], [8, 10]), ([11, 8], [8, 11]), ([8], [8]), ([13, 8], [8, 13]), ([14, 8], [8, 14]), ([15, 8], [8, 15]), ([12, 16, 8], [8, 12, 16]), ([8, 17], [8, 17])])
def gimballaw12_SolveSteps.B30 : List Nat := [0, 1, 3, 7, 15, 7, 63, 127, 255, 511, 1023, 2047, 4095, 511, 8703, 25087, 57855, 131071, 262143]
theorem gimballaw12_SolveSteps.tab30 : rtab .any (opsOf Try.f3 30) = gimballaw12_SolveSteps.T30 := by kernel_rfl
theorem gimballaw12_SolveSteps.bits30 : waitsOk gimballaw12_SolveSteps.T30.2 gimballaw12_SolveSteps.B30 = true := by kernel_rfl
def gimballaw12_SolveSteps.T35 : Bool × List (List Nat × List Nat) := (true, [([], []), ([], []), ([0, 1], [0, 1]), ([2], [2]), ([], []), ([], []), ([4, 5], [4, 5]), ([6], [6]), ([3, 7], [3, 7])])
def gimballaw12_SolveSteps.B35 : List Nat := [0, 0, 3, 7, 0, 0, 48, 112, 255]
theorem gimballaw12_SolveSteps.tab35 : rtab .any (opsOf Try.f3 35) = gimballaw12_SolveSteps.T35 := by kernel_rfl
theorem gimballaw12_SolveSteps.bits35 : waitsOk gimballaw12_SolveSteps.T35.2 gimballaw12_SolveSteps.B35 = true := by kernel_rfl
set_option maxHeartbeats 8000000 in
set_option maxRecDepth 100000 in
theorem gimballaw12_SolveSteps.calls (k : Nat) (a0 : Int) (A1 : Option Addr) (c1 : Nat) (l1 : List Int) (a2 : Bool) (a3 : Bool) (r : Bool) (w : World) (hr1 : Kd.C (Kd.int .u64) w A1 l1.length l1) (hc1 : l1.length ≤ c1) (hLW : r = true) (h : gimballaw12_SolveSteps.f k a0 l1 a2 a3 = some r) :
  Calls Try.prog 3 #[.int .i64 a0, .slice A1 l1.length c1, .bool a2, .bool a3] w fun e w' => e = .returned (.bool r) ∧ Below w.heap.size w w' := by
 have hu25 := Try.underlying25
 have hu31 := Try.underlying31
 have HR1 := Aside0.mk hr1
 have HC1 := Aside0.mk hc1
 clear hr1 hc1
 have HB := Aside0.mk (Below.refl w.heap.size w)
 have H : ((gimballaw12_head.f k).bind fun t384 => (if t384 = true then (if (l1.length : Int) > 100 then (some true) else ((gimballaw12_made.f k (Go.bits .and .i64 a0 7) l1 0).bind fun bt385 => ((gimballaw12_list.f k (Go.bits .and .i64 a0 7) l1 5).bind fun t392 => ((solve_Trsv.f k 0 bt385.1 bt385.2.1 bt385.2.2.1 bt385.2.2.2 a2 a3 t392).bind fun bt397 => (gimballaw12_SolveSteps.l0 k (Go.bits .and .i64 a0 7) a2 a3 t392 bt397.1 bt397.2.1 0 bt385.1 bt385.2.1 bt385.2.2.1 bt385.2.2.2 bt397.2.2 0))))) else (some false))) = some r := h
 clear h
 obtain ⟨t384, A50, H⟩ := Option.bind_eq_some_iff.mp H
 (try dsimp -simprocs only at H)
 have A5 := Aside0.mk A50
 clear A50
 by_cases c6 : t384 = true
 rotate_left
 ·
  replace c6 := Bool.eq_false_iff.mpr c6
  subst c6
  rw [if_neg (show ¬ (false = true) by decide)] at H
  rw [hLW] at H
  exact absurd H (by simp)

 subst c6
 rw [if_pos rfl] at H
 by_cases c7 : (l1.length : Int) > 100
 ·
  rw [if_pos c7] at H
  have c7b0 : decide (100 < (l1.length : Int)) = true := decide_eq_true c7
  have c7b1 : decide (100 < l1.length) = true := decide_eq_true (by omega)
  clear c7
  obtain rfl := Option.some.inj H
  go_enter Try.func3, Try.ntmps3
  go_wp2_with (first | ((with_reducible refine gate_callee (f := 6) rfl ?_); refine goesL_ (some 21) rfl rfl Try.func6 (by kernel_rfl) rfl #[] rfl ga ?_; (with_reducible refine (gimballaw12_head.calls k  true _ A5.out).mono ?_); rintro e w8 ⟨rfl, hb⟩; refine ⟨_, rfl, ?_⟩; refine ax1 (below_step bel hb) ?_; clear HB; intro HB; (try clear hb)))
  go_ret
  exact ⟨er, bel⟩
 ·
  rw [if_neg c7] at H
  have c7b0 : decide (100 < (l1.length : Int)) = false := decide_eq_false c7
  have c7b1 : decide (100 < l1.length) = false := decide_eq_false (by omega)
  clear c7
  obtain ⟨⟨t385, t386, t387, t388⟩, A90, H⟩ := Option.bind_eq_some_iff.mp H
  (try dsimp -simprocs only at H)
  have A9 := Aside0.mk A90
  clear A90
  obtain ⟨t392, A100, H⟩ := Option.bind_eq_some_iff.mp H
  (try dsimp -simprocs only at H)
  have A10 := Aside0.mk A100
  clear A100
  obtain ⟨⟨t397, t400, t401⟩, A110, H⟩ := Option.bind_eq_some_iff.mp H
  (try dsimp -simprocs only at H)
  have A11 := Aside0.mk A110
  clear A110
  have H' := Aside0.mk H
  clear H
  go_enter Try.func3, Try.ntmps3
  go_wp2_with (first | ((with_reducible refine gate_callee (f := 6) rfl ?_); refine goesL_ (some 21) rfl rfl Try.func6 (by kernel_rfl) rfl #[] rfl ga ?_; (with_reducible refine (gimballaw12_head.calls k  true _ A5.out).mono ?_); rintro e w12 ⟨rfl, hb⟩; refine ⟨_, rfl, ?_⟩; refine ax1 (below_step bel hb) ?_; clear HB; intro HB; (try clear hb)) | ((with_reducible refine gate_callee (f := 7) rfl ?_); refine goesL_ (some 30) rfl rfl Try.func7 (by kernel_rfl) rfl #[.int .i64 (Go.bits .and .i64 a0 7), .slice A1 l1.length c1, .int .i64 0] rfl ga ?_; (with_reducible refine (gimballaw12_made.calls k (Go.bits .and .i64 a0 7) _ _ l1 0 t385 t386 t387 t388 _ ?side1 ?side2 A9.out).mono ?_); (case side1 => repeat (first | exact (Kd.C_below HR1.out HB.out) | (with_reducible refine Kd.C_alloc ?_ _) | (with_reducible refine Kd.C_drewN ?_ _) | (with_reducible refine Kd.C_drew ?_))); (case side2 => exact HC1.out); rintro e w13 ⟨v389, rfl, ho0, hb⟩; refine ⟨_, rfl, ?_⟩; refine ax2 (Kd.R_lower ho0 (below_size bel)) (below_step bel hb) ?_; clear HB; intro HO390 HB; (try clear hb); (try clear ho0)) | ((with_reducible refine gate_dst (N := 9) rfl ?_); refine gbox (N := 9) (cs := #[.int .i64 0, .int .i64 0, .int .i64 0, .slice none 0 0]) (t := 25) ?_; intro gb391 hg w14 hbox hb; refine ax5 (Kd.R_below (kr HO390) hb) (below_step bel hb) hbox ((ge hg : w.heap.size ≤ gb391)) ((ge hg : w.heap.size ≤ gb391)) ?_; clear HO390; clear HB; intro HO390 HB BK391 GW391 GE391; clear hb hbox hg; have hcz15_0 := bc BK391 0 rfl; have hcz15_1 := bc BK391 1 rfl; have hcz15_2 := bc BK391 2 rfl; have hcz15_3 := bc BK391 3 rfl; have hfz15_0 := blk_frozen BK391.out 0; have hfz15_1 := blk_frozen BK391.out 1; have hfz15_2 := blk_frozen BK391.out 2; have hfz15_3 := blk_frozen BK391.out 3; obtain ⟨Ao16, co16, eo16⟩ := Kd.R_slice HO390.out; subst eo16) | ((with_reducible refine gate_callee (f := 8) rfl ?_); refine goesL_ (some 33) rfl rfl Try.func8 (by kernel_rfl) rfl #[.int .i64 (Go.bits .and .i64 a0 7), .slice A1 l1.length c1, .int .i64 5] rfl ga ?_; (with_reducible refine (gimballaw12_list.calls k (Go.bits .and .i64 a0 7) _ _ l1 5 t392 _ ?side1 ?side2 A10.out).mono ?_); (case side1 => exact Kd.C_below HR1.out bes); (case side2 => exact HC1.out); rintro e w17 ⟨v393, rfl, ho0, hb⟩; refine ⟨_, rfl, ?_⟩; refine ax4 (Kd.R_elder' (by (with_reducible repeat (first | apply Kd.R_alloc | apply Kd.R_drewN | apply Kd.R_drew)); exact (Kd.R_mono (Kd.R_far (p := ⟨gb391, 3, none⟩) (Kd.R_far (p := ⟨gb391, 2, none⟩) (Kd.R_far (p := ⟨gb391, 1, none⟩) (Kd.R_far (p := ⟨gb391, 0, none⟩) (Kd.R_types HO390.out BK391.out (by decide)) (fun _ hk => hk.2) (.int .i64 t385)) (fun _ hk => hk.2) (.int .i64 t386)) (fun _ hk => hk.2) (.int .i64 t387)) (fun _ hk => hk.2) (.slice Ao16 t388.length co16)) (fun _ h_ => h_.1))) (Kd.R_base ho0) hb) (Kd.R_lower (Kd.R_new' ho0 (Kd.R_lt (by (with_reducible repeat (first | apply Kd.R_alloc | apply Kd.R_drewN | apply Kd.R_drew)); exact (Kd.R_mono (Kd.R_far (p := ⟨gb391, 3, none⟩) (Kd.R_far (p := ⟨gb391, 2, none⟩) (Kd.R_far (p := ⟨gb391, 1, none⟩) (Kd.R_far (p := ⟨gb391, 0, none⟩) (Kd.R_types HO390.out BK391.out (by decide)) (fun _ hk => hk.2) (.int .i64 t385)) (fun _ hk => hk.2) (.int .i64 t386)) (fun _ hk => hk.2) (.int .i64 t387)) (fun _ hk => hk.2) (.slice Ao16 t388.length co16)) (fun _ h_ => h_.1))))) (below_size bes)) (blk_below (g := gb391) (o := .cells #[.int .i64 t385, .int .i64 t386, .int .i64 t387, .slice Ao16 t388.length co16] 25 (0, 0)) (bp BK391) hb) (below_step bes hb) ?_; clear HO390; clear BK391; clear HB; intro HO390 HO394 BK391 HB; (try clear hb); (try clear ho0)) | ((with_reducible refine gate_dst (N := 35) rfl ?_); refine gbox (N := 35) (cs := #[.int .u8 0]) (t := 31) ?_; intro gb395 hg w18 hbox hb; refine ax9 (Kd.R_below (kr HO390) hb) (Kd.R_below (kr HO394) hb) (bb BK391 hb) (below_step bes hb) ((ge hg : w.heap.size ≤ gb395)) ((ge hg : w.heap.size ≤ gb395)) (nl hg BK391) (ng hg BK391) ((show IsS31 w _ gb395 0 from ⟨hbox, (ge hg : w.heap.size ≤ gb395)⟩)) ?_; clear HO390; clear HO394; clear BK391; clear HB; intro HO390 HO394 BK391 HB GW395 GE395 NB391_395 NB395_391 HI395; clear hb hbox hg) | ((with_reducible refine gate_dst (N := 37) rfl ?_); refine gbox (N := 37) (cs := #[.int .u8 0]) (t := 31) ?_; intro gb396 hg w19 hbox hb; refine ax12 (Kd.R_below (kr HO390) hb) (Kd.R_below (kr HO394) hb) (bb BK391 hb) (IsS31.below (ss31 HI395) hb) (below_step sb31 hb) ((by rw [hg]; exact (below_size sb31) : w.heap.size ≤ gb396)) ((by rw [hg]; exact (below_size sb31) : w.heap.size ≤ gb396)) (nl hg BK391) (ng hg BK391) ((by rw [hg]; exact Nat.ne_of_lt (IsS31.lt (show IsS31 w _ gb395 0 from ss31 HI395)) : gb395 ≠ gb396)) ((by rw [hg]; exact Nat.ne_of_gt (IsS31.lt (show IsS31 w _ gb395 0 from ss31 HI395)) : gb396 ≠ gb395)) ((show IsS31 w _ gb396 0 from ⟨hbox, (by rw [hg]; exact (below_size sb31) : w.heap.size ≤ gb396)⟩)) ?_; clear HO390; clear HO394; clear BK391; clear HI395; clear HB; intro HO390 HO394 BK391 HI395 HB GW396 GE396 NB391_396 NB396_391 NB395_396 NB396_395 HI396; clear hb hbox hg; have hnb20 := NB391_395.out; have hnc20 := NB395_391.out; have hnb21 := NB391_396.out; have hnc21 := NB396_391.out; have hcz22_0 := bc BK391 0 rfl; have hcz22_1 := bc BK391 1 rfl; have hcz22_2 := bc BK391 2 rfl; have hcz22_3 := bc BK391 3 rfl; have hfz22_0 := blk_frozen BK391.out 0; have hfz22_1 := blk_frozen BK391.out 1; have hfz22_2 := blk_frozen BK391.out 2; have hfz22_3 := blk_frozen BK391.out 3; obtain ⟨Ao23, co23, eo23⟩ := Kd.R_slice HO394.out; subst eo23) | ((with_reducible refine gate_callee (f := 9) rfl ?_); refine goesL_ (some 44) rfl rfl Try.func9 (by kernel_rfl) rfl #[.pointer (some ⟨gb395, 0, none⟩), .agg #[.int .i64 t385, .int .i64 t386, .int .i64 t387, .slice Ao16 t388.length co16], .bool a2, .bool a3, .slice Ao23 t392.length co23] rfl ga ?_; (with_reducible refine (solve_Trsv.calls k gb395 0 t385 t386 t387 _ _ t388 a2 a3 _ _ t392 t397 t400 t401 w _ ?side1 ?side2 ?side3 ?side4 ?side5 ?side6 ?side7 ?side8 A11.out).mono ?_); (case side1 => repeat (first | (with_reducible first | exact HI395.out | apply IsS31.alloc | apply IsS31.drewN | apply IsS31.drew | apply IsS31.set_0 | refine IsS31.far ?_ NB395_391.out _ | refine IsS31.far ?_ NB395_396.out _) | exact HI395.out)); (case side2 => repeat (first | (with_reducible first | exact HB.out | apply below_alloc | apply pw_below_drewN | apply below_drew1 | refine below_set ?_ (IsS31.ge HI395.out) | refine below_set ?_ (IsS31.ge HI396.out) | refine below_set ?_ GE391.out) | exact HB.out)); (case side3 => exact ks HO390); (case side4 => exact (Kd.R_reads' HO390.out).2.1); (case side5 => exact far_slice (IsS31.own_ne HI395.out HO390.out (by decide))); (case side6 => exact ks HO394); (case side7 => exact (Kd.R_reads' HO394.out).2.1); (case side8 => exact far_slice (IsS31.own_ne HI395.out HO394.out (by decide))); rintro e w24 ⟨v398, rfl, ho0, hi, hb, hk⟩; refine ⟨_, rfl, ?_⟩; refine ax7 (Kd.R_mono (Kd.R_told (Kd.R_oldK (IsS31.apart (show IsS31 w _ gb395 0 from ss31 HI395) (kr HO390) (by decide)) hk) (Kd.R_base ho0)) (fun _ h_ => h_.1)) (KeepBut.blk hk (g' := gb391) (o := .cells #[.int .i64 t385, .int .i64 t386, .int .i64 t387, .slice Ao16 t388.length co16] 25 (0, 0)) (kb BK391) NB391_395.out (by simp)) (Kd.R_mono (Kd.R_told (Kd.R_oldK (IsS31.apart (show IsS31 w _ gb395 0 from ss31 HI395) (kr HO394) (by decide)) hk) (Kd.R_base ho0)) (fun _ h_ => h_.1)) ((show IsS31 w _ gb396 0 from ⟨KeepBut.blk hk (show IsS31 w _ gb396 0 from ss31 HI396).1 NB396_395.out (by simp), (show IsS31 w _ gb396 0 from ss31 HI396).2⟩)) (Kd.R_lower (Kd.R_new' (Kd.R_new' ho0 (Kd.R_lt (kr HO390))) (Kd.R_lt (kr HO394))) (below_size sb31)) hb hi ?_; clear HO390; clear BK391; clear HO394; clear HI396; clear HB; clear HI395; intro HO390 BK391 HO394 HI396 HO399 HB HI395; (try clear hb); (try clear ho0)))
  go_loopg [15] k (fun kq v15 w' => ∃ (x15_1 : Int), v15 = .int .i64 x15_1 ∧ Aside0 (gimballaw12_SolveSteps.l0 kq (Go.bits .and .i64 a0 7) a2 a3 t392 t397 t400 x15_1 t385 t386 t387 t388 t401 0 = some r) ∧ Aside0 (kq ≤ k) ∧ Aside0 (Kd.R (Kd.int .u64) 35 w' w.heap.size (fun k_ => some k_ ≠ (v398 : Value).ownBlock ∧ some k_ ≠ ((.slice Ao16 t388.length co16) : Value).ownBlock) (.slice Ao23 t392.length co23) t392) ∧ Aside0 (Kd.R (Kd.int .u64) 35 w' w.heap.size (fun k_ => some k_ ≠ ((.slice Ao23 t392.length co23) : Value).ownBlock ∧ some k_ ≠ ((.slice Ao16 t388.length co16) : Value).ownBlock) v398 t397) ∧ Aside0 (Kd.R (Kd.int .u64) 35 w' w.heap.size (fun k_ => some k_ ≠ ((.slice Ao23 t392.length co23) : Value).ownBlock ∧ some k_ ≠ (v398 : Value).ownBlock) (.slice Ao16 t388.length co16) t388) ∧ Aside0 (w'.heap[gb391]? = some (.cells #[.int .i64 t385, .int .i64 t386, .int .i64 t387, (.slice Ao16 t388.length co16)] 25 (0, 0))) ∧ Aside0 (IsS31 w w' gb395 t401) ∧ Aside0 (IsS31 w w' gb396 0) ∧ Aside0 (Below w.heap.size w w'))
  case atStart => exact ⟨(0), (by first | rfl | (simp; done) | (simp [*]; done)), H', ⟨Nat.le_refl _⟩, ⟨by (with_reducible repeat (first | apply Kd.R_alloc | apply Kd.R_drewN | apply Kd.R_drew)); exact Kd.R_mono HO394.out (fun _ hk => ⟨hk.2, hk.1.2⟩)⟩, ⟨by (with_reducible repeat (first | apply Kd.R_alloc | apply Kd.R_drewN | apply Kd.R_drew)); exact Kd.R_mono HO399.out (fun _ hk => ⟨hk.2, hk.1.2⟩)⟩, ⟨by (with_reducible repeat (first | apply Kd.R_alloc | apply Kd.R_drewN | apply Kd.R_drew)); exact Kd.R_mono HO390.out (fun _ hk => ⟨hk.1.2, hk.2⟩)⟩, ⟨kb BK391⟩, ⟨ss31 HI395⟩, ⟨ss31 HI396⟩, ⟨sb31⟩⟩
  case round =>
   clear H'
   try clear c1
   try clear c2
   try clear p2
   try clear c3
   try clear c6
   try clear c7
   try clear c7b0
   try clear c7b1
   try clear c8
   try clear c9
   try clear c20
   try clear c21
   try clear hcz15_0
   try clear hcz15_1
   try clear hcz15_2
   try clear hcz15_3
   try clear hcz22_0
   try clear hcz22_1
   try clear hcz22_2
   try clear hcz22_3
   try clear hfz15_0
   try clear hfz15_1
   try clear hfz15_2
   try clear hfz15_3
   try clear hfz22_0
   try clear hfz22_1
   try clear hfz22_2
   try clear hfz22_3
   obtain ⟨x15_1, rfl, HA, HK1, HO_10, HO_13, HO_392003, BK391, HI395, HI396, HB⟩ := hrel
   cases gk with
   | zero => exact absurd HA.out (by simp [gimballaw12_SolveSteps.l0])
   | succ k1 =>
    have H := HA.out
    clear HA
    simp only [gimballaw12_SolveSteps.l0] at H
    by_cases c25 : x15_1 < (Go.bits .and .i64 a0 7)
    ·
     rw [if_pos c25] at H
     have c25b0 : decide (x15_1 < (Go.bits .and .i64 a0 7)) = true := decide_eq_true c25
     clear c25
     by_cases c26 : a3 = true
     ·
      subst c26
      rw [if_pos rfl] at H
      have H' := Aside0.mk H
      clear H
      go_wp2
      go_roundg k1
      case measure => have := HK1.out; omega
      case rel => exact ⟨(wrap64 (x15_1 + 1)), (by first | rfl | (simp; done) | (simp [*]; done)), H', ⟨by have := HK1.out; omega⟩, ⟨kr HO_10⟩, ⟨kr HO_13⟩, ⟨kr HO_392003⟩, ⟨kb BK391⟩, ⟨ss31 HI395⟩, ⟨ss31 HI396⟩, ⟨sb31⟩⟩
     ·
      replace c26 := Bool.eq_false_iff.mpr c26
      subst c26
      rw [if_neg (show ¬ (false = true) by decide)] at H
      obtain ⟨t402, A270, H⟩ := Option.bind_eq_some_iff.mp H
      (try dsimp -simprocs only at H)
      have A27 := Aside0.mk A270
      clear A270
      obtain ⟨t403, A280, H⟩ := Option.bind_eq_some_iff.mp H
      (try dsimp -simprocs only at H)
      have A28 := Aside0.mk A280
      clear A280
      by_cases c29 : t403 = 0
      ·
       rw [if_pos c29] at H
       have c29b0 : (t403 == 0) = true := beq_iff_eq.mpr c29
       have c29b1 : (t403 != 0) = false := bne_eq_false_iff_eq.mpr c29
       clear c29
       by_cases c30 : t400 = 7
       rotate_left
       ·
        rw [if_neg c30] at H
        have c30b0 : (t400 == 7) = false := beq_eq_false_iff_ne.mpr c30
        have c30b1 : (t400 != 7) = true := bne_iff_ne.mpr c30
        rw [hLW] at H
        exact absurd H (by simp)
       rw [if_pos c30] at H
       have c30b0 : (t400 == 7) = true := beq_iff_eq.mpr c30
       have c30b1 : (t400 != 7) = false := bne_eq_false_iff_eq.mpr c30
       clear c30
       by_cases c31 : (t397.length : Int) = 0
       rotate_left
       ·
        rw [if_neg c31] at H
        have c31b0 : ((t397.length : Int) == 0) = false := beq_eq_false_iff_ne.mpr c31
        have c31b1 : ((t397.length : Int) != 0) = true := bne_iff_ne.mpr c31
        have c31b2 : ¬ (t397 = []) := fun h_ => c31 (by rw [h_]; rfl)
        rw [hLW] at H
        exact absurd H (by simp)
       rw [if_pos c31] at H
       have c31b0 : ((t397.length : Int) == 0) = true := beq_iff_eq.mpr c31
       have c31b1 : ((t397.length : Int) != 0) = false := bne_eq_false_iff_eq.mpr c31
       clear c31
       obtain rfl := Option.some.inj H
       have hnb32 := NB391_395.out
       have hnc32 := NB395_391.out
       have hcz33_0 := bc BK391 0 rfl
       have hcz33_1 := bc BK391 1 rfl
       have hcz33_2 := bc BK391 2 rfl
       have hcz33_3 := bc BK391 3 rfl
       have hfz33_0 := blk_frozen BK391.out 0
       have hfz33_1 := blk_frozen BK391.out 1
       have hfz33_2 := blk_frozen BK391.out 2
       have hfz33_3 := blk_frozen BK391.out 3
       go_wp2_with (first | (go_at_call 11; (with_reducible refine (mat_Matrix_At.calls t385 t386 t387 _ _ t388 x15_1 x15_1 t402 _ ?side1 ?side2 A27.out).mono ?_); (case side1 => exact ks HO_392003); (case side2 => exact (Kd.R_reads' HO_392003.out).2.1); rintro e w34 ⟨rfl, hb⟩; refine ax4 (Kd.R_below (kr HO_13) hb) (Kd.R_below (kr HO_392003) hb) (IsS31.below (ss31 HI395) hb) (below_step sb31 hb) ?_; clear HO_13; clear HO_392003; clear HI395; clear HB; intro HO_13 HO_392003 HI395 HB; (try clear hb)) | (go_at_call 10; (with_reducible refine (word_Abs.calls t402 t403 _ A28.out).mono ?_); rintro e w' ⟨rfl, ⟨nd, rfl⟩⟩; obtain ⟨Ao35, co35, eo35⟩ := Kd.R_slice HO_13.out; subst eo35; obtain ⟨HGz36, hgz36⟩ := HI395.out; have hcz36_0 := cellS31_0 HGz36; have hfz36_0 := blk_frozen HGz36 0; clear HGz36 hgz36))
       go_ret
       exact ⟨er, by repeat (first | (with_reducible first | exact HB.out | apply below_alloc | apply pw_below_drewN | apply below_drew1 | refine below_set ?_ (IsS31.ge HI395.out)) | exact HB.out)⟩
      ·
       rw [if_neg c29] at H
       have c29b0 : (t403 == 0) = false := beq_eq_false_iff_ne.mpr c29
       have c29b1 : (t403 != 0) = true := bne_iff_ne.mpr c29
       have H' := Aside0.mk H
       clear H
       have hnb37 := NB391_395.out
       have hnc37 := NB395_391.out
       have hnb38 := NB391_396.out
       have hnc38 := NB396_391.out
       have hcz39_0 := bc BK391 0 rfl
       have hcz39_1 := bc BK391 1 rfl
       have hcz39_2 := bc BK391 2 rfl
       have hcz39_3 := bc BK391 3 rfl
       have hfz39_0 := blk_frozen BK391.out 0
       have hfz39_1 := blk_frozen BK391.out 1
       have hfz39_2 := blk_frozen BK391.out 2
       have hfz39_3 := blk_frozen BK391.out 3
       go_wp2_with (first | (go_at_call 11; (with_reducible refine (mat_Matrix_At.calls t385 t386 t387 _ _ t388 x15_1 x15_1 t402 _ ?side1 ?side2 A27.out).mono ?_); (case side1 => exact ks HO_392003); (case side2 => exact (Kd.R_reads' HO_392003.out).2.1); rintro e w40 ⟨rfl, hb⟩; refine ax7 (Kd.R_below (kr HO_10) hb) (Kd.R_below (kr HO_13) hb) (Kd.R_below (kr HO_392003) hb) (bb BK391 hb) (IsS31.below (ss31 HI395) hb) (IsS31.below (ss31 HI396) hb) (below_step sb31 hb) ?_; clear HO_10; clear HO_13; clear HO_392003; clear BK391; clear HI395; clear HI396; clear HB; intro HO_10 HO_13 HO_392003 BK391 HI395 HI396 HB; (try clear hb)) | (go_at_call 10; (with_reducible refine (word_Abs.calls t402 t403 _ A28.out).mono ?_); rintro e w' ⟨rfl, ⟨nd, rfl⟩⟩))
       go_roundg k1
       case measure => have := HK1.out; omega
       case rel => exact ⟨(wrap64 (x15_1 + 1)), (by first | rfl | (simp; done) | (simp [*]; done)), H', ⟨by have := HK1.out; omega⟩, ⟨kr HO_10⟩, ⟨kr HO_13⟩, ⟨kr HO_392003⟩, ⟨kb BK391⟩, ⟨ss31 HI395⟩, ⟨ss31 HI396⟩, ⟨sb31⟩⟩
    ·
     rw [if_neg c25] at H
     have c25b0 : decide (x15_1 < (Go.bits .and .i64 a0 7)) = false := decide_eq_false c25
     clear c25
     obtain ⟨y404, hy404⟩ : ∃ y_ : List Int, y_ = (([] : List Int)) := ⟨_, rfl⟩
     replace H : (if y404.length + t392.length < 17592186044416 then (gimballaw12_SolveSteps.l1 k1 (Go.bits .and .i64 a0 7) a2 a3 t397 t400 (y404 ++ t392) 0 t385 t386 t387 t388 t401 0) else (none)) = some r := by first | (rw [hy404]; with_reducible exact H) | (have H2_ := (Option.bind_some _ _).symm.trans H; rw [hy404]; with_reducible exact H2_) | (have H2_ := (Option.bind_some _ _).symm.trans H; with_reducible exact H2_) | with_reducible exact H | (rw [hy404]; exact H) | exact H
     have Ny404 := Aside0.mk hy404
     clear hy404
     by_cases c41 : y404.length + t392.length < 17592186044416
     rotate_left
     ·
      rw [if_neg c41] at H
      exact absurd H (by simp)
     rw [if_pos c41] at H
     have LMc41 := Aside0.mk c41
     clear c41
     obtain ⟨y407, hy407⟩ : ∃ y_ : List Int, y_ = (y404 ++ t392) := ⟨_, rfl⟩
     replace H : (gimballaw12_SolveSteps.l1 k1 (Go.bits .and .i64 a0 7) a2 a3 t397 t400 y407 0 t385 t386 t387 t388 t401 0) = some r := by first | (rw [hy407]; with_reducible exact H) | (have H2_ := (Option.bind_some _ _).symm.trans H; rw [hy407]; with_reducible exact H2_) | (have H2_ := (Option.bind_some _ _).symm.trans H; with_reducible exact H2_) | with_reducible exact H | (rw [hy407]; exact H) | exact H
     have Ny407 := Aside0.mk hy407
     clear hy407
     have H' := Aside0.mk H
     clear H
     go_wp2_with (first | ((with_reducible refine gate_dst (N := 76) rfl ?_); refine Kd.R_lit (Kd.int .u64) _ 35 ?hg (N := 76) ?hd (xs := ([] : List Int)) (inner := []) (ok := fun _ => True) (okp := fun _ => True) ?hr ?hp (fun _ hk => hk) trivial (Below.refl _ _) (Nat.le_refl _) (by simp) ?_; (case hd => rfl); (case hg => rfl); (case hr => first | (go_simp; done) | (go_simp; rfl)); (case hp => exact (Reps.none _ _)); intro v405 w42 ho43 hb hg_ hnew_; clear hg_ hnew_; (first | rw [← Ny404.out] at ho43 | (simp only [Int.reduceToNat] at ho43; rw [← Ny404.out] at ho43)); refine ax8 (Kd.R_elder' (kr HO_10) (Kd.R_base ho43) hb) (Kd.R_elder' (kr HO_13) (Kd.R_base ho43) hb) (Kd.R_elder' (kr HO_392003) (Kd.R_base ho43) hb) (Kd.R_lower (Kd.R_new' (Kd.R_new' (Kd.R_new' ho43 (Kd.R_lt (kr HO_10))) (Kd.R_lt (kr HO_13))) (Kd.R_lt (kr HO_392003))) (below_size sb31)) (bb BK391 hb) (IsS31.below (ss31 HI395) hb) (IsS31.below (ss31 HI396) hb) (below_step sb31 hb) ?_; clear HO_10; clear HO_13; clear HO_392003; clear BK391; clear HI395; clear HI396; clear HB; intro HO_10 HO_13 HO_392003 HO406 BK391 HI395 HI396 HB; clear hb ho43) | ((with_reducible refine gate_builtin (b := .append) (xs := #[.tmp 76, .tmp 77]) rfl ?_); at_builtin; refine Kd.R_append_rows (Kd.int .u64) (w0 := w) w.heap.size rfl (.tmp 76) (.tmp 77) 22 35 (.int .u64 0) 8 rfl Try.underlying22 info35 rfl (by decide) (by omega) v405 y404 t392 _ _ _ (fun k_ => some k_ ≠ (.slice Ao23 t392.length co23 : Value).ownBlock ∧ some k_ ≠ (v398 : Value).ownBlock ∧ some k_ ≠ (.slice Ao16 t388.length co16 : Value).ownBlock) (fun _ => False) rfl rfl ?aO ?aR (fun _ _ h => h) (fun _ h => h.elim) ?aF ?aB ?aS ?aL ?_; (case aR => exact ks HO_10); (case aB => exact sb31); (case aF => exact (fun k_ hk => ⟨Kd.fresh' (Kd.R_lt (kr HO_10)) k_ hk, Kd.fresh' (Kd.R_lt (kr HO_13)) k_ hk, Kd.fresh' (Kd.R_lt (kr HO_392003)) k_ hk⟩)); (case aO => exact (km HO406 fun _ hk => ⟨hk.1.1.2, ⟨hk.1.2, hk.2⟩⟩)); (case aS => exact (below_size sb31)); (case aL => have := LMc41.out; omega); intro v408 w44 ho hb hg hat; rw [← Ny407.out] at ho; refine ax8 (Kd.R_after (ok := (fun k_ => some k_ ≠ (v398 : Value).ownBlock ∧ some k_ ≠ (.slice Ao16 t388.length co16 : Value).ownBlock)) (kr HO_10) hg hat) (Kd.R_after (ok := (fun k_ => some k_ ≠ (.slice Ao23 t392.length co23 : Value).ownBlock ∧ some k_ ≠ (.slice Ao16 t388.length co16 : Value).ownBlock)) (kr HO_13) hg hat) (Kd.R_after (ok := (fun k_ => some k_ ≠ (.slice Ao23 t392.length co23 : Value).ownBlock ∧ some k_ ≠ (v398 : Value).ownBlock)) (kr HO_392003) hg hat) (blk_grown (g := gb391) (o := .cells #[.int .i64 t385, .int .i64 t386, .int .i64 t387, .slice Ao16 t388.length co16] 25 (0, 0)) (kb BK391) hg (Kd.R_ne HO406.out BK391.out (by decide))) (IsS31.grown (ss31 HI395) hg (IsS31.own_ne HI395.out HO406.out (by decide))) (IsS31.grown (ss31 HI396) hg (IsS31.own_ne HI396.out HO406.out (by decide))) hb ho ?_; clear HO_10; clear HO_13; clear HO_392003; clear BK391; clear HI395; clear HI396; clear HB; clear HO406; intro HO_10 HO_13 HO_392003 BK391 HI395 HI396 HB HO409; clear ho hb hg hat))
     go_loopg [17] k1 (fun kq v17 w' => ∃ (x16_2 : List Int) (x17_2 : Int) (x397000_2 : Int), v17 = .int .i64 x17_2 ∧ Aside0 (gimballaw12_SolveSteps.l1 kq (Go.bits .and .i64 a0 7) a2 a3 t397 t400 x16_2 x17_2 t385 t386 t387 t388 t401 x397000_2 = some r) ∧ Aside0 (kq ≤ k1) ∧ Aside0 (Kd.R (Kd.int .u64) 35 w' w.heap.size (fun k_ => some k_ ≠ (v408 : Value).ownBlock ∧ some k_ ≠ ((.slice Ao16 t388.length co16) : Value).ownBlock) v398 t397) ∧ Aside0 (Kd.R (Kd.int .u64) 35 w' w.heap.size (fun k_ => some k_ ≠ (v398 : Value).ownBlock ∧ some k_ ≠ ((.slice Ao16 t388.length co16) : Value).ownBlock) v408 x16_2) ∧ Aside0 (Kd.R (Kd.int .u64) 35 w' w.heap.size (fun k_ => some k_ ≠ (v398 : Value).ownBlock ∧ some k_ ≠ (v408 : Value).ownBlock) (.slice Ao16 t388.length co16) t388) ∧ Aside0 (w'.heap[gb391]? = some (.cells #[.int .i64 t385, .int .i64 t386, .int .i64 t387, (.slice Ao16 t388.length co16)] 25 (0, 0))) ∧ Aside0 (IsS31 w w' gb395 t401) ∧ Aside0 (IsS31 w w' gb396 x397000_2) ∧ Aside0 (Below w.heap.size w w'))
     case atStart => exact ⟨(y407), (0), (0), (by first | rfl | (simp; done) | (simp [*]; done)), H', ⟨Nat.le_refl _⟩, ⟨by (with_reducible repeat (first | apply Kd.R_alloc | apply Kd.R_drewN | apply Kd.R_drew)); exact Kd.R_mono HO_13.out (fun _ hk => ⟨hk.2, hk.1.2⟩)⟩, ⟨by (with_reducible repeat (first | apply Kd.R_alloc | apply Kd.R_drewN | apply Kd.R_drew)); exact Kd.R_mono HO409.out (fun _ hk => ⟨hk.2.1, hk.2.2⟩)⟩, ⟨by (with_reducible repeat (first | apply Kd.R_alloc | apply Kd.R_drewN | apply Kd.R_drew)); exact Kd.R_mono HO_392003.out (fun _ hk => ⟨hk.1.2, hk.2⟩)⟩, ⟨kb BK391⟩, ⟨ss31 HI395⟩, ⟨ss31 HI396⟩, ⟨sb31⟩⟩
     case round =>
      clear H'
      try clear c1
      try clear c2
      try clear p2
      try clear c3
      try clear c4
      try clear c6
      try clear p6
      try clear c7
      try clear c7b0
      try clear c7b1
      try clear c8
      try clear c9
      try clear c20
      try clear c21
      try clear c25
      try clear c25b0
      try clear c26
      try clear c29
      try clear c29b0
      try clear c29b1
      try clear c30
      try clear c30b0
      try clear c30b1
      try clear c31
      try clear c31b0
      try clear c31b1
      try clear c31b2
      try clear c32
      try clear c37
      try clear c38
      try clear c41
      try clear hcz15_0
      try clear hcz15_1
      try clear hcz15_2
      try clear hcz15_3
      try clear hcz22_0
      try clear hcz22_1
      try clear hcz22_2
      try clear hcz22_3
      try clear hcz33_0
      try clear hcz33_1
      try clear hcz33_2
      try clear hcz33_3
      try clear hcz36_0
      try clear hcz39_0
      try clear hcz39_1
      try clear hcz39_2
      try clear hcz39_3
      try clear hfz15_0
      try clear hfz15_1
      try clear hfz15_2
      try clear hfz15_3
      try clear hfz22_0
      try clear hfz22_1
      try clear hfz22_2
      try clear hfz22_3
      try clear hfz33_0
      try clear hfz33_1
      try clear hfz33_2
      try clear hfz33_3
      try clear hfz36_0
      try clear hfz39_0
      try clear hfz39_1
      try clear hfz39_2
      try clear hfz39_3
      try clear p2
      obtain ⟨x16_2, x17_2, x397000_2, rfl, HA, HK2, HO_13, HO_16, HO_392003, BK391, HI395, HI396, HB⟩ := hrel
      cases gk with
      | zero => exact absurd HA.out (by simp [gimballaw12_SolveSteps.l1])
      | succ k2 =>
       have H := HA.out
       clear HA
       simp only [gimballaw12_SolveSteps.l1] at H
       by_cases c45 : x17_2 < (Go.bits .and .i64 a0 7)
       ·
        rw [if_pos c45] at H
        have c45b0 : decide (x17_2 < (Go.bits .and .i64 a0 7)) = true := decide_eq_true c45
        clear c45
        have HC46 := Aside0.mk H
        clear H
        go_upto_if 85 with (fail)
        go_cut [18] (fun v18 wc => ∃ (kq : Nat) (x18_45 : Int), v18 = .int .i64 x18_45 ∧ Aside0 (gimballaw12_SolveSteps.j2 kq (Go.bits .and .i64 a0 7) a2 a3 t397 t400 x16_2 x17_2 x18_45 t385 t386 t387 t388 t401 x397000_2 = some r) ∧ Aside0 (kq ≤ k2) ∧ Aside0 (Kd.R (Kd.int .u64) 35 wc w.heap.size (fun k_ => some k_ ≠ (v408 : Value).ownBlock ∧ some k_ ≠ ((.slice Ao16 t388.length co16) : Value).ownBlock) v398 t397) ∧ Aside0 (Kd.R (Kd.int .u64) 35 wc w.heap.size (fun k_ => some k_ ≠ (v398 : Value).ownBlock ∧ some k_ ≠ ((.slice Ao16 t388.length co16) : Value).ownBlock) v408 x16_2) ∧ Aside0 (Kd.R (Kd.int .u64) 35 wc w.heap.size (fun k_ => some k_ ≠ (v398 : Value).ownBlock ∧ some k_ ≠ (v408 : Value).ownBlock) (.slice Ao16 t388.length co16) t388) ∧ Aside0 (wc.heap[gb391]? = some (.cells #[.int .i64 t385, .int .i64 t386, .int .i64 t387, (.slice Ao16 t388.length co16)] 25 (0, 0))) ∧ Aside0 (IsS31 w wc gb395 t401) ∧ Aside0 (IsS31 w wc gb396 x397000_2) ∧ Aside0 (Below w.heap.size w wc))
        case first =>
         have H := HC46.out
         clear HC46
         by_cases c47 : a2 = true
         ·
          subst c47
          rw [if_pos rfl] at H
          have H' := Aside0.mk H
          clear H
          go_wp2
          go_meet
          case rel => exact ⟨_, (wrap64 ((wrap64 ((Go.bits .and .i64 a0 7) - 1)) - x17_2)), (by first | rfl | (simp; done) | (simp [*]; done)), H', ⟨by have := HK1.out; have := HK2.out; first | omega | exact Nat.le_refl _⟩, ⟨kr HO_13⟩, ⟨kr HO_16⟩, ⟨kr HO_392003⟩, ⟨kb BK391⟩, ⟨ss31 HI395⟩, ⟨ss31 HI396⟩, ⟨sb31⟩⟩
         ·
          replace c47 := Bool.eq_false_iff.mpr c47
          subst c47
          rw [if_neg (show ¬ (false = true) by decide)] at H
          have H' := Aside0.mk H
          clear H
          go_wp2
          go_meet
          case rel => exact ⟨_, (x17_2), (by first | rfl | (simp; done) | (simp [*]; done)), H', ⟨by have := HK1.out; have := HK2.out; first | omega | exact Nat.le_refl _⟩, ⟨kr HO_13⟩, ⟨kr HO_16⟩, ⟨kr HO_392003⟩, ⟨kb BK391⟩, ⟨ss31 HI395⟩, ⟨ss31 HI396⟩, ⟨sb31⟩⟩
        case rest =>
         clear HC46
         try clear c1
         try clear c2
         try clear p2
         try clear c3
         try clear c4
         try clear c6
         try clear p6
         try clear c7
         try clear c7b0
         try clear c7b1
         try clear c8
         try clear c9
         try clear c20
         try clear c21
         try clear c25
         try clear c25b0
         try clear c26
         try clear c29
         try clear c29b0
         try clear c29b1
         try clear c30
         try clear c30b0
         try clear c30b1
         try clear c31
         try clear c31b0
         try clear c31b1
         try clear c31b2
         try clear c32
         try clear c37
         try clear c38
         try clear c41
         try clear c45
         try clear c45b0
         try clear c47
         try clear hcz15_0
         try clear hcz15_1
         try clear hcz15_2
         try clear hcz15_3
         try clear hcz22_0
         try clear hcz22_1
         try clear hcz22_2
         try clear hcz22_3
         try clear hcz33_0
         try clear hcz33_1
         try clear hcz33_2
         try clear hcz33_3
         try clear hcz36_0
         try clear hcz39_0
         try clear hcz39_1
         try clear hcz39_2
         try clear hcz39_3
         try clear hfz15_0
         try clear hfz15_1
         try clear hfz15_2
         try clear hfz15_3
         try clear hfz22_0
         try clear hfz22_1
         try clear hfz22_2
         try clear hfz22_3
         try clear hfz33_0
         try clear hfz33_1
         try clear hfz33_2
         try clear hfz33_3
         try clear hfz36_0
         try clear hfz39_0
         try clear hfz39_1
         try clear hfz39_2
         try clear hfz39_3
         try clear p2
         try clear p6
         obtain ⟨kq, x18_45, rfl, HA, HJ45, HO_13, HO_16, HO_392003, BK391, HI395, HI396, HB⟩ := hcut
         cases kq with
         | zero => exact absurd HA.out (by simp [gimballaw12_SolveSteps.j2])
         | succ kj45 =>
          have H := HA.out
          clear HA
          simp only [gimballaw12_SolveSteps.j2] at H
          have H' := Aside0.mk H
          clear H
          go_wp2
          go_loopg [19] kj45 (fun kq v19 w' => ∃ (x16_4 : List Int) (x19_4 : Int) (x397000_4 : Int), v19 = .int .i64 x19_4 ∧ Aside0 (gimballaw12_SolveSteps.l2 kq (Go.bits .and .i64 a0 7) a2 a3 t397 t400 x16_4 x17_2 x18_45 x19_4 t385 t386 t387 t388 t401 x397000_4 = some r) ∧ Aside0 (kq ≤ kj45) ∧ Aside0 (Kd.R (Kd.int .u64) 35 w' w.heap.size (fun k_ => some k_ ≠ (v408 : Value).ownBlock ∧ some k_ ≠ ((.slice Ao16 t388.length co16) : Value).ownBlock) v398 t397) ∧ Aside0 (Kd.R (Kd.int .u64) 35 w' w.heap.size (fun k_ => some k_ ≠ (v398 : Value).ownBlock ∧ some k_ ≠ ((.slice Ao16 t388.length co16) : Value).ownBlock) v408 x16_4) ∧ Aside0 (Kd.R (Kd.int .u64) 35 w' w.heap.size (fun k_ => some k_ ≠ (v398 : Value).ownBlock ∧ some k_ ≠ (v408 : Value).ownBlock) (.slice Ao16 t388.length co16) t388) ∧ Aside0 (w'.heap[gb391]? = some (.cells #[.int .i64 t385, .int .i64 t386, .int .i64 t387, (.slice Ao16 t388.length co16)] 25 (0, 0))) ∧ Aside0 (IsS31 w w' gb395 t401) ∧ Aside0 (IsS31 w w' gb396 x397000_4) ∧ Aside0 (Below w.heap.size w w'))
          case atStart => exact ⟨(x16_2), (0), (x397000_2), (by first | rfl | (simp; done) | (simp [*]; done)), H', ⟨Nat.le_refl _⟩, ⟨kr HO_13⟩, ⟨kr HO_16⟩, ⟨kr HO_392003⟩, ⟨kb BK391⟩, ⟨ss31 HI395⟩, ⟨ss31 HI396⟩, ⟨sb31⟩⟩
          case round =>
           clear H'
           try clear c1
           try clear c2
           try clear p2
           try clear c3
           try clear c4
           try clear c6
           try clear p6
           try clear c7
           try clear c7b0
           try clear c7b1
           try clear c8
           try clear c9
           try clear c20
           try clear c21
           try clear c25
           try clear c25b0
           try clear c26
           try clear c29
           try clear c29b0
           try clear c29b1
           try clear c30
           try clear c30b0
           try clear c30b1
           try clear c31
           try clear c31b0
           try clear c31b1
           try clear c31b2
           try clear c32
           try clear c37
           try clear c38
           try clear c41
           try clear c45
           try clear c45b0
           try clear c47
           try clear hcz15_0
           try clear hcz15_1
           try clear hcz15_2
           try clear hcz15_3
           try clear hcz22_0
           try clear hcz22_1
           try clear hcz22_2
           try clear hcz22_3
           try clear hcz33_0
           try clear hcz33_1
           try clear hcz33_2
           try clear hcz33_3
           try clear hcz36_0
           try clear hcz39_0
           try clear hcz39_1
           try clear hcz39_2
           try clear hcz39_3
           try clear hfz15_0
           try clear hfz15_1
           try clear hfz15_2
           try clear hfz15_3
           try clear hfz22_0
           try clear hfz22_1
           try clear hfz22_2
           try clear hfz22_3
           try clear hfz33_0
           try clear hfz33_1
           try clear hfz33_2
           try clear hfz33_3
           try clear hfz36_0
           try clear hfz39_0
           try clear hfz39_1
           try clear hfz39_2
           try clear hfz39_3
           try clear p2
           try clear p6
           obtain ⟨x16_4, x19_4, x397000_4, rfl, HA, HK4, HO_13, HO_16, HO_392003, BK391, HI395, HI396, HB⟩ := hrel
           cases gk with
           | zero => exact absurd HA.out (by simp [gimballaw12_SolveSteps.l2])
           | succ k4 =>
            have H := HA.out
            clear HA
            simp only [gimballaw12_SolveSteps.l2] at H
            by_cases c48 : x19_4 < (Go.bits .and .i64 a0 7)
            ·
             rw [if_pos c48] at H
             have c48b0 : decide (x19_4 < (Go.bits .and .i64 a0 7)) = true := decide_eq_true c48
             clear c48
             obtain ⟨t410, A490, H⟩ := Option.bind_eq_some_iff.mp H
             (try dsimp -simprocs only at H)
             have A49 := Aside0.mk A490
             clear A490
             by_cases c50 : t410 = true
             rotate_left
             ·
              replace c50 := Bool.eq_false_iff.mpr c50
              subst c50
              rw [if_neg (show ¬ (false = true) by decide)] at H
              have H' := Aside0.mk H
              clear H
              go_wp2_with (first | ((with_reducible refine gate_callee (f := 12) rfl ?_); refine goesL_ (some 98) rfl rfl Try.func12 (by kernel_rfl) rfl #[.int .i64 x18_45, .int .i64 x19_4, .bool a2] rfl ga ?_; (with_reducible refine (gimballaw12_in.calls x18_45 x19_4 a2 false _ A49.out).mono ?_); rintro e w' ⟨rfl, ⟨nd, rfl⟩⟩; refine ⟨_, rfl, ?_⟩))
              go_roundg k4
              case measure => have := HK1.out; have := HK2.out; have := HJ45.out; have := HK4.out; omega
              case rel => exact ⟨(x16_4), (wrap64 (x19_4 + 1)), (x397000_4), (by first | rfl | (simp; done) | (simp [*]; done)), H', ⟨by have := HK1.out; have := HK2.out; have := HJ45.out; have := HK4.out; omega⟩, ⟨kr HO_13⟩, ⟨kr HO_16⟩, ⟨kr HO_392003⟩, ⟨kb BK391⟩, ⟨ss31 HI395⟩, ⟨ss31 HI396⟩, ⟨sb31⟩⟩
             subst c50
             rw [if_pos rfl] at H
             by_cases c51 : 0 ≤ x18_45
             rotate_left
             ·
              rw [if_neg c51] at H
              exact absurd H (by simp)
             rw [if_pos c51] at H
             have c51b0 : decide (0 ≤ x18_45) = true := decide_eq_true c51
             clear c51
             by_cases c52 : x18_45 < (x16_4.length : Int)
             rotate_left
             ·
              rw [if_neg c52] at H
              exact absurd H (by simp)
             rw [if_pos c52] at H
             have c52b0 : decide (x18_45 < (x16_4.length : Int)) = true := decide_eq_true c52
             clear c52
             obtain ⟨t412, A530, H⟩ := Option.bind_eq_some_iff.mp H
             (try dsimp -simprocs only at H)
             have A53 := Aside0.mk A530
             clear A530
             by_cases c54 : 0 ≤ x19_4
             rotate_left
             ·
              rw [if_neg c54] at H
              exact absurd H (by simp)
             rw [if_pos c54] at H
             have c54b0 : decide (0 ≤ x19_4) = true := decide_eq_true c54
             clear c54
             by_cases c55 : x19_4 < (x16_4.length : Int)
             rotate_left
             ·
              rw [if_neg c55] at H
              exact absurd H (by simp)
             rw [if_pos c55] at H
             have c55b0 : decide (x19_4 < (x16_4.length : Int)) = true := decide_eq_true c55
             clear c55
             obtain ⟨⟨t414, t415⟩, A560, H⟩ := Option.bind_eq_some_iff.mp H
             (try dsimp -simprocs only at H)
             have A56 := Aside0.mk A560
             clear A560
             obtain ⟨⟨t416, t417⟩, A570, H⟩ := Option.bind_eq_some_iff.mp H
             (try dsimp -simprocs only at H)
             have A57 := Aside0.mk A570
             clear A570
             obtain ⟨y418, hy418⟩ : ∃ y_ : List Int, y_ = (x16_4.set (x18_45 : Int).toNat t416) := ⟨_, rfl⟩
             replace H : (gimballaw12_SolveSteps.l2 k4 (Go.bits .and .i64 a0 7) a2 a3 t397 t400 y418 x17_2 x18_45 (wrap64 (x19_4 + 1)) t385 t386 t387 t388 t401 t417) = some r := by first | (rw [hy418]; with_reducible exact H) | (have H2_ := (Option.bind_some _ _).symm.trans H; rw [hy418]; with_reducible exact H2_) | (have H2_ := (Option.bind_some _ _).symm.trans H; with_reducible exact H2_) | with_reducible exact H | (rw [hy418]; exact H) | exact H
             have Ny418 := Aside0.mk hy418
             clear hy418
             have H' := Aside0.mk H
             clear H
             try go_wp2_with (first | ((with_reducible refine gate_callee (f := 12) rfl ?_); refine goesL_ (some 98) rfl rfl Try.func12 (by kernel_rfl) rfl #[.int .i64 x18_45, .int .i64 x19_4, .bool a2] rfl ga ?_; (with_reducible refine (gimballaw12_in.calls x18_45 x19_4 a2 true _ A49.out).mono ?_); rintro e w' ⟨rfl, ⟨nd, rfl⟩⟩; refine ⟨_, rfl, ?_⟩; (try (rw [drewN_self wr]; generalize hq_ : World.drewN wr _ = wr; have n0_ : Aside0 (Kd.R (Kd.int .u64) 35 wr w.heap.size (fun k_ => some k_ ≠ (v408 : Value).ownBlock ∧ some k_ ≠ (.slice Ao16 t388.length co16 : Value).ownBlock) v398 t397) := ⟨by rw [← hq_]; exact (kr HO_13)⟩; have n1_ : Aside0 (Kd.R (Kd.int .u64) 35 wr w.heap.size (fun k_ => some k_ ≠ (v398 : Value).ownBlock ∧ some k_ ≠ (.slice Ao16 t388.length co16 : Value).ownBlock) v408 x16_4) := ⟨by rw [← hq_]; exact (kr HO_16)⟩; have n2_ : Aside0 (Kd.R (Kd.int .u64) 35 wr w.heap.size (fun k_ => some k_ ≠ (v398 : Value).ownBlock ∧ some k_ ≠ (v408 : Value).ownBlock) (.slice Ao16 t388.length co16) t388) := ⟨by rw [← hq_]; exact (kr HO_392003)⟩; have n3_ : Aside0 (wr.heap[gb391]? = some (.cells #[.int .i64 t385, .int .i64 t386, .int .i64 t387, .slice Ao16 t388.length co16] 25 (0, 0))) := ⟨by rw [← hq_]; exact (kb BK391)⟩; have n4_ : Aside0 (IsS31 w wr gb395 t401) := ⟨by rw [← hq_]; exact (ss31 HI395)⟩; have n5_ : Aside0 (IsS31 w wr gb396 x397000_4) := ⟨by rw [← hq_]; exact (ss31 HI396)⟩; have n6_ : Aside0 (Below w.heap.size w wr) := ⟨by rw [← hq_]; exact sb31⟩; clear HO_13 HO_16 HO_392003 BK391 HI395 HI396 HB hq_; have HO_13 := n0_; have HO_16 := n1_; have HO_392003 := n2_; have BK391 := n3_; have HI395 := n4_; have HI396 := n5_; have HB := n6_; clear n0_ n1_ n2_ n3_ n4_ n5_ n6_)); obtain ⟨Ao59, co59, eo59⟩ := Kd.R_slice HO_16.out; subst eo59))
             refine ax7 (Kd.R_drew HO_13.out) (Kd.R_drew HO_16.out) (Kd.R_drew HO_392003.out) (blk_drew BK391.out) (IsS31.drew HI395.out) (IsS31.drew HI396.out) (below_drew1 HB.out) ?_
             clear HO_13 HO_16 HO_392003 BK391 HI395 HI396 HB
             intro HO_13 HO_16 HO_392003 BK391 HI395 HI396 HB
             have p411 : 0 ≤ (x18_45 : Int) := of_decide_eq_true (by first | (with_reducible assumption) | assumption)
             have q411 : x18_45 < (x16_4.length : Int) := of_decide_eq_true (by first | (with_reducible assumption) | assumption)
             obtain ⟨ad411, e411, hx411_0⟩ := Kd.at_int (Kd.R_reads' HO_16.out).2.2 x18_45 p411 q411
             cases e411
             replace p411 := eq_true p411
             replace q411 := eq_true q411
             have p413 : 0 ≤ (x19_4 : Int) := of_decide_eq_true (by first | (with_reducible assumption) | assumption)
             have q413 : x19_4 < (x16_4.length : Int) := of_decide_eq_true (by first | (with_reducible assumption) | assumption)
             obtain ⟨ad413, e413, hx413_0⟩ := Kd.at_int (Kd.R_reads' HO_16.out).2.2 x19_4 p413 q413
             obtain rfl : ad411 = ad413 := (by injection e413)
             replace p413 := eq_true p413
             replace q413 := eq_true q413
             refine start_ (n := 20) (S := fun w' => w'.cell? ⟨gb391, 0, none⟩ = some (.int .i64 t385) ∧ w'.cell? ⟨gb391, 1, none⟩ = some (.int .i64 t386) ∧ w'.cell? ⟨gb391, 2, none⟩ = some (.int .i64 t387) ∧ w'.cell? ⟨gb391, 3, none⟩ = some (.slice Ao16 t388.length co16) ∧ w'.cell? (ad411.add (x18_45).toNat) = some (.int .u64 (rd x16_4 x18_45)) ∧ w'.cell? (ad411.add (x19_4).toNat) = some (.int .u64 (rd x16_4 x19_4))) (ds := [19]) #[false, false, false, false, false, false, false, false, false, false, false, false, false, false, false, false, false, false, false, false] (by kernel_rfl) rfl rfl ⟨bk BK391 0, bk BK391 1, bk BK391 2, bk BK391 3, hx411_0, hx413_0⟩ (fun hHeld => ?_); refine with_tabW gimballaw12_SolveSteps.tab27 gimballaw12_SolveSteps.bits27 (fun HT_ HW_ => ?_)
             generalize wr.drew = w60 at HO_13 HO_16 HO_392003 BK391 HI395 HI396 HB hx411_0 hx413_0 hHeld ⊢
             refine pu 0 99 (lm 20 1) HT_ ?_
             refine pu 1 100 (lm 20 3) HT_ ?_
             refine pu 2 101 (lm 20 7) HT_ ?_
             refine pu 3 102 (lm 20 15) HT_ ?_
             refine pu 4 103 (lm 20 31) HT_ ?_
             refine pu 5 104 (lm 20 63) HT_ ?_
             refine pu 7 106 (lm 20 191) HT_ ?_
             refine pu 9 108 (lm 20 703) HT_ ?_
             refine pu 10 109 (lm 20 1727) HT_ ?_
             refine pu 12 111 (lm 20 5823) HT_ ?_
             refine pu 13 112 (lm 20 14015) HT_ ?_
             refine pu 14 113 (lm 20 30399) HT_ ?_
             refine ta 6 105 (lm 20 30463) HT_ HW_ hHeld ?_
             refine ta 8 107 (lm 20 30719) HT_ HW_ hHeld ?_
             refine ta 15 114 (lm 20 63487) HT_ HW_ hHeld ?_
             refine on 11 (some 110) (lm 20 65535) HT_ (fun K hK => ?_)
             refine goes_ Try.func11 (by kernel_rfl) rfl #[.agg #[.int .i64 t385, .int .i64 t386, .int .i64 t387, .slice Ao16 t388.length co16], .int .i64 x18_45, .int .i64 x19_4] (by rfl) rfl rfl ga ?_
             with_reducible refine (mat_Matrix_At.calls t385 t386 t387 _ _ t388 x18_45 x19_4 t412 _ ?side1 ?side2 A53.out).mono ?_
             (case side1 => exact ks HO_392003)
             (case side2 => exact (Kd.R_reads' HO_392003.out).2.1)
             rintro e w61 ⟨rfl, hb⟩
             have HS4_ := (hb.cell (World.block_lt_of_cell? _ _ (hHeld.2.2.2.2.1))).trans (hHeld.2.2.2.2.1)
             have HS5_ := (hb.cell (World.block_lt_of_cell? _ _ (hHeld.2.2.2.2.2))).trans (hHeld.2.2.2.2.2)
             refine ⟨_, rfl, ?_⟩
             refine ax7 (Kd.R_below (kr HO_13) hb) (Kd.R_below (kr HO_16) hb) (Kd.R_below (kr HO_392003) hb) (bb BK391 hb) (IsS31.below (ss31 HI395) hb) (IsS31.below (ss31 HI396) hb) (below_step sb31 hb) ?_
             clear HO_13 HO_16 HO_392003 BK391 HI395 HI396 HB
             intro HO_13 HO_16 HO_392003 BK391 HI395 HI396 HB
             (try clear hb)
             (try clear hb2)
             (try clear hk)
             (try clear hi)
             refine hK.out _ _ ⟨bk BK391 0, bk BK391 1, bk BK391 2, bk BK391 3, HS4_, HS5_⟩ (fun hHeld => ?_)
             clear hK K
             refine no 110 ?_
             refine on 16 (some 115) (lm 20 131071) HT_ (fun K hK => ?_)
             refine goes_ Try.func14 (by kernel_rfl) rfl #[.pointer (some ⟨gb396, 0, none⟩), .int .u64 t412, .int .u64 (rd x16_4 x19_4)] (by rfl) rfl rfl ga ?_
             with_reducible refine (soft_Calc_Mul.calls k4 gb396 x397000_4 t412 (rd x16_4 x19_4) t414 t415 w _ ?side1 ?side2 A56.out).mono ?_
             (case side1 => repeat (first | (with_reducible first | exact HI396.out | apply IsS31.alloc | apply IsS31.drewN | apply IsS31.drew | apply IsS31.set_0 | refine IsS31.far ?_ NB396_391.out _ | refine IsS31.far ?_ NB396_395.out _) | exact HI396.out))
             (case side2 => repeat (first | (with_reducible first | exact HB.out | apply below_alloc | apply pw_below_drewN | apply below_drew1 | refine below_set ?_ (IsS31.ge HI395.out) | refine below_set ?_ (IsS31.ge HI396.out) | refine below_set ?_ GE391.out) | exact HB.out))
             rintro e w62 ⟨rfl, hi, hb, hk⟩
             have HS4_ := keep_cell hk (hHeld.2.2.2.2.1) (by first | (rw [add_block]; exact Kd.own_blk (IsS31.own_ne HI396.out HO_16.out (by decide))) | (show (Addr.add _ _).block ≠ _; rw [add_block]; exact Kd.own_blk (IsS31.own_ne HI396.out HO_16.out (by decide))) | exact Kd.own_blk (IsS31.own_ne HI396.out HO_16.out (by decide)))
             have HS5_ := keep_cell hk (hHeld.2.2.2.2.2) (by first | (rw [add_block]; exact Kd.own_blk (IsS31.own_ne HI396.out HO_16.out (by decide))) | (show (Addr.add _ _).block ≠ _; rw [add_block]; exact Kd.own_blk (IsS31.own_ne HI396.out HO_16.out (by decide))) | exact Kd.own_blk (IsS31.own_ne HI396.out HO_16.out (by decide)))
             refine ⟨_, rfl, ?_⟩
             refine ax7 (Kd.R_mono (Kd.R_keep (IsS31.apart (show IsS31 w _ gb396 x397000_4 from ss31 HI396) (kr HO_13) (by decide)) hk (fun _ h => h.2)) (fun _ h => h.1)) (Kd.R_mono (Kd.R_keep (IsS31.apart (show IsS31 w _ gb396 x397000_4 from ss31 HI396) (kr HO_16) (by decide)) hk (fun _ h => h.2)) (fun _ h => h.1)) (Kd.R_mono (Kd.R_keep (IsS31.apart (show IsS31 w _ gb396 x397000_4 from ss31 HI396) (kr HO_392003) (by decide)) hk (fun _ h => h.2)) (fun _ h => h.1)) (KeepBut.blk hk (g' := gb391) (o := .cells #[.int .i64 t385, .int .i64 t386, .int .i64 t387, .slice Ao16 t388.length co16] 25 (0, 0)) (kb BK391) NB391_396.out (by simp)) ((show IsS31 w _ gb395 t401 from ⟨KeepBut.blk hk (show IsS31 w _ gb395 t401 from ss31 HI395).1 NB395_396.out (by simp), (show IsS31 w _ gb395 t401 from ss31 HI395).2⟩)) hb hi ?_
             clear HO_13 HO_16 HO_392003 BK391 HI395 HB HI396
             intro HO_13 HO_16 HO_392003 BK391 HI395 HB HI396
             (try clear hb)
             (try clear hb2)
             (try clear hk)
             (try clear hi)
             refine hK.out _ _ ⟨bk BK391 0, bk BK391 1, bk BK391 2, bk BK391 3, HS4_, HS5_⟩ (fun hHeld => ?_)
             clear hK K
             refine no 115 ?_
             refine on 17 (some 116) (lm 20 262143) HT_ (fun K hK => ?_)
             refine goes_ Try.func13 (by kernel_rfl) rfl #[.pointer (some ⟨gb396, 0, none⟩), .int .u64 (rd x16_4 x18_45), .int .u64 t414] (by rfl) rfl rfl ga ?_
             with_reducible refine (soft_Calc_Sub.calls k4 gb396 t415 (rd x16_4 x18_45) t414 t416 t417 w _ ?side1 ?side2 A57.out).mono ?_
             (case side1 => repeat (first | (with_reducible first | exact HI396.out | apply IsS31.alloc | apply IsS31.drewN | apply IsS31.drew | apply IsS31.set_0 | refine IsS31.far ?_ NB396_391.out _ | refine IsS31.far ?_ NB396_395.out _) | exact HI396.out))
             (case side2 => repeat (first | (with_reducible first | exact HB.out | apply below_alloc | apply pw_below_drewN | apply below_drew1 | refine below_set ?_ (IsS31.ge HI395.out) | refine below_set ?_ (IsS31.ge HI396.out) | refine below_set ?_ GE391.out) | exact HB.out))
             rintro e w63 ⟨rfl, hi, hb, hk⟩
             have HS4_ := keep_cell hk (hHeld.2.2.2.2.1) (by first | (rw [add_block]; exact Kd.own_blk (IsS31.own_ne HI396.out HO_16.out (by decide))) | (show (Addr.add _ _).block ≠ _; rw [add_block]; exact Kd.own_blk (IsS31.own_ne HI396.out HO_16.out (by decide))) | exact Kd.own_blk (IsS31.own_ne HI396.out HO_16.out (by decide)))
             have HS5_ := keep_cell hk (hHeld.2.2.2.2.2) (by first | (rw [add_block]; exact Kd.own_blk (IsS31.own_ne HI396.out HO_16.out (by decide))) | (show (Addr.add _ _).block ≠ _; rw [add_block]; exact Kd.own_blk (IsS31.own_ne HI396.out HO_16.out (by decide))) | exact Kd.own_blk (IsS31.own_ne HI396.out HO_16.out (by decide)))
             refine ⟨_, rfl, ?_⟩
             refine ax7 (Kd.R_mono (Kd.R_keep (IsS31.apart (show IsS31 w _ gb396 t415 from ss31 HI396) (kr HO_13) (by decide)) hk (fun _ h => h.2)) (fun _ h => h.1)) (Kd.R_mono (Kd.R_keep (IsS31.apart (show IsS31 w _ gb396 t415 from ss31 HI396) (kr HO_16) (by decide)) hk (fun _ h => h.2)) (fun _ h => h.1)) (Kd.R_mono (Kd.R_keep (IsS31.apart (show IsS31 w _ gb396 t415 from ss31 HI396) (kr HO_392003) (by decide)) hk (fun _ h => h.2)) (fun _ h => h.1)) (KeepBut.blk hk (g' := gb391) (o := .cells #[.int .i64 t385, .int .i64 t386, .int .i64 t387, .slice Ao16 t388.length co16] 25 (0, 0)) (kb BK391) NB391_396.out (by simp)) ((show IsS31 w _ gb395 t401 from ⟨KeepBut.blk hk (show IsS31 w _ gb395 t401 from ss31 HI395).1 NB395_396.out (by simp), (show IsS31 w _ gb395 t401 from ss31 HI395).2⟩)) hb hi ?_
             clear HO_13 HO_16 HO_392003 BK391 HI395 HB HI396
             intro HO_13 HO_16 HO_392003 BK391 HI395 HB HI396
             (try clear hb)
             (try clear hb2)
             (try clear hk)
             (try clear hi)
             have p58 : 0 ≤ (x18_45 : Int) := of_decide_eq_true (by first | (with_reducible assumption) | assumption)
             have q58 : (x18_45 : Int) < ((x16_4.length : Int) : Int) := of_decide_eq_true (by first | (with_reducible assumption) | assumption)
             obtain ⟨go58, co58, eo58, gb58, gl58, cl58, HG58⟩ := Kd.R_form HO_16.out (by omega)
             (first | cases eo58 | (injection eo58 with ea_ en_ ec_; (first | subst ea_ | (injection ea_ with ea_; subst ea_)); subst ec_; clear en_))
             have GB58 := Aside0.mk gb58
             have GG58 := Aside0.mk HG58
             clear gb58 gl58 HG58
             (first | simp only [add_plain] at hx411_0 | skip)
             (first | simp only [add_plain] at hx413_0 | skip)
             obtain ⟨hx58_0, hf58_0⟩ := Kd.R_celln 0 HO_16.out (x18_45 : Int) p58 q58
             replace p58 := eq_true p58
             replace q58 := eq_true q58
             have HN395_go58 := Aside0.mk (show gb395 ≠ go58 from by have h_ := IsS31.own_ne HI395.out HO_16.out (by decide); intro e_; exact h_ (by rw [e_]; rfl))
             have HN396_go58 := Aside0.mk (show gb396 ≠ go58 from by have h_ := IsS31.own_ne HI396.out HO_16.out (by decide); intro e_; exact h_ (by rw [e_]; rfl))
             have HP64 := Kd.R_putn HO_16.out (x18_45 : Int) t416
             rw [← Ny418.out] at HP64
             have HQ64 := Aside0.mk HP64
             clear HP64
             refine hK.out _ _ ⟨bk BK391 0, bk BK391 1, bk BK391 2, bk BK391 3, HS4_, HS5_⟩ (fun hHeld => ?_)
             clear hK K
             refine no 116 ?_
             refine pu 18 117 (lm 20 524287) HT_ ?_
             refine last_ (i := 19) (N := none) #[true, true, true, true, true, true, true, true, true, true, true, true, true, true, true, true, true, true, true, true] rfl rfl (one_of HT_.out (by kernel_rfl)) (by decide) (fun K hK => ?_)
             refine skip_ (w1 := ?_) (by rfl) rfl ?_ ?_
             rotate_left
             ·
              go_simp
              rfl
             refine hK.out _ _ ?_
             clear hK K
             refine done_ (done_of HT_.out (by kernel_rfl)) ?_
             try go_wp2
             go_roundg k4
             case measure => have := HK1.out; have := HK2.out; have := HJ45.out; have := HK4.out; omega
             case rel => exact ⟨(y418), (wrap64 (x19_4 + 1)), (t417), (by first | rfl | (simp; done) | (simp [*]; done)), H', ⟨by have := HK1.out; have := HK2.out; have := HJ45.out; have := HK4.out; omega⟩, ⟨by (with_reducible repeat (first | apply Kd.R_alloc | apply Kd.R_drewN | apply Kd.R_drew)); exact Kd.R_mono (Kd.R_far (p := ⟨go58, (x18_45 : Int).toNat, none⟩) (Kd.R_mono HO_13.out (fun k_ hk => (⟨hk, fun e_ => hk.1 (by rw [e_]; rfl)⟩ : _ ∧ k_ ≠ go58))) (fun _ hk => hk.2) (.int .u64 t416)) (fun _ hk => ⟨hk.1.1, hk.1.2⟩)⟩, ⟨kr HQ64⟩, ⟨by (with_reducible repeat (first | apply Kd.R_alloc | apply Kd.R_drewN | apply Kd.R_drew)); exact Kd.R_mono (Kd.R_far (p := ⟨go58, (x18_45 : Int).toNat, none⟩) (Kd.R_mono HO_392003.out (fun k_ hk => (⟨hk, fun e_ => hk.2 (by rw [e_]; rfl)⟩ : _ ∧ k_ ≠ go58))) (fun _ hk => hk.2) (.int .u64 t416)) (fun _ hk => ⟨hk.1.1, hk.1.2⟩)⟩, ⟨by (with_reducible repeat (first | refine blk_drewN ?_ _ | refine blk_drew ?_ | refine blk_alloc ?_ _)); refine blk_far ?_ (by have h_ := Kd.R_ne HO_16.out BK391.out (by decide); intro e_; exact h_ (by rw [e_]; rfl)) _; (with_reducible repeat (first | refine blk_drewN ?_ _ | refine blk_drew ?_ | refine blk_alloc ?_ _)); exact BK391.out⟩, ⟨ss31 HI395⟩, ⟨ss31 HI396⟩, ⟨sb31⟩⟩
            ·
             rw [if_neg c48] at H
             have c48b0 : decide (x19_4 < (Go.bits .and .i64 a0 7)) = false := decide_eq_false c48
             clear c48
             by_cases c65 : a3 = true
             ·
              subst c65
              rw [if_pos rfl] at H
              have H' := Aside0.mk H
              clear H
              go_wp2
              go_roundg k4
              case measure => have := HK1.out; have := HK2.out; have := HJ45.out; have := HK4.out; omega
              case rel => exact ⟨(x16_4), (wrap64 (x17_2 + 1)), (x397000_4), (by first | rfl | (simp; done) | (simp [*]; done)), H', ⟨by have := HK1.out; have := HK2.out; have := HJ45.out; have := HK4.out; omega⟩, ⟨kr HO_13⟩, ⟨kr HO_16⟩, ⟨kr HO_392003⟩, ⟨kb BK391⟩, ⟨ss31 HI395⟩, ⟨ss31 HI396⟩, ⟨sb31⟩⟩
             ·
              replace c65 := Bool.eq_false_iff.mpr c65
              subst c65
              rw [if_neg (show ¬ (false = true) by decide)] at H
              by_cases c66 : 0 ≤ x18_45
              rotate_left
              ·
               rw [if_neg c66] at H
               exact absurd H (by simp)
              rw [if_pos c66] at H
              have c66b0 : decide (0 ≤ x18_45) = true := decide_eq_true c66
              clear c66
              by_cases c67 : x18_45 < (x16_4.length : Int)
              rotate_left
              ·
               rw [if_neg c67] at H
               exact absurd H (by simp)
              rw [if_pos c67] at H
              have c67b0 : decide (x18_45 < (x16_4.length : Int)) = true := decide_eq_true c67
              clear c67
              obtain ⟨t420, A680, H⟩ := Option.bind_eq_some_iff.mp H
              (try dsimp -simprocs only at H)
              have A68 := Aside0.mk A680
              clear A680
              obtain ⟨⟨t421, t422⟩, A690, H⟩ := Option.bind_eq_some_iff.mp H
              (try dsimp -simprocs only at H)
              have A69 := Aside0.mk A690
              clear A690
              obtain ⟨y423, hy423⟩ : ∃ y_ : List Int, y_ = (x16_4.set (x18_45 : Int).toNat t421) := ⟨_, rfl⟩
              replace H : (gimballaw12_SolveSteps.l1 k4 (Go.bits .and .i64 a0 7) a2 false t397 t400 y423 (wrap64 (x17_2 + 1)) t385 t386 t387 t388 t401 t422) = some r := by first | (rw [hy423]; with_reducible exact H) | (have H2_ := (Option.bind_some _ _).symm.trans H; rw [hy423]; with_reducible exact H2_) | (have H2_ := (Option.bind_some _ _).symm.trans H; with_reducible exact H2_) | with_reducible exact H | (rw [hy423]; exact H) | exact H
              have Ny423 := Aside0.mk hy423
              clear hy423
              have H' := Aside0.mk H
              clear H
              obtain ⟨Ao71, co71, eo71⟩ := Kd.R_slice HO_16.out
              subst eo71
              try go_wp2
              refine ax7 (Kd.R_drew HO_13.out) (Kd.R_drew HO_16.out) (Kd.R_drew HO_392003.out) (blk_drew BK391.out) (IsS31.drew HI395.out) (IsS31.drew HI396.out) (below_drew1 HB.out) ?_
              clear HO_13 HO_16 HO_392003 BK391 HI395 HI396 HB
              intro HO_13 HO_16 HO_392003 BK391 HI395 HI396 HB
              have p419 : 0 ≤ (x18_45 : Int) := of_decide_eq_true (by first | (with_reducible assumption) | assumption)
              have q419 : x18_45 < (x16_4.length : Int) := of_decide_eq_true (by first | (with_reducible assumption) | assumption)
              obtain ⟨ad419, e419, hx419_0⟩ := Kd.at_int (Kd.R_reads' HO_16.out).2.2 x18_45 p419 q419
              cases e419
              replace p419 := eq_true p419
              replace q419 := eq_true q419
              refine start_ (n := 14) (S := fun w' => w'.cell? ⟨gb391, 0, none⟩ = some (.int .i64 t385) ∧ w'.cell? ⟨gb391, 1, none⟩ = some (.int .i64 t386) ∧ w'.cell? ⟨gb391, 2, none⟩ = some (.int .i64 t387) ∧ w'.cell? ⟨gb391, 3, none⟩ = some (.slice Ao16 t388.length co16) ∧ w'.cell? (ad419.add (x18_45).toNat) = some (.int .u64 (rd x16_4 x18_45))) (ds := [13]) #[false, false, false, false, false, false, false, false, false, false, false, false, false, false] (by kernel_rfl) rfl rfl ⟨bk BK391 0, bk BK391 1, bk BK391 2, bk BK391 3, hx419_0⟩ (fun hHeld => ?_); refine with_tabW gimballaw12_SolveSteps.tab29 gimballaw12_SolveSteps.bits29 (fun HT_ HW_ => ?_)
              generalize wr.drew = w72 at HO_13 HO_16 HO_392003 BK391 HI395 HI396 HB hx419_0 hHeld ⊢
              refine pu 0 120 (lm 14 1) HT_ ?_
              refine pu 1 121 (lm 14 3) HT_ ?_
              refine pu 2 122 (lm 14 7) HT_ ?_
              refine pu 3 123 (lm 14 15) HT_ ?_
              refine pu 4 124 (lm 14 31) HT_ ?_
              refine pu 5 125 (lm 14 63) HT_ ?_
              refine pu 8 128 (lm 14 319) HT_ ?_
              refine pu 9 129 (lm 14 831) HT_ ?_
              refine ta 6 126 (lm 14 895) HT_ HW_ hHeld ?_
              refine ta 7 127 (lm 14 1023) HT_ HW_ hHeld ?_
              refine on 10 (some 130) (lm 14 2047) HT_ (fun K hK => ?_)
              refine goes_ Try.func11 (by kernel_rfl) rfl #[.agg #[.int .i64 t385, .int .i64 t386, .int .i64 t387, .slice Ao16 t388.length co16], .int .i64 x18_45, .int .i64 x18_45] (by rfl) rfl rfl ga ?_
              with_reducible refine (mat_Matrix_At.calls t385 t386 t387 _ _ t388 x18_45 x18_45 t420 _ ?side1 ?side2 A68.out).mono ?_
              (case side1 => exact ks HO_392003)
              (case side2 => exact (Kd.R_reads' HO_392003.out).2.1)
              rintro e w73 ⟨rfl, hb⟩
              have HS4_ := (hb.cell (World.block_lt_of_cell? _ _ (hHeld.2.2.2.2))).trans (hHeld.2.2.2.2)
              refine ⟨_, rfl, ?_⟩
              refine ax7 (Kd.R_below (kr HO_13) hb) (Kd.R_below (kr HO_16) hb) (Kd.R_below (kr HO_392003) hb) (bb BK391 hb) (IsS31.below (ss31 HI395) hb) (IsS31.below (ss31 HI396) hb) (below_step sb31 hb) ?_
              clear HO_13 HO_16 HO_392003 BK391 HI395 HI396 HB
              intro HO_13 HO_16 HO_392003 BK391 HI395 HI396 HB
              (try clear hb)
              (try clear hb2)
              (try clear hk)
              (try clear hi)
              refine hK.out _ _ ⟨bk BK391 0, bk BK391 1, bk BK391 2, bk BK391 3, HS4_⟩ (fun hHeld => ?_)
              clear hK K
              refine no 130 ?_
              refine on 11 (some 131) (lm 14 4095) HT_ (fun K hK => ?_)
              refine goes_ Try.func15 (by kernel_rfl) rfl #[.pointer (some ⟨gb396, 0, none⟩), .int .u64 (rd x16_4 x18_45), .int .u64 t420] (by rfl) rfl rfl ga ?_
              with_reducible refine (soft_Calc_Div.calls k4 gb396 x397000_4 (rd x16_4 x18_45) t420 t421 t422 w _ ?side1 ?side2 A69.out).mono ?_
              (case side1 => repeat (first | (with_reducible first | exact HI396.out | apply IsS31.alloc | apply IsS31.drewN | apply IsS31.drew | apply IsS31.set_0 | refine IsS31.far ?_ NB396_391.out _ | refine IsS31.far ?_ NB396_395.out _) | exact HI396.out))
              (case side2 => repeat (first | (with_reducible first | exact HB.out | apply below_alloc | apply pw_below_drewN | apply below_drew1 | refine below_set ?_ (IsS31.ge HI395.out) | refine below_set ?_ (IsS31.ge HI396.out) | refine below_set ?_ GE391.out) | exact HB.out))
              rintro e w74 ⟨rfl, hi, hb, hk⟩
              have HS4_ := keep_cell hk (hHeld.2.2.2.2) (by first | (rw [add_block]; exact Kd.own_blk (IsS31.own_ne HI396.out HO_16.out (by decide))) | (show (Addr.add _ _).block ≠ _; rw [add_block]; exact Kd.own_blk (IsS31.own_ne HI396.out HO_16.out (by decide))) | exact Kd.own_blk (IsS31.own_ne HI396.out HO_16.out (by decide)))
              refine ⟨_, rfl, ?_⟩
              refine ax7 (Kd.R_mono (Kd.R_keep (IsS31.apart (show IsS31 w _ gb396 x397000_4 from ss31 HI396) (kr HO_13) (by decide)) hk (fun _ h => h.2)) (fun _ h => h.1)) (Kd.R_mono (Kd.R_keep (IsS31.apart (show IsS31 w _ gb396 x397000_4 from ss31 HI396) (kr HO_16) (by decide)) hk (fun _ h => h.2)) (fun _ h => h.1)) (Kd.R_mono (Kd.R_keep (IsS31.apart (show IsS31 w _ gb396 x397000_4 from ss31 HI396) (kr HO_392003) (by decide)) hk (fun _ h => h.2)) (fun _ h => h.1)) (KeepBut.blk hk (g' := gb391) (o := .cells #[.int .i64 t385, .int .i64 t386, .int .i64 t387, .slice Ao16 t388.length co16] 25 (0, 0)) (kb BK391) NB391_396.out (by simp)) ((show IsS31 w _ gb395 t401 from ⟨KeepBut.blk hk (show IsS31 w _ gb395 t401 from ss31 HI395).1 NB395_396.out (by simp), (show IsS31 w _ gb395 t401 from ss31 HI395).2⟩)) hb hi ?_
              clear HO_13 HO_16 HO_392003 BK391 HI395 HB HI396
              intro HO_13 HO_16 HO_392003 BK391 HI395 HB HI396
              (try clear hb)
              (try clear hb2)
              (try clear hk)
              (try clear hi)
              have p70 : 0 ≤ (x18_45 : Int) := of_decide_eq_true (by first | (with_reducible assumption) | assumption)
              have q70 : (x18_45 : Int) < ((x16_4.length : Int) : Int) := of_decide_eq_true (by first | (with_reducible assumption) | assumption)
              obtain ⟨go70, co70, eo70, gb70, gl70, cl70, HG70⟩ := Kd.R_form HO_16.out (by omega)
              (first | cases eo70 | (injection eo70 with ea_ en_ ec_; (first | subst ea_ | (injection ea_ with ea_; subst ea_)); subst ec_; clear en_))
              have GB70 := Aside0.mk gb70
              have GG70 := Aside0.mk HG70
              clear gb70 gl70 HG70
              (first | simp only [add_plain] at hx419_0 | skip)
              obtain ⟨hx70_0, hf70_0⟩ := Kd.R_celln 0 HO_16.out (x18_45 : Int) p70 q70
              replace p70 := eq_true p70
              replace q70 := eq_true q70
              have HN395_go70 := Aside0.mk (show gb395 ≠ go70 from by have h_ := IsS31.own_ne HI395.out HO_16.out (by decide); intro e_; exact h_ (by rw [e_]; rfl))
              have HN396_go70 := Aside0.mk (show gb396 ≠ go70 from by have h_ := IsS31.own_ne HI396.out HO_16.out (by decide); intro e_; exact h_ (by rw [e_]; rfl))
              have HP75 := Kd.R_putn HO_16.out (x18_45 : Int) t421
              rw [← Ny423.out] at HP75
              have HQ75 := Aside0.mk HP75
              clear HP75
              refine hK.out _ _ ⟨bk BK391 0, bk BK391 1, bk BK391 2, bk BK391 3, HS4_⟩ (fun hHeld => ?_)
              clear hK K
              refine no 131 ?_
              refine pu 12 132 (lm 14 8191) HT_ ?_
              refine last_ (i := 13) (N := none) #[true, true, true, true, true, true, true, true, true, true, true, true, true, true] rfl rfl (one_of HT_.out (by kernel_rfl)) (by decide) (fun K hK => ?_)
              refine skip_ (w1 := ?_) (by rfl) rfl ?_ ?_
              rotate_left
              ·
               go_simp
               rfl
              refine hK.out _ _ ?_
              clear hK K
              refine done_ (done_of HT_.out (by kernel_rfl)) ?_
              try go_wp2
              go_roundg k4
              case measure => have := HK1.out; have := HK2.out; have := HJ45.out; have := HK4.out; omega
              case rel => exact ⟨(y423), (wrap64 (x17_2 + 1)), (t422), (by first | rfl | (simp; done) | (simp [*]; done)), H', ⟨by have := HK1.out; have := HK2.out; have := HJ45.out; have := HK4.out; omega⟩, ⟨by (with_reducible repeat (first | apply Kd.R_alloc | apply Kd.R_drewN | apply Kd.R_drew)); exact Kd.R_mono (Kd.R_far (p := ⟨go70, (x18_45 : Int).toNat, none⟩) (Kd.R_mono HO_13.out (fun k_ hk => (⟨hk, fun e_ => hk.1 (by rw [e_]; rfl)⟩ : _ ∧ k_ ≠ go70))) (fun _ hk => hk.2) (.int .u64 t421)) (fun _ hk => ⟨hk.1.1, hk.1.2⟩)⟩, ⟨kr HQ75⟩, ⟨by (with_reducible repeat (first | apply Kd.R_alloc | apply Kd.R_drewN | apply Kd.R_drew)); exact Kd.R_mono (Kd.R_far (p := ⟨go70, (x18_45 : Int).toNat, none⟩) (Kd.R_mono HO_392003.out (fun k_ hk => (⟨hk, fun e_ => hk.2 (by rw [e_]; rfl)⟩ : _ ∧ k_ ≠ go70))) (fun _ hk => hk.2) (.int .u64 t421)) (fun _ hk => ⟨hk.1.1, hk.1.2⟩)⟩, ⟨by (with_reducible repeat (first | refine blk_drewN ?_ _ | refine blk_drew ?_ | refine blk_alloc ?_ _)); refine blk_far ?_ (by have h_ := Kd.R_ne HO_16.out BK391.out (by decide); intro e_; exact h_ (by rw [e_]; rfl)) _; (with_reducible repeat (first | refine blk_drewN ?_ _ | refine blk_drew ?_ | refine blk_alloc ?_ _)); exact BK391.out⟩, ⟨ss31 HI395⟩, ⟨ss31 HI396⟩, ⟨sb31⟩⟩
       ·
        rw [if_neg c45] at H
        have c45b0 : decide (x17_2 < (Go.bits .and .i64 a0 7)) = false := decide_eq_false c45
        clear c45
        have HC76 := Aside0.mk H
        clear H
        go_upto_region 30 with (fail)
        go_cut [151] (fun v151 wc => ∃ (kq : Nat) (x151_75 : Bool), v151 = .bool x151_75 ∧ Aside0 (gimballaw12_SolveSteps.j4 kq t397 x16_2 x151_75 = some r) ∧ Aside0 (kq ≤ k2) ∧ Aside0 (Kd.R (Kd.int .u64) 35 wc w.heap.size (fun k_ => some k_ ≠ (v408 : Value).ownBlock ∧ some k_ ≠ ((.slice Ao16 t388.length co16) : Value).ownBlock) v398 t397) ∧ Aside0 (Kd.R (Kd.int .u64) 35 wc w.heap.size (fun k_ => some k_ ≠ (v398 : Value).ownBlock ∧ some k_ ≠ ((.slice Ao16 t388.length co16) : Value).ownBlock) v408 x16_2) ∧ Aside0 (Kd.R (Kd.int .u64) 35 wc w.heap.size (fun k_ => some k_ ≠ (v398 : Value).ownBlock ∧ some k_ ≠ (v408 : Value).ownBlock) (.slice Ao16 t388.length co16) t388) ∧ Aside0 (wc.heap[gb391]? = some (.cells #[.int .i64 t385, .int .i64 t386, .int .i64 t387, (.slice Ao16 t388.length co16)] 25 (0, 0))) ∧ Aside0 (Below w.heap.size w wc))
        case first =>
         have H := HC76.out
         clear HC76
         by_cases c77 : t400 = 0
         rotate_left
         ·
          rw [if_neg c77] at H
          have c77b0 : (t400 == 0) = false := beq_eq_false_iff_ne.mpr c77
          have c77b1 : (t400 != 0) = true := bne_iff_ne.mpr c77
          (first | rw [c77b0] | (simp only [i64_w, i32_w]; rw [c77b0]) | skip)
          rw [hLW] at H
          exact absurd H (by cases k2 <;> simp [gimballaw12_SolveSteps.j4])
         rw [if_pos c77] at H
         have c77b0 : (t400 == 0) = true := beq_iff_eq.mpr c77
         have c77b1 : (t400 != 0) = false := bne_eq_false_iff_eq.mpr c77
         clear c77
         (first | rw [c77b0] | (simp only [i64_w, i32_w]; rw [c77b0]) | skip)
         by_cases c78 : (t397.length : Int) = (Go.bits .and .i64 a0 7)
         rotate_left
         ·
          rw [if_neg c78] at H
          have c78b0 : ((t397.length : Int) == (Go.bits .and .i64 a0 7)) = false := beq_eq_false_iff_ne.mpr c78
          have c78b1 : ((t397.length : Int) != (Go.bits .and .i64 a0 7)) = true := bne_iff_ne.mpr c78
          rw [hLW] at H
          exact absurd H (by cases k2 <;> simp [gimballaw12_SolveSteps.j4])
         rw [if_pos c78] at H
         have c78b0 : ((t397.length : Int) == (Go.bits .and .i64 a0 7)) = true := beq_iff_eq.mpr c78
         have c78b1 : ((t397.length : Int) != (Go.bits .and .i64 a0 7)) = false := bne_eq_false_iff_eq.mpr c78
         clear c78
         have H' := Aside0.mk H
         clear H
         try go_wp2
         refine ax7 (Kd.R_drew HO_13.out) (Kd.R_drew HO_16.out) (Kd.R_drew HO_392003.out) (blk_drew BK391.out) (IsS31.drew HI395.out) (IsS31.drew HI396.out) (below_drew1 HB.out) ?_
         clear HO_13 HO_16 HO_392003 BK391 HI395 HI396 HB
         intro HO_13 HO_16 HO_392003 BK391 HI395 HI396 HB
         obtain ⟨Ao80, co80, eo80⟩ := Kd.R_slice HO_13.out
         (first | subst eo80 | (injection eo80 with f1_ f2_ f3_; have f4_ := f1_.symm; have f5_ := f3_.symm; clear f1_ f2_ f3_; subst f4_; subst f5_))
         refine start_ (n := 19) (S := fun w' => w'.cell? ⟨gb395, 0, none⟩ = some (.int .u8 t401) ∧ w'.cell? ⟨gb396, 0, none⟩ = some (.int .u8 x397000_2)) (ds := []) #[false, false, false, false, false, false, false, false, false, false, false, false, false, false, false, false, false, false, false] (by kernel_rfl) rfl rfl ⟨(blk_cell HI395.out.1 0).trans rfl, (blk_cell HI396.out.1 0).trans rfl⟩ (fun hHeld => ?_); refine with_tabW gimballaw12_SolveSteps.tab30 gimballaw12_SolveSteps.bits30 (fun HT_ HW_ => ?_)
         generalize wr.drew = w79 at HO_13 HO_16 HO_392003 BK391 HI395 HI396 HB hHeld ⊢
         refine pu 0 133 (lm 19 1) HT_ ?_
         refine pu 1 134 (lm 19 3) HT_ ?_
         refine pu 2 135 (lm 19 7) HT_ ?_
         refine pu 3 136 (lm 19 15) HT_ ?_
         refine pu 4 137 (lm 19 31) HT_ ?_
         refine pu 5 138 (lm 19 63) HT_ ?_
         refine pu 6 139 (lm 19 127) HT_ ?_
         refine pu 7 140 (lm 19 255) HT_ ?_
         refine pu 8 141 (lm 19 511) HT_ ?_
         refine pu 9 142 (lm 19 1023) HT_ ?_
         refine pu 10 143 (lm 19 2047) HT_ ?_
         refine pu 11 144 (lm 19 4095) HT_ ?_
         refine pu 13 146 (lm 19 12287) HT_ ?_
         refine pu 14 147 (lm 19 28671) HT_ ?_
         refine pu 15 148 (lm 19 61439) HT_ ?_
         refine ta 12 145 (lm 19 65535) HT_ HW_ hHeld ?_
         refine ta 16 149 (lm 19 131071) HT_ HW_ hHeld ?_
         refine pu 17 150 (lm 19 262143) HT_ ?_
         refine pu 18 151 (lm 19 524287) HT_ ?_
         refine done_ (done_of HT_.out (by kernel_rfl)) ?_
         try go_wp2
         go_meet
         case rel => exact ⟨_, ((t401 != x397000_2)), (by first | rfl | (simp; done) | (simp [*]; done)), H', ⟨by have := HK1.out; have := HK2.out; first | omega | exact Nat.le_refl _⟩, ⟨kr HO_13⟩, ⟨kr HO_16⟩, ⟨kr HO_392003⟩, ⟨kb BK391⟩, ⟨sb31⟩⟩
        case rest =>
         clear HC76
         try clear c1
         try clear p2
         try clear c4
         try clear p4
         try clear q4
         try clear hx4
         try clear c5
         try clear p5
         try clear q5
         try clear hx5
         try clear hf5
         try clear c6
         try clear p6
         try clear c7
         try clear p7
         try clear q7
         try clear hx7
         try clear hf7
         try clear c11
         try clear c12
         try clear c13
         try clear c15
         try clear p41
         try clear q41
         try clear hx41
         try clear c45
         try clear c45b0
         try clear c48
         try clear c48b0
         try clear c50
         try clear c51
         try clear c52
         try clear c54
         try clear c55
         try clear p58
         try clear q58
         try clear hx58
         try clear hf58
         try clear p64
         try clear c65
         try clear c66
         try clear c66b0
         try clear c67
         try clear c67b0
         try clear p70
         try clear q70
         try clear hx70
         try clear hf70
         try clear c77
         try clear c77b0
         try clear c77b1
         try clear c78
         try clear c78b0
         try clear c78b1
         try clear hx411_0
         try clear hx413_0
         try clear hx419_0
         try clear hx58_0
         try clear hx70_0
         try clear p419
         try clear p58
         try clear p70
         try clear q419
         try clear q58
         try clear q70
         obtain ⟨kq, x151_75, rfl, HA, HJ75, HO_13, HO_16, HO_392003, BK391, HB⟩ := hcut
         cases kq with
         | zero => exact absurd HA.out (by simp [gimballaw12_SolveSteps.j4])
         | succ kj75 =>
          have H := HA.out
          clear HA
          simp only [gimballaw12_SolveSteps.j4] at H
          by_cases c81 : x151_75 = true
          ·
           subst c81
           rw [if_pos rfl] at H
           rw [hLW] at H
           exact absurd H (by simp)
          ·
           replace c81 := Bool.eq_false_iff.mpr c81
           subst c81
           rw [if_neg (show ¬ (false = true) by decide)] at H
           have H' := Aside0.mk H
           clear H
           obtain ⟨Ao82, co82, eo82⟩ := Kd.R_slice HO_13.out
           subst eo82
           go_wp2
           go_loopg [154] kj75 (fun kq v154 w' => ∃ (x154_4 : Int), v154 = .int .i64 x154_4 ∧ Aside0 (gimballaw12_SolveSteps.l3 kq t397 x16_2 (t397.length : Int) x154_4 = some r) ∧ Aside0 (kq ≤ kj75) ∧ Aside0 (Kd.R (Kd.int .u64) 35 w' w.heap.size (fun k_ => some k_ ≠ (v408 : Value).ownBlock ∧ some k_ ≠ ((.slice Ao16 t388.length co16) : Value).ownBlock) (.slice Ao82 t397.length co82) t397) ∧ Aside0 (Kd.R (Kd.int .u64) 35 w' w.heap.size (fun k_ => some k_ ≠ ((.slice Ao82 t397.length co82) : Value).ownBlock ∧ some k_ ≠ ((.slice Ao16 t388.length co16) : Value).ownBlock) v408 x16_2) ∧ Aside0 (Kd.R (Kd.int .u64) 35 w' w.heap.size (fun k_ => some k_ ≠ ((.slice Ao82 t397.length co82) : Value).ownBlock ∧ some k_ ≠ (v408 : Value).ownBlock) (.slice Ao16 t388.length co16) t388) ∧ Aside0 (w'.heap[gb391]? = some (.cells #[.int .i64 t385, .int .i64 t386, .int .i64 t387, (.slice Ao16 t388.length co16)] 25 (0, 0))) ∧ Aside0 (Below w.heap.size w w'))
           case atStart => exact ⟨(0), (by first | rfl | (simp; done) | (simp [*]; done)), H', ⟨Nat.le_refl _⟩, ⟨kr HO_13⟩, ⟨kr HO_16⟩, ⟨kr HO_392003⟩, ⟨kb BK391⟩, ⟨bes⟩⟩
           case round =>
            clear H'
            try clear c1
            try clear p2
            try clear c4
            try clear p4
            try clear q4
            try clear hx4
            try clear c5
            try clear p5
            try clear q5
            try clear hx5
            try clear hf5
            try clear c6
            try clear p6
            try clear c7
            try clear p7
            try clear q7
            try clear hx7
            try clear hf7
            try clear c8
            try clear c11
            try clear c12
            try clear c13
            try clear c15
            try clear p41
            try clear q41
            try clear hx41
            try clear c45
            try clear c45b0
            try clear c48
            try clear c48b0
            try clear c50
            try clear c51
            try clear c52
            try clear c54
            try clear c55
            try clear p58
            try clear q58
            try clear hx58
            try clear hf58
            try clear p64
            try clear c65
            try clear c66
            try clear c66b0
            try clear c67
            try clear c67b0
            try clear p70
            try clear q70
            try clear hx70
            try clear hf70
            try clear c77
            try clear c77b0
            try clear c77b1
            try clear c78
            try clear c78b0
            try clear c78b1
            try clear c81
            try clear hx411_0
            try clear hx413_0
            try clear hx419_0
            try clear hx58_0
            try clear hx70_0
            try clear p2
            try clear p4
            try clear p41
            try clear p419
            try clear p5
            try clear p58
            try clear p6
            try clear p64
            try clear p7
            try clear p70
            try clear q4
            try clear q41
            try clear q419
            try clear q5
            try clear q58
            try clear q7
            try clear q70
            obtain ⟨x154_4, rfl, HA, HK4, HO_13, HO_16, HO_392003, BK391, HB⟩ := hrel
            cases gk with
            | zero => exact absurd HA.out (by simp [gimballaw12_SolveSteps.l3])
            | succ k4 =>
             have H := HA.out
             clear HA
             simp only [gimballaw12_SolveSteps.l3] at H
             by_cases c83 : x154_4 < (t397.length : Int)
             rotate_left
             ·
              rw [if_neg c83] at H
              have c83b0 : decide (x154_4 < (t397.length : Int)) = false := decide_eq_false c83
              clear c83
              obtain rfl := Option.some.inj H
              go_wp2
              go_ret
              exact ⟨er, bes⟩
             rw [if_pos c83] at H
             have c83b0 : decide (x154_4 < (t397.length : Int)) = true := decide_eq_true c83
             clear c83
             by_cases c84 : 0 ≤ x154_4
             rotate_left
             ·
              rw [if_neg c84] at H
              exact absurd H (by simp)
             rw [if_pos c84] at H
             have c84b0 : decide (0 ≤ x154_4) = true := decide_eq_true c84
             clear c84
             by_cases c85 : x154_4 < (t397.length : Int)
             rotate_left
             ·
              rw [if_neg c85] at H
              exact absurd H (by simp)
             rw [if_pos c85] at H
             have c85b0 : decide (x154_4 < (t397.length : Int)) = true := decide_eq_true c85
             clear c85
             by_cases c86 : x154_4 < (x16_2.length : Int)
             rotate_left
             ·
              rw [if_neg c86] at H
              exact absurd H (by simp)
             rw [if_pos c86] at H
             have c86b0 : decide (x154_4 < (x16_2.length : Int)) = true := decide_eq_true c86
             clear c86
             by_cases c87 : (rd t397 x154_4) = (rd x16_2 x154_4)
             rotate_left
             ·
              rw [if_neg c87] at H
              have c87b0 : ((rd t397 x154_4) == (rd x16_2 x154_4)) = false := beq_eq_false_iff_ne.mpr c87
              have c87b1 : ((rd t397 x154_4) != (rd x16_2 x154_4)) = true := bne_iff_ne.mpr c87
              rw [hLW] at H
              exact absurd H (by simp)
             rw [if_pos c87] at H
             have c87b0 : ((rd t397 x154_4) == (rd x16_2 x154_4)) = true := beq_iff_eq.mpr c87
             have c87b1 : ((rd t397 x154_4) != (rd x16_2 x154_4)) = false := bne_eq_false_iff_eq.mpr c87
             clear c87
             have H' := Aside0.mk H
             clear H
             try go_wp2
             refine ax5 (Kd.R_drew HO_13.out) (Kd.R_drew HO_16.out) (Kd.R_drew HO_392003.out) (blk_drew BK391.out) (below_drew1 HB.out) ?_
             clear HO_13 HO_16 HO_392003 BK391 HB
             intro HO_13 HO_16 HO_392003 BK391 HB
             have p424 : 0 ≤ (x154_4 : Int) := of_decide_eq_true (by first | (with_reducible assumption) | assumption)
             have q424 : x154_4 < (t397.length : Int) := of_decide_eq_true (by first | (with_reducible assumption) | assumption)
             obtain ⟨ad424, e424, hx424_0⟩ := Kd.at_int (Kd.R_reads' HO_13.out).2.2 x154_4 p424 q424
             cases e424
             replace p424 := eq_true p424
             replace q424 := eq_true q424
             obtain ⟨Ao89, co89, eo89⟩ := Kd.R_slice HO_16.out
             (first | subst eo89 | (injection eo89 with f1_ f2_ f3_; have f4_ := f1_.symm; have f5_ := f3_.symm; clear f1_ f2_ f3_; subst f4_; subst f5_))
             have p425 : 0 ≤ (x154_4 : Int) := of_decide_eq_true (by first | (with_reducible assumption) | assumption)
             have q425 : x154_4 < (x16_2.length : Int) := of_decide_eq_true (by first | (with_reducible assumption) | assumption)
             obtain ⟨ad425, e425, hx425_0⟩ := Kd.at_int (Kd.R_reads' HO_16.out).2.2 x154_4 p425 q425
             cases e425
             replace p425 := eq_true p425
             replace q425 := eq_true q425
             refine start_ (n := 9) (S := fun w' => w'.cell? (ad424.add (x154_4).toNat) = some (.int .u64 (rd t397 x154_4)) ∧ w'.cell? (ad425.add (x154_4).toNat) = some (.int .u64 (rd x16_2 x154_4))) (ds := []) #[false, false, false, false, false, false, false, false, false] (by kernel_rfl) rfl rfl ⟨hx424_0, hx425_0⟩ (fun hHeld => ?_); refine with_tabW gimballaw12_SolveSteps.tab35 gimballaw12_SolveSteps.bits35 (fun HT_ HW_ => ?_)
             generalize wr.drew = w88 at HO_13 HO_16 HO_392003 BK391 HB hx424_0 hx425_0 hHeld ⊢
             refine pu 0 157 (lm 9 1) HT_ ?_
             refine pu 1 158 (lm 9 3) HT_ ?_
             refine pu 2 159 (lm 9 7) HT_ ?_
             refine pu 4 161 (lm 9 23) HT_ ?_
             refine pu 5 162 (lm 9 55) HT_ ?_
             refine pu 6 163 (lm 9 119) HT_ ?_
             refine ta 3 160 (lm 9 127) HT_ HW_ hHeld ?_
             refine ta 7 164 (lm 9 255) HT_ HW_ hHeld ?_
             refine pu 8 165 (lm 9 511) HT_ ?_
             refine done_ (done_of HT_.out (by kernel_rfl)) ?_
             try go_wp2
             go_roundg k4
             case measure => have := HK1.out; have := HK2.out; have := HJ75.out; have := HK4.out; omega
             case rel => exact ⟨(wrap64 (x154_4 + 1)), (by first | rfl | (simp; done) | (simp [*]; done)), H', ⟨by have := HK1.out; have := HK2.out; have := HJ75.out; have := HK4.out; omega⟩, ⟨kr HO_13⟩, ⟨kr HO_16⟩, ⟨kr HO_392003⟩, ⟨kb BK391⟩, ⟨bes⟩⟩
/-- THE ONE PURE STATEMENT of gimballaw12_SolveSteps: yours. -/
def gimballaw12_SolveSteps.Pure : Prop := ∀ (a0 : Int) (l1 : List Int) (a2 : Bool) (a3 : Bool), (Lit.int .i64 a0).wf = true → l1.length ≤ maxLen → l1.length * 8 ≤ 140737488351232 → (∀ x ∈ l1, (Lit.int .u64 x).wf = true) → ∃ k, gimballaw12_SolveSteps.f k a0 l1 a2 a3 = some true
theorem gimballaw12_SolveSteps.walk (P : gimballaw12_SolveSteps.Pure) (a0 : Int) (a1 : Option Addr) (len1 cap1 : Nat) (z1 : List Int) (a2 : Bool) (a3 : Bool) (w : World) (w0 : (Lit.int .i64 a0).wf = true) (w1 : (a1 = none ∧ len1 = 0 ∧ cap1 = 0 ∧ z1 = []) ∨ ∃ x, a1 = some x ∧ len1 ≤ cap1 ∧ cap1 ≤ maxLen ∧ z1.length = cap1 ∧ (∀ i, i < z1.length → w.cell? (x.add i) = some (.int .u64 (z1.getD i 0))) ∧ ∀ n ∈ z1, (Lit.int .u64 n).wf = true) (y1 : len1 * 8 ≤ 140737488351232) :
  Calls Try.prog 3 #[.int .i64 a0, .slice a1 len1 cap1, .bool a2, .bool a3] w fun e w' => e = .returned (.bool true) ∧ Below w.heap.size w w' := by
 obtain ⟨l1, rfl, hr1, hm1, hw1, hc1⟩ := ReadsInt.ofRowC w1
 obtain ⟨k, h⟩ := P a0 l1 a2 a3 w0 hm1 y1 hw1
 refine (gimballaw12_SolveSteps.calls k a0 _ _ l1 a2 a3 true w (Kd.C_of_reads (d := (0 : Int)) (h1 := fun _ => rfl) hr1) hc1 rfl h).mono ?_
 rintro e w' ⟨rfl, hd⟩
 exact ⟨rfl, hd⟩

end Go.Proofs.Ytnjobojkoaknpaa.F
