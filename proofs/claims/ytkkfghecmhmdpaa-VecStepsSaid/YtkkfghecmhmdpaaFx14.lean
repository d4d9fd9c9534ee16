-- Written by a program of this seat's session (mkprint), out of the translation.
import Derived.Test.YtkkfghecmhmdpaaShort
import Derived.Test.YtkkfghecmhmdpaaFx0
import Derived.Test.YtkkfghecmhmdpaaFx2
import Derived.Test.YtkkfghecmhmdpaaFx5
import Derived.Test.YtkkfghecmhmdpaaFx6
import Derived.Test.YtkkfghecmhmdpaaFx7
import Derived.Test.YtkkfghecmhmdpaaFx8
import Derived.Test.YtkkfghecmhmdpaaFx12
import Derived.Test.YtkkfghecmhmdpaaFx13
namespace Go.Proofs.Ytkkfghecmhmdpaa.F
open Go.RowKit Go.Proofs.YtkkfghecmhmdpaaW.PrintWords Go.Proofs.YtkkfghecmhmdpaaW.PrintLast Go.Proofs.YtkkfghecmhmdpaaW.PrintMore
attribute [local go_sem] max2_int min2_int max_two min_two max_three min_three max_four min_four   -- for this text's walks alone
set_option linter.unusedVariables false
set_option linter.unusedSimpArgs false

/-! ### gimballaw10_VecSteps: function 5 -/
mutual
def gimballaw10_VecSteps.j0 : Nat → List Int → List Int → Int → Int → Bool → Option (Bool)
 | 0, _, _, _, _, _ => none
 | k + 1, x0, x1, x2, x3, x32 => if x32 = true then (some true) else ((vec_Dot.f k 0 x0 x1).bind fun bt471 => ((vec_Axpy.f k bt471.2.2 x2 x0 x1).bind fun bt474 => ((vec_Rot.f k bt474.2.2 x0 x1 x2 x3).bind fun bt479 => (if (x0.length : Int) = (x1.length : Int) then (gimballaw10_VecSteps.l0 k x0 x1 x2 x3 bt471.1 bt471.2.1 bt474.1 bt474.2.1 bt479.1 bt479.2.1 bt479.2.2.1 0 (x0.length : Int) 0 bt479.2.2.2 0) else (if bt471.1 = 9221120237041090560 then (if bt471.2.1 = 4 then (if bt474.2.1 = 4 then (if bt479.2.2.1 = 4 then (if (wrap64 ((wrap64 ((bt474.1.length : Int) + (bt479.1.length : Int))) + (bt479.2.1.length : Int))) = 0 then (some (bt479.2.2.2 == 0)) else (some false)) else (some false)) else (some false)) else (some false)) else (some false))))))
def gimballaw10_VecSteps.l0 : Nat → List Int → List Int → Int → Int → Int → Int → List Int → Int → List Int → List Int → Int → Int → Int → Int → Int → Int → Option (Bool)
 | 0, _, _, _, _, _, _, _, _, _, _, _, _, _, _, _, _ => none
 | k + 1, x0, x1, x2, x3, x11, x12, x13, x14, x15, x16, x17, x18, x100, x101, x470000, x471000 => if x101 < x100 then (if 0 ≤ x101 then (if x101 < (x0.length : Int) then (if x101 < (x1.length : Int) then ((soft_Calc_Mul.f k x471000 (rd x0 x101) (rd x1 x101)).bind fun bt489 => ((soft_Calc_Add.f k bt489.2 x18 bt489.1).bind fun bt491 => (gimballaw10_VecSteps.l0 k x0 x1 x2 x3 x11 x12 x13 x14 x15 x16 x17 bt491.1 x100 (wrap64 (x101 + 1)) x470000 bt491.2))) else (none)) else (none)) else (none)) else (if x12 = 0 then (if x14 = 0 then (if x17 = 0 then (if x11 = x18 then (if (x13.length : Int) = (x0.length : Int) then (if (x15.length : Int) = (x0.length : Int) then (gimballaw10_VecSteps.j2 k x0 x1 x2 x3 x13 x15 x16 ((x16.length : Int) != (x0.length : Int)) x470000 x471000) else (gimballaw10_VecSteps.j2 k x0 x1 x2 x3 x13 x15 x16 true x470000 x471000)) else (gimballaw10_VecSteps.j2 k x0 x1 x2 x3 x13 x15 x16 true x470000 x471000)) else (gimballaw10_VecSteps.j2 k x0 x1 x2 x3 x13 x15 x16 true x470000 x471000)) else (gimballaw10_VecSteps.j2 k x0 x1 x2 x3 x13 x15 x16 true x470000 x471000)) else (gimballaw10_VecSteps.j2 k x0 x1 x2 x3 x13 x15 x16 true x470000 x471000)) else (gimballaw10_VecSteps.j2 k x0 x1 x2 x3 x13 x15 x16 true x470000 x471000))
def gimballaw10_VecSteps.j2 : Nat → List Int → List Int → Int → Int → List Int → List Int → List Int → Bool → Int → Int → Option (Bool)
 | 0, _, _, _, _, _, _, _, _, _, _ => none
 | k + 1, x0, x1, x2, x3, x13, x15, x16, x153, x470000, x471000 => if x153 = true then (some false) else (gimballaw10_VecSteps.l1 k x0 x1 x2 x3 x13 x15 x16 (x0.length : Int) 0 x470000 x471000)
def gimballaw10_VecSteps.l1 : Nat → List Int → List Int → Int → Int → List Int → List Int → List Int → Int → Int → Int → Int → Option (Bool)
 | 0, _, _, _, _, _, _, _, _, _, _, _ => none
 | k + 1, x0, x1, x2, x3, x13, x15, x16, x155, x156, x470000, x471000 => if x156 < x155 then (if 0 ≤ x156 then (if x156 < (x13.length : Int) then (if x156 < (x0.length : Int) then ((soft_Calc_Mul.f k x471000 x2 (rd x0 x156)).bind fun bt495 => (if x156 < (x1.length : Int) then ((soft_Calc_Add.f k bt495.2 bt495.1 (rd x1 x156)).bind fun bt498 => (if (rd x13 x156) = bt498.1 then (if x156 < (x15.length : Int) then ((soft_Calc_Mul.f k bt498.2 x2 (rd x0 x156)).bind fun bt502 => ((soft_Calc_Mul.f k bt502.2 x3 (rd x1 x156)).bind fun bt505 => ((soft_Calc_Add.f k bt505.2 bt502.1 bt505.1).bind fun bt507 => (if (rd x15 x156) = bt507.1 then (if x156 < (x16.length : Int) then ((soft_Calc_Mul.f k bt507.2 x2 (rd x1 x156)).bind fun bt511 => ((soft_Calc_Mul.f k bt511.2 x3 (rd x0 x156)).bind fun bt514 => ((soft_Calc_Sub.f k bt514.2 bt511.1 bt514.1).bind fun bt516 => (if (rd x16 x156) = bt516.1 then (gimballaw10_VecSteps.l1 k x0 x1 x2 x3 x13 x15 x16 x155 (wrap64 (x156 + 1)) x470000 bt516.2) else (some false))))) else (none)) else (some false))))) else (none)) else (some false))) else (none))) else (none)) else (none)) else (none)) else ((vec_Scal.f k x470000 x2 x0).bind fun bt518 => (if (bt518.1.length : Int) = (x0.length : Int) then (gimballaw10_VecSteps.l2 k x0 x2 0 bt518.1 (x0.length : Int) 0 bt518.2 x471000) else (some false)))
def gimballaw10_VecSteps.l2 : Nat → List Int → Int → Int → List Int → Int → Int → Int → Int → Option (Bool)
 | 0, _, _, _, _, _, _, _, _ => none
 | k + 1, x0, x2, x18, x21, x234, x235, x470000, x471000 => if x235 < x234 then (if 0 ≤ x235 then (if x235 < (x21.length : Int) then (if x235 < (x0.length : Int) then ((soft_Calc_Mul.f k x471000 x2 (rd x0 x235)).bind fun bt526 => (if (rd x21 x235) = bt526.1 then ((word_Abs.f (rd x0 x235)).bind fun t529 => ((soft_Calc_Add.f k bt526.2 x18 t529).bind fun bt530 => (gimballaw10_VecSteps.l2 k x0 x2 bt530.1 x21 x234 (wrap64 (x235 + 1)) x470000 bt530.2))) else (some false))) else (none)) else (none)) else (none)) else ((vec_Asum.f k x470000 x0).bind fun bt522 => (if bt522.1 = x18 then (some (bt522.2 == x471000)) else (some false)))
end
def gimballaw10_VecSteps.f (k : Nat) (l0 : List Int) (l1 : List Int) (a2 : Int) (a3 : Int) : Option (Bool) := (gimballaw10_head.f k).bind fun t468 => (if t468 = true then (if (l0.length : Int) > 50 then (gimballaw10_VecSteps.j0 k l0 l1 a2 a3 true) else (gimballaw10_VecSteps.j0 k l0 l1 a2 a3 (decide ((l1.length : Int) > 50)))) else (some false))
theorem gimballaw10_VecSteps.mono_l : ∀ k, (∀ y0 y1 y2 y3 y4, LeO (gimballaw10_VecSteps.j0 k y0 y1 y2 y3 y4) (gimballaw10_VecSteps.j0 (k + 1) y0 y1 y2 y3 y4)) ∧ (∀ y0 y1 y2 y3 y4 y5 y6 y7 y8 y9 y10 y11 y12 y13 y14 y15, LeO (gimballaw10_VecSteps.l0 k y0 y1 y2 y3 y4 y5 y6 y7 y8 y9 y10 y11 y12 y13 y14 y15) (gimballaw10_VecSteps.l0 (k + 1) y0 y1 y2 y3 y4 y5 y6 y7 y8 y9 y10 y11 y12 y13 y14 y15)) ∧ (∀ y0 y1 y2 y3 y4 y5 y6 y7 y8 y9, LeO (gimballaw10_VecSteps.j2 k y0 y1 y2 y3 y4 y5 y6 y7 y8 y9) (gimballaw10_VecSteps.j2 (k + 1) y0 y1 y2 y3 y4 y5 y6 y7 y8 y9)) ∧ (∀ y0 y1 y2 y3 y4 y5 y6 y7 y8 y9 y10, LeO (gimballaw10_VecSteps.l1 k y0 y1 y2 y3 y4 y5 y6 y7 y8 y9 y10) (gimballaw10_VecSteps.l1 (k + 1) y0 y1 y2 y3 y4 y5 y6 y7 y8 y9 y10)) ∧ (∀ y0 y1 y2 y3 y4 y5 y6 y7, LeO (gimballaw10_VecSteps.l2 k y0 y1 y2 y3 y4 y5 y6 y7) (gimballaw10_VecSteps.l2 (k + 1) y0 y1 y2 y3 y4 y5 y6 y7))
 | 0 => ⟨fun _ _ _ _ _ r h => by simp [gimballaw10_VecSteps.j0] at h, fun _ _ _ _ _ _ _ _ _ _ _ _ _ _ _ _ r h => by simp [gimballaw10_VecSteps.l0] at h, fun _ _ _ _ _ _ _ _ _ _ r h => by simp [gimballaw10_VecSteps.j2] at h, fun _ _ _ _ _ _ _ _ _ _ _ r h => by simp [gimballaw10_VecSteps.l1] at h, fun _ _ _ _ _ _ _ _ r h => by simp [gimballaw10_VecSteps.l2] at h⟩
 | k + 1 => by
  obtain ⟨ih0, ih1, ih2, ih3, ih4⟩ := gimballaw10_VecSteps.mono_l k
  refine ⟨?_, ?_, ?_, ?_, ?_⟩ <;> intros <;> (first | unfold gimballaw10_VecSteps.j0 | unfold gimballaw10_VecSteps.l0 | unfold gimballaw10_VecSteps.j2 | unfold gimballaw10_VecSteps.l1 | unfold gimballaw10_VecSteps.l2) <;>
   repeat' with_reducible first | apply ih0 | apply ih1 | apply ih2 | apply ih3 | apply ih4 | apply gimballaw10_head.mono | apply soft_Calc_Add.mono | apply soft_Calc_Mul.mono | apply soft_Calc_Sub.mono | apply vec_Asum.mono | apply vec_Axpy.mono | apply vec_Dot.mono | apply vec_Rot.mono | apply vec_Scal.mono | exact LeO.refl _ | exact LeO.none _ | refine LeO.ite ?_ ?_ | refine LeO.bind ?_ (fun _ => ?_)
theorem gimballaw10_VecSteps.mono : ∀ a0 a1 a2 a3 k, LeO (gimballaw10_VecSteps.f k a0 a1 a2 a3) (gimballaw10_VecSteps.f (k + 1) a0 a1 a2 a3) := by
 intro a0 a1 a2 a3 k
 obtain ⟨ih0, ih1, ih2, ih3, ih4⟩ := gimballaw10_VecSteps.mono_l k
 unfold gimballaw10_VecSteps.f
 repeat' with_reducible first | apply ih0 | apply ih1 | apply ih2 | apply ih3 | apply ih4 | apply gimballaw10_head.mono | apply soft_Calc_Add.mono | apply soft_Calc_Mul.mono | apply soft_Calc_Sub.mono | apply vec_Asum.mono | apply vec_Axpy.mono | apply vec_Dot.mono | apply vec_Rot.mono | apply vec_Scal.mono | exact LeO.refl _ | exact LeO.none _ | refine LeO.ite ?_ ?_ | refine LeO.bind ?_ (fun _ => ?_)
def gimballaw10_VecSteps.T16 : Bool × List (List Nat × List Nat) := (true, [([], []), ([], []), ([], []), ([], []), ([], []), ([3, 4], [3, 4]), ([5], [5]), ([], []), ([], []), ([7, 8], [7, 8]), ([9], [9]), ([2, 6, 10], [2, 6, 10]), ([0, 1, 11, 11], [0, 1, 11]), ([12, 12, 0, 1, 2, 3, 4, 5, 6, 7, 8, 9, 10, 11, 12], [1, 12])])
def gimballaw10_VecSteps.B16 : List Nat := [0, 0, 0, 0, 0, 24, 56, 0, 0, 384, 896, 2044, 4095, 8191]
theorem gimballaw10_VecSteps.tab16 : rtab .any (opsOf Try.f5 16) = gimballaw10_VecSteps.T16 := by kernel_rfl
theorem gimballaw10_VecSteps.bits16 : waitsOk gimballaw10_VecSteps.T16.2 gimballaw10_VecSteps.B16 = true := by kernel_rfl
def gimballaw10_VecSteps.T23 : Bool × List (List Nat × List Nat) := (true, [([], []), ([], []), ([0, 1], [0, 1]), ([2], [2]), ([], []), ([], []), ([], []), ([], []), ([], []), ([7, 8], [7, 8]), ([9], [9]), ([5, 6, 10], [5, 6, 10]), ([], []), ([], []), ([12, 13], [12, 13]), ([14], [14]), ([4, 11, 15, 11], [4, 11, 15]), ([3, 16], [3, 16]), ([17, 16], [17]), ([18], [18]), ([18], [18]), ([19, 20, 18], [18, 19, 20]), ([21, 18], [18, 21]), ([18], [18]), ([18], [18]), ([18], [18]), ([18], [18]), ([18], [18]), ([26, 27, 18], [18, 26, 27]), ([28, 18], [18, 28]), ([24, 25, 29, 18, 18], [18, 24, 25, 29]), ([18], [18]), ([18], [18]), ([18], [18]), ([18], [18]), ([33, 34, 18], [18, 33, 34]), ([35, 18], [18, 35]), ([31, 32, 36, 30, 18], [18, 31, 32, 36]), ([23, 30, 37, 37, 18], [18, 23, 30, 37]), ([22, 38, 18], [18, 22, 38]), ([18, 39], [18, 39]), ([40, 38], [40]), ([41], [41]), ([41], [41]), ([42, 43, 41], [41, 42, 43]), ([44, 41], [41, 44]), ([41], [41]), ([41], [41]), ([41], [41]), ([41], [41]), ([41], [41]), ([49, 50, 41], [41, 49, 50]), ([51, 41], [41, 51]), ([47, 48, 52, 41, 41], [41, 47, 48, 52]), ([41], [41]), ([41], [41]), ([41], [41]), ([41], [41]), ([56, 57, 41], [41, 56, 57]), ([58, 41], [41, 58]), ([54, 55, 59, 53, 41], [41, 54, 55, 59]), ([46, 53, 60, 60, 41], [41, 46, 53, 60]), ([45, 61, 41], [41, 45, 61]), ([41, 62], [41, 62])])
def gimballaw10_VecSteps.B23 : List Nat := [0, 0, 3, 7, 0, 0, 0, 0, 0, 384, 896, 2016, 0, 0, 12288, 28672, 65520, 131071, 262143, 524287, 524287, 2097151, 4194303, 524287, 524287, 524287, 524287, 524287, 201850879, 470286335, 1057488895, 524287, 524287, 524287, 524287, 25770328063, 60130066431, 137422700543, 274870042623, 549755813887, 1099511627775, 2199023255551, 4398046511103, 4398046511103, 17592186044415, 35184372088831, 4398046511103, 4398046511103, 4398046511103, 4398046511103, 4398046511103, 1693247906775039, 3945047720460287, 8870859812896767, 4398046511103, 4398046511103, 4398046511103, 4398046511103, 216177180160294911, 504407556312006655, 1152785165165002751, 2305777038516027391, 4611686018427387903, 9223372036854775807]
theorem gimballaw10_VecSteps.tab23 : rtab .any (opsOf Try.f5 23) = gimballaw10_VecSteps.T23 := by kernel_rfl
theorem gimballaw10_VecSteps.bits23 : waitsOk gimballaw10_VecSteps.T23.2 gimballaw10_VecSteps.B23 = true := by kernel_rfl
def gimballaw10_VecSteps.T33 : Bool × List (List Nat × List Nat) := (true, [([], []), ([], []), ([0, 1], [0, 1]), ([2], [2]), ([], []), ([], []), ([], []), ([], []), ([6, 7], [6, 7]), ([8], [8]), ([4, 5, 9], [4, 5, 9]), ([3, 10], [3, 10])])
def gimballaw10_VecSteps.B33 : List Nat := [0, 0, 3, 7, 0, 0, 0, 0, 192, 448, 1008, 2047]
theorem gimballaw10_VecSteps.tab33 : rtab .any (opsOf Try.f5 33) = gimballaw10_VecSteps.T33 := by kernel_rfl
theorem gimballaw10_VecSteps.bits33 : waitsOk gimballaw10_VecSteps.T33.2 gimballaw10_VecSteps.B33 = true := by kernel_rfl
def gimballaw10_VecSteps.T37 : Bool × List (List Nat × List Nat) := (true, [([], []), ([], []), ([0, 1], [0, 1]), ([], []), ([2, 3], [2, 3]), ([4, 2], [4]), ([5], [5]), ([6, 5], [5, 6]), ([7, 5], [5, 7]), ([8, 5], [5, 8]), ([5], [5]), ([10, 5], [5, 10]), ([11, 5], [5, 11]), ([12, 5], [5, 12]), ([9, 13, 5], [5, 9, 13]), ([5, 14], [5, 14]), ([15, 5, 0, 1, 2, 3, 4, 5, 6, 7, 8, 9, 10, 11, 12, 13, 14, 15], [15])])
def gimballaw10_VecSteps.B37 : List Nat := [0, 0, 3, 0, 15, 31, 63, 127, 255, 511, 63, 1087, 3135, 7231, 16383, 32767, 65535]
theorem gimballaw10_VecSteps.tab37 : rtab .any (opsOf Try.f5 37) = gimballaw10_VecSteps.T37 := by kernel_rfl
theorem gimballaw10_VecSteps.bits37 : waitsOk gimballaw10_VecSteps.T37.2 gimballaw10_VecSteps.B37 = true := by kernel_rfl
set_option maxHeartbeats 8000000 in
set_option maxRecDepth 100000 in
theorem gimballaw10_VecSteps.calls (k : Nat) (A0 : Option Addr) (c0 : Nat) (l0 : List Int) (A1 : Option Addr) (c1 : Nat) (l1 : List Int) (a2 : Int) (a3 : Int) (r : Bool) (w : World) (hr0 : Kd.C (Kd.int .u64) w A0 l0.length l0) (hc0 : l0.length ≤ c0) (hr1 : Kd.C (Kd.int .u64) w A1 l1.length l1) (hc1 : l1.length ≤ c1) (hLW : r = true) (h : gimballaw10_VecSteps.f k l0 l1 a2 a3 = some r) :
  Calls Try.prog 5 #[.slice A0 l0.length c0, .slice A1 l1.length c1, .int .u64 a2, .int .u64 a3] w fun e w' => e = .returned (.bool r) ∧ Below w.heap.size w w' := by
 have hu27 := Try.underlying27
 have HR0 := Aside0.mk hr0
 have HC0 := Aside0.mk hc0
 clear hr0 hc0
 have HR1 := Aside0.mk hr1
 have HC1 := Aside0.mk hc1
 clear hr1 hc1
 have HB := Aside0.mk (Below.refl w.heap.size w)
 have H : ((gimballaw10_head.f k).bind fun t468 => (if t468 = true then (if (l0.length : Int) > 50 then (gimballaw10_VecSteps.j0 k l0 l1 a2 a3 true) else (gimballaw10_VecSteps.j0 k l0 l1 a2 a3 (decide ((l1.length : Int) > 50)))) else (some false))) = some r := h
 clear h
 obtain ⟨t468, A50, H⟩ := Option.bind_eq_some_iff.mp H
 (try dsimp -simprocs only at H)
 have A5 := Aside0.mk A50
 clear A50
 by_cases c6 : t468 = true
 rotate_left
 ·
  replace c6 := Bool.eq_false_iff.mpr c6
  subst c6
  rw [if_neg (show ¬ (false = true) by decide)] at H
  rw [hLW] at H
  exact absurd H (by simp)

 subst c6
 rw [if_pos rfl] at H
 have HC7 := Aside0.mk H
 clear H
 go_enter Try.func5, Try.ntmps5
 go_upto_region 3 with (first | ((with_reducible refine gate_callee (f := 6) rfl ?_); refine goesL_ (some 23) rfl rfl Try.func6 (by kernel_rfl) rfl #[] rfl ga ?_; (with_reducible refine (gimballaw10_head.calls k  true _ A5.out).mono ?_); rintro e w8 ⟨rfl, hb⟩; refine ⟨_, rfl, ?_⟩; refine ax1 (below_step bel hb) ?_; clear HB; intro HB; (try clear hb)))
 (try simp only [Act.put, sa0, sa1, sa2])
 go_cut [32] (fun v32 wc => ∃ (kq : Nat) (x32_6 : Bool), v32 = .bool x32_6 ∧ Aside0 (gimballaw10_VecSteps.j0 kq l0 l1 a2 a3 x32_6 = some r) ∧ Aside0 (kq ≤ k) ∧ Aside0 (Below w.heap.size w wc))
 case first => as_aux_lemma =>
  have H := HC7.out
  clear HC7
  by_cases c9 : (l0.length : Int) > 50
  rotate_left
  ·
   rw [if_neg c9] at H
   have c9b0 : decide (50 < (l0.length : Int)) = false := decide_eq_false c9
   have c9b1 : decide (50 < l0.length) = false := decide_eq_false (by omega)
   clear c9
   (first | rw [c9b0] | rw [c9b1] | (simp only [i64_w, i32_w]; first | rw [c9b0] | rw [c9b1]) | skip)
   have H' := Aside0.mk H
   clear H
   go_wp2
   go_meet
   case rel => exact ⟨_, (decide ((l1.length : Int) > 50)), (by first | rfl | (simp; done) | (simp [*]; done)), H', ⟨by first | omega | exact Nat.le_refl _⟩, ⟨bel⟩⟩
  rw [if_pos c9] at H
  have c9b0 : decide (50 < (l0.length : Int)) = true := decide_eq_true c9
  have c9b1 : decide (50 < l0.length) = true := decide_eq_true (by omega)
  clear c9
  (first | rw [c9b0] | rw [c9b1] | (simp only [i64_w, i32_w]; first | rw [c9b0] | rw [c9b1]) | skip)
  have H' := Aside0.mk H
  clear H
  go_wp2
  go_meet
  case rel => exact ⟨_, (true), (by first | rfl | (simp; done) | (simp [*]; done)), H', ⟨by first | omega | exact Nat.le_refl _⟩, ⟨bel⟩⟩
 case rest => as_aux_lemma =>
  clear HC7
  try clear c1
  try clear p2
  try clear c5
  try clear c6
  try clear c9
  try clear c9b0
  try clear c9b1
  obtain ⟨kq, x32_6, rfl, HA, HJ6, HB⟩ := hcut
  cases kq with
  | zero => exact absurd HA.out (by simp [gimballaw10_VecSteps.j0])
  | succ kj6 =>
   have H := HA.out
   clear HA
   simp only [gimballaw10_VecSteps.j0] at H
   by_cases c10 : x32_6 = true
   ·
    subst c10
    rw [if_pos rfl] at H
    obtain rfl := Option.some.inj H
    go_wp2
    go_ret
    exact ⟨er, bel⟩
   ·
    replace c10 := Bool.eq_false_iff.mpr c10
    subst c10
    rw [if_neg (show ¬ (false = true) by decide)] at H
    obtain ⟨⟨t471, t472, t473⟩, A110, H⟩ := Option.bind_eq_some_iff.mp H
    (try dsimp -simprocs only at H)
    have A11 := Aside0.mk A110
    clear A110
    obtain ⟨⟨t474, t477, t478⟩, A120, H⟩ := Option.bind_eq_some_iff.mp H
    (try dsimp -simprocs only at H)
    have A12 := Aside0.mk A120
    clear A120
    obtain ⟨⟨t479, t482, t485, t486⟩, A130, H⟩ := Option.bind_eq_some_iff.mp H
    (try dsimp -simprocs only at H)
    have A13 := Aside0.mk A130
    clear A130
    by_cases c14 : (l0.length : Int) = (l1.length : Int)
    ·
     rw [if_pos c14] at H
     have c14b0 : ((l0.length : Int) == (l1.length : Int)) = true := beq_iff_eq.mpr c14
     have c14b1 : ((l0.length : Int) != (l1.length : Int)) = false := bne_eq_false_iff_eq.mpr c14
     have c14b2 : (l0.length == l1.length) = true := by first | simpa using c14 | (simp at c14 ⊢; omega)
     clear c14
     have H' := Aside0.mk H
     clear H
     go_wp2_with (first | ((with_reducible refine gate_dst (N := 34) rfl ?_); refine gbox (N := 34) (cs := #[.int .u8 0]) (t := 27) ?_; intro gb469 hg w15 hbox hb; refine ax4 (below_step bel hb) ((ge hg : w.heap.size ≤ gb469)) ((ge hg : w.heap.size ≤ gb469)) ((show IsS27 w _ gb469 0 from ⟨hbox, (ge hg : w.heap.size ≤ gb469)⟩)) ?_; clear HB; intro HB GW469 GE469 HI469; clear hb hbox hg) | ((with_reducible refine gate_dst (N := 36) rfl ?_); refine gbox (N := 36) (cs := #[.int .u8 0]) (t := 27) ?_; intro gb470 hg w16 hbox hb; refine ax7 (IsS27.below (by repeat (first | (with_reducible first | exact HI469.out | apply IsS27.alloc | apply IsS27.drewN | apply IsS27.drew | apply IsS27.set_0) | exact HI469.out)) hb) (below_step (by repeat (first | (with_reducible first | exact HB.out | apply below_alloc | apply pw_below_drewN | apply below_drew1 | refine below_set ?_ (IsS27.ge HI469.out)) | exact HB.out)) hb) ((by rw [hg]; exact (below_size (by repeat (first | (with_reducible first | exact HB.out | apply below_alloc | apply pw_below_drewN | apply below_drew1 | refine below_set ?_ (IsS27.ge HI469.out)) | exact HB.out))) : w.heap.size ≤ gb470)) ((by rw [hg]; exact (below_size (by repeat (first | (with_reducible first | exact HB.out | apply below_alloc | apply pw_below_drewN | apply below_drew1 | refine below_set ?_ (IsS27.ge HI469.out)) | exact HB.out))) : w.heap.size ≤ gb470)) ((by rw [hg]; exact Nat.ne_of_lt (IsS27.lt (show IsS27 w _ gb469 0 from by repeat (first | (with_reducible first | exact HI469.out | apply IsS27.alloc | apply IsS27.drewN | apply IsS27.drew | apply IsS27.set_0) | exact HI469.out))) : gb469 ≠ gb470)) ((by rw [hg]; exact Nat.ne_of_gt (IsS27.lt (show IsS27 w _ gb469 0 from by repeat (first | (with_reducible first | exact HI469.out | apply IsS27.alloc | apply IsS27.drewN | apply IsS27.drew | apply IsS27.set_0) | exact HI469.out))) : gb470 ≠ gb469)) ((show IsS27 w _ gb470 0 from ⟨hbox, (by rw [hg]; exact (below_size (by repeat (first | (with_reducible first | exact HB.out | apply below_alloc | apply pw_below_drewN | apply below_drew1 | refine below_set ?_ (IsS27.ge HI469.out)) | exact HB.out))) : w.heap.size ≤ gb470)⟩)) ?_; clear HI469; clear HB; intro HI469 HB GW470 GE470 NB469_470 NB470_469 HI470; clear hb hbox hg) | ((with_reducible refine gate_callee (f := 15) rfl ?_); refine goesL_ (some 41) rfl rfl Try.func15 (by kernel_rfl) rfl #[.pointer (some ⟨gb469, 0, none⟩), .slice A0 l0.length c0, .slice A1 l1.length c1] rfl ga ?_; (with_reducible refine (vec_Dot.calls kj6 gb469 0 _ _ l0 _ _ l1 t471 t472 t473 w _ ?side1 ?side2 ?side3 ?side4 ?side5 ?side6 ?side7 ?side8 A11.out).mono ?_); (case side1 => repeat (first | (with_reducible first | exact HI469.out | apply IsS27.alloc | apply IsS27.drewN | apply IsS27.drew | apply IsS27.set_0 | refine IsS27.far ?_ NB469_470.out _) | exact HI469.out)); (case side2 => repeat (first | (with_reducible first | exact HB.out | apply below_alloc | apply pw_below_drewN | apply below_drew1 | refine below_set ?_ (IsS27.ge HI469.out) | refine below_set ?_ (IsS27.ge HI470.out)) | exact HB.out)); (case side3 => repeat (first | exact (Kd.C_below HR0.out HB.out) | (with_reducible refine Kd.C_alloc ?_ _) | (with_reducible refine Kd.C_drewN ?_ _) | (with_reducible refine Kd.C_drew ?_))); (case side4 => exact HC0.out); (case side5 => exact Kd.far_C 0 HR0.out (IsS27.ge HI469.out)); (case side6 => repeat (first | exact (Kd.C_below HR1.out HB.out) | (with_reducible refine Kd.C_alloc ?_ _) | (with_reducible refine Kd.C_drewN ?_ _) | (with_reducible refine Kd.C_drew ?_))); (case side7 => exact HC1.out); (case side8 => exact Kd.far_C 0 HR1.out (IsS27.ge HI469.out)); rintro e w17 ⟨rfl, hi, hb, hk⟩; refine ⟨_, rfl, ?_⟩; refine ax3 ((show IsS27 w _ gb470 0 from ⟨KeepBut.blk hk (show IsS27 w _ gb470 0 from by repeat (first | (with_reducible first | exact HI470.out | apply IsS27.alloc | apply IsS27.drewN | apply IsS27.drew | apply IsS27.set_0 | refine IsS27.far ?_ NB470_469.out _) | exact HI470.out)).1 NB470_469.out (by simp), (show IsS27 w _ gb470 0 from by repeat (first | (with_reducible first | exact HI470.out | apply IsS27.alloc | apply IsS27.drewN | apply IsS27.drew | apply IsS27.set_0 | refine IsS27.far ?_ NB470_469.out _) | exact HI470.out)).2⟩)) hb hi ?_; clear HI470; clear HB; clear HI469; intro HI470 HB HI469; (try clear hb)) | ((with_reducible refine gate_callee (f := 16) rfl ?_); refine goesL_ (some 49) rfl rfl Try.func16 (by kernel_rfl) rfl #[.pointer (some ⟨gb469, 0, none⟩), .int .u64 a2, .slice A0 l0.length c0, .slice A1 l1.length c1] rfl ga ?_; (with_reducible refine (vec_Axpy.calls kj6 gb469 t473 a2 _ _ l0 _ _ l1 t474 t477 t478 w _ ?side1 ?side2 ?side3 ?side4 ?side5 ?side6 ?side7 ?side8 A12.out).mono ?_); (case side1 => repeat (first | (with_reducible first | exact HI469.out | apply IsS27.alloc | apply IsS27.drewN | apply IsS27.drew | apply IsS27.set_0 | refine IsS27.far ?_ NB469_470.out _) | exact HI469.out)); (case side2 => repeat (first | (with_reducible first | exact HB.out | apply below_alloc | apply pw_below_drewN | apply below_drew1 | refine below_set ?_ (IsS27.ge HI469.out) | refine below_set ?_ (IsS27.ge HI470.out)) | exact HB.out)); (case side3 => repeat (first | exact (Kd.C_below HR0.out HB.out) | (with_reducible refine Kd.C_alloc ?_ _) | (with_reducible refine Kd.C_drewN ?_ _) | (with_reducible refine Kd.C_drew ?_))); (case side4 => exact HC0.out); (case side5 => exact Kd.far_C 0 HR0.out (IsS27.ge HI469.out)); (case side6 => repeat (first | exact (Kd.C_below HR1.out HB.out) | (with_reducible refine Kd.C_alloc ?_ _) | (with_reducible refine Kd.C_drewN ?_ _) | (with_reducible refine Kd.C_drew ?_))); (case side7 => exact HC1.out); (case side8 => exact Kd.far_C 0 HR1.out (IsS27.ge HI469.out)); rintro e w18 ⟨v475, rfl, ho0, hi, hb, hk⟩; refine ⟨_, rfl, ?_⟩; refine ax4 ((show IsS27 w _ gb470 0 from ⟨KeepBut.blk hk (show IsS27 w _ gb470 0 from by repeat (first | (with_reducible first | exact HI470.out | apply IsS27.alloc | apply IsS27.drewN | apply IsS27.drew | apply IsS27.set_0 | refine IsS27.far ?_ NB470_469.out _) | exact HI470.out)).1 NB470_469.out (by simp), (show IsS27 w _ gb470 0 from by repeat (first | (with_reducible first | exact HI470.out | apply IsS27.alloc | apply IsS27.drewN | apply IsS27.drew | apply IsS27.set_0 | refine IsS27.far ?_ NB470_469.out _) | exact HI470.out)).2⟩)) (Kd.R_lower ho0 (below_size (by repeat (first | (with_reducible first | exact HB.out | apply below_alloc | apply pw_below_drewN | apply below_drew1 | refine below_set ?_ (IsS27.ge HI469.out) | refine below_set ?_ (IsS27.ge HI470.out)) | exact HB.out)))) hb hi ?_; clear HI470; clear HB; clear HI469; intro HI470 HO476 HB HI469; (try clear hb); (try clear ho0)) | ((with_reducible refine gate_callee (f := 17) rfl ?_); refine goesL_ (some 58) rfl rfl Try.func17 (by kernel_rfl) rfl #[.pointer (some ⟨gb469, 0, none⟩), .slice A0 l0.length c0, .slice A1 l1.length c1, .int .u64 a2, .int .u64 a3] rfl ga ?_; (with_reducible refine (vec_Rot.calls kj6 gb469 t478 _ _ l0 _ _ l1 a2 a3 t479 t482 t485 t486 w _ ?side1 ?side2 ?side3 ?side4 ?side5 ?side6 ?side7 ?side8 A13.out).mono ?_); (case side1 => repeat (first | (with_reducible first | exact HI469.out | apply IsS27.alloc | apply IsS27.drewN | apply IsS27.drew | apply IsS27.set_0 | refine IsS27.far ?_ NB469_470.out _) | exact HI469.out)); (case side2 => repeat (first | (with_reducible first | exact HB.out | apply below_alloc | apply pw_below_drewN | apply below_drew1 | refine below_set ?_ (IsS27.ge HI469.out) | refine below_set ?_ (IsS27.ge HI470.out)) | exact HB.out)); (case side3 => repeat (first | exact (Kd.C_below HR0.out HB.out) | (with_reducible refine Kd.C_alloc ?_ _) | (with_reducible refine Kd.C_drewN ?_ _) | (with_reducible refine Kd.C_drew ?_))); (case side4 => exact HC0.out); (case side5 => exact Kd.far_C 0 HR0.out (IsS27.ge HI469.out)); (case side6 => repeat (first | exact (Kd.C_below HR1.out HB.out) | (with_reducible refine Kd.C_alloc ?_ _) | (with_reducible refine Kd.C_drewN ?_ _) | (with_reducible refine Kd.C_drew ?_))); (case side7 => exact HC1.out); (case side8 => exact Kd.far_C 0 HR1.out (IsS27.ge HI469.out)); rintro e w19 ⟨v480, v483, rfl, ho0, ho1, hi, hb, hk⟩; refine ⟨_, rfl, ?_⟩; refine ax6 ((show IsS27 w _ gb470 0 from ⟨KeepBut.blk hk (show IsS27 w _ gb470 0 from by repeat (first | (with_reducible first | exact HI470.out | apply IsS27.alloc | apply IsS27.drewN | apply IsS27.drew | apply IsS27.set_0 | refine IsS27.far ?_ NB470_469.out _) | exact HI470.out)).1 NB470_469.out (by simp), (show IsS27 w _ gb470 0 from by repeat (first | (with_reducible first | exact HI470.out | apply IsS27.alloc | apply IsS27.drewN | apply IsS27.drew | apply IsS27.set_0 | refine IsS27.far ?_ NB470_469.out _) | exact HI470.out)).2⟩)) (Kd.R_mono (Kd.R_told (Kd.R_told (Kd.R_oldK (IsS27.apart (show IsS27 w _ gb469 t478 from by repeat (first | (with_reducible first | exact HI469.out | apply IsS27.alloc | apply IsS27.drewN | apply IsS27.drew | apply IsS27.set_0 | refine IsS27.far ?_ NB469_470.out _) | exact HI469.out)) (kr HO476) (by decide)) hk) (Kd.R_base ho0)) (Kd.R_base ho1)) (fun _ h_ => h_.1)) (Kd.R_lower (Kd.R_new' ho0 (Kd.R_lt (kr HO476))) (below_size (by repeat (first | (with_reducible first | exact HB.out | apply below_alloc | apply pw_below_drewN | apply below_drew1 | refine below_set ?_ (IsS27.ge HI469.out) | refine below_set ?_ (IsS27.ge HI470.out)) | exact HB.out)))) (Kd.R_lower (Kd.R_new' ho1 (Kd.R_lt (kr HO476))) (below_size (by repeat (first | (with_reducible first | exact HB.out | apply below_alloc | apply pw_below_drewN | apply below_drew1 | refine below_set ?_ (IsS27.ge HI469.out) | refine below_set ?_ (IsS27.ge HI470.out)) | exact HB.out)))) hb hi ?_; clear HI470; clear HO476; clear HB; clear HI469; intro HI470 HO476 HO481 HO484 HB HI469; (try clear hb); (try clear ho0); (try clear ho1)))
     go_loopg [18, 101] kj6 (fun kq v18 v101 w' => ∃ (x18_2 : Int) (x101_2 : Int) (x471000_2 : Int), v18 = .int .u64 x18_2 ∧ v101 = .int .i64 x101_2 ∧ Aside0 (gimballaw10_VecSteps.l0 kq l0 l1 a2 a3 t471 t472 t474 t477 t479 t482 t485 x18_2 (l0.length : Int) x101_2 t486 x471000_2 = some r) ∧ Aside0 (kq ≤ kj6) ∧ Aside0 (Kd.R (Kd.int .u64) 28 w' w.heap.size (fun k_ => some k_ ≠ (v480 : Value).ownBlock ∧ some k_ ≠ (v483 : Value).ownBlock) v475 t474) ∧ Aside0 (Kd.R (Kd.int .u64) 28 w' w.heap.size (fun k_ => some k_ ≠ (v475 : Value).ownBlock ∧ some k_ ≠ (v483 : Value).ownBlock) v480 t479) ∧ Aside0 (Kd.R (Kd.int .u64) 28 w' w.heap.size (fun k_ => some k_ ≠ (v475 : Value).ownBlock ∧ some k_ ≠ (v480 : Value).ownBlock) v483 t482) ∧ Aside0 (IsS27 w w' gb469 t486) ∧ Aside0 (IsS27 w w' gb470 x471000_2) ∧ Aside0 (Below w.heap.size w w'))
     case atStart => exact ⟨(0), (0), (0), (by first | rfl | (simp; done) | (simp [*]; done)), (by first | rfl | (simp; done) | (simp [*]; done)), H', ⟨Nat.le_refl _⟩, ⟨by (with_reducible repeat (first | apply Kd.R_alloc | apply Kd.R_drewN | apply Kd.R_drew)); exact Kd.R_mono HO476.out (fun _ hk => ⟨hk.1.2, hk.2⟩)⟩, ⟨by (with_reducible repeat (first | apply Kd.R_alloc | apply Kd.R_drewN | apply Kd.R_drew)); exact Kd.R_mono HO481.out (fun _ hk => ⟨hk.2, hk.1⟩)⟩, ⟨by (with_reducible repeat (first | apply Kd.R_alloc | apply Kd.R_drewN | apply Kd.R_drew)); exact Kd.R_mono HO484.out (fun _ hk => ⟨hk.2, hk.1⟩)⟩, ⟨by repeat (first | (with_reducible first | exact HI469.out | apply IsS27.alloc | apply IsS27.drewN | apply IsS27.drew | apply IsS27.set_0 | refine IsS27.far ?_ NB469_470.out _) | exact HI469.out)⟩, ⟨by repeat (first | (with_reducible first | exact HI470.out | apply IsS27.alloc | apply IsS27.drewN | apply IsS27.drew | apply IsS27.set_0 | refine IsS27.far ?_ NB470_469.out _) | exact HI470.out)⟩, ⟨by repeat (first | (with_reducible first | exact HB.out | apply below_alloc | apply pw_below_drewN | apply below_drew1 | refine below_set ?_ (IsS27.ge HI469.out) | refine below_set ?_ (IsS27.ge HI470.out)) | exact HB.out)⟩⟩
     case round =>
      clear H'
      try clear c1
      try clear p2
      try clear c5
      try clear c6
      try clear p6
      try clear c9
      try clear c9b0
      try clear c9b1
      try clear c10
      try clear c14
      try clear c14b0
      try clear c14b1
      try clear c14b2
      try clear c15
      try clear c16
      try clear c17
      try clear p2
      obtain ⟨x18_2, x101_2, x471000_2, rfl, rfl, HA, HK2, HO_13, HO_15, HO_16, HI469, HI470, HB⟩ := hrel
      cases gk with
      | zero => exact absurd HA.out (by simp [gimballaw10_VecSteps.l0])
      | succ k2 =>
       have H := HA.out
       clear HA
       simp only [gimballaw10_VecSteps.l0] at H
       by_cases c20 : x101_2 < (l0.length : Int)
       ·
        rw [if_pos c20] at H
        have c20b0 : decide (x101_2 < (l0.length : Int)) = true := decide_eq_true c20
        clear c20
        by_cases c21 : 0 ≤ x101_2
        rotate_left
        ·
         rw [if_neg c21] at H
         exact absurd H (by simp)
        rw [if_pos c21] at H
        have c21b0 : decide (0 ≤ x101_2) = true := decide_eq_true c21
        clear c21
        by_cases c22 : x101_2 < (l0.length : Int)
        rotate_left
        ·
         rw [if_neg c22] at H
         exact absurd H (by simp)
        rw [if_pos c22] at H
        have c22b0 : decide (x101_2 < (l0.length : Int)) = true := decide_eq_true c22
        clear c22
        by_cases c23 : x101_2 < (l1.length : Int)
        rotate_left
        ·
         rw [if_neg c23] at H
         exact absurd H (by simp)
        rw [if_pos c23] at H
        have c23b0 : decide (x101_2 < (l1.length : Int)) = true := decide_eq_true c23
        clear c23
        obtain ⟨⟨t489, t490⟩, A240, H⟩ := Option.bind_eq_some_iff.mp H
        (try dsimp -simprocs only at H)
        have A24 := Aside0.mk A240
        clear A240
        obtain ⟨⟨t491, t492⟩, A250, H⟩ := Option.bind_eq_some_iff.mp H
        (try dsimp -simprocs only at H)
        have A25 := Aside0.mk A250
        clear A250
        have H' := Aside0.mk H
        clear H
        try go_wp2
        refine ax6 (Kd.R_drew HO_13.out) (Kd.R_drew HO_15.out) (Kd.R_drew HO_16.out) (IsS27.drew HI469.out) (IsS27.drew HI470.out) (below_drew1 HB.out) ?_
        clear HO_13 HO_15 HO_16 HI469 HI470 HB
        intro HO_13 HO_15 HO_16 HI469 HI470 HB
        have p487 : 0 ≤ (x101_2 : Int) := of_decide_eq_true (by first | (with_reducible assumption) | assumption)
        have q487 : x101_2 < (l0.length : Int) := of_decide_eq_true (by first | (with_reducible assumption) | assumption)
        obtain ⟨ad487, e487, hx487_0⟩ := Kd.at_int HR0.out x101_2 p487 q487
        have hw487_0 := hx487_0
        cases e487
        replace hx487_0 := (HB.out.cell (World.block_lt_of_cell? w _ hx487_0)).trans hx487_0
        replace p487 := eq_true p487
        replace q487 := eq_true q487
        have p488 : 0 ≤ (x101_2 : Int) := of_decide_eq_true (by first | (with_reducible assumption) | assumption)
        have q488 : x101_2 < (l1.length : Int) := of_decide_eq_true (by first | (with_reducible assumption) | assumption)
        obtain ⟨ad488, e488, hx488_0⟩ := Kd.at_int HR1.out x101_2 p488 q488
        have hw488_0 := hx488_0
        cases e488
        replace hx488_0 := (HB.out.cell (World.block_lt_of_cell? w _ hx488_0)).trans hx488_0
        replace p488 := eq_true p488
        replace q488 := eq_true q488
        refine start_ (n := 14) (S := fun w' => w'.cell? (ad487.add (x101_2).toNat) = some (.int .u64 (rd l0 x101_2)) ∧ w'.cell? (ad488.add (x101_2).toNat) = some (.int .u64 (rd l1 x101_2))) (ds := []) #[false, false, false, false, false, false, false, false, false, false, false, false, false, false] (by kernel_rfl) rfl rfl ⟨((HB.out.cell (World.block_lt_of_cell? w _ hw487_0)).trans hw487_0), ((HB.out.cell (World.block_lt_of_cell? w _ hw488_0)).trans hw488_0)⟩ (fun hHeld => ?_); refine with_tabW gimballaw10_VecSteps.tab16 gimballaw10_VecSteps.bits16 (fun HT_ HW_ => ?_)
        generalize wr.drew = w26 at HO_13 HO_15 HO_16 HI469 HI470 HB hx487_0 hx488_0 hHeld ⊢
        refine pure_ (i := 0) (N := some 104) (v := ?_) (a' := ?_) #[true, false, false, false, false, false, false, false, false, false, false, false, false, false] rfl rfl (any_of HT_.out (by kernel_rfl)) (fun _ _ _ h => h) (Or.inl ⟨by rfl, ?_⟩) ?_ ?_
        rotate_left
        ·
         intro w'
         go_simp
         with_reducible rfl
        rotate_left
        ·
         simp only [Act.put, sa0, sa1, sa2, i64_w, i32_w]
         rfl
        refine pure_ (i := 1) (N := some 105) (v := ?_) (a' := ?_) #[true, true, false, false, false, false, false, false, false, false, false, false, false, false] rfl rfl (any_of HT_.out (by kernel_rfl)) (fun _ _ _ h => h) (Or.inl ⟨by rfl, ?_⟩) ?_ ?_
        rotate_left
        ·
         intro w'
         go_simp
         with_reducible rfl
        rotate_left
        ·
         simp only [Act.put, sa0, sa1, sa2, i64_w, i32_w]
         rfl
        refine pure_ (i := 2) (N := some 106) (v := ?_) (a' := ?_) #[true, true, true, false, false, false, false, false, false, false, false, false, false, false] rfl rfl (any_of HT_.out (by kernel_rfl)) (fun _ _ _ h => h) (Or.inl ⟨by rfl, ?_⟩) ?_ ?_
        rotate_left
        ·
         intro w'
         go_simp
         with_reducible rfl
        rotate_left
        ·
         simp only [Act.put, sa0, sa1, sa2, i64_w, i32_w]
         rfl
        refine pure_ (i := 3) (N := some 107) (v := ?_) (a' := ?_) #[true, true, true, true, false, false, false, false, false, false, false, false, false, false] rfl rfl (any_of HT_.out (by kernel_rfl)) (fun _ _ _ h => h) (Or.inl ⟨by rfl, ?_⟩) ?_ ?_
        rotate_left
        ·
         intro w'
         go_simp
         with_reducible rfl
        rotate_left
        ·
         simp only [Act.put, sa0, sa1, sa2, i64_w, i32_w]
         rfl
        refine pure_ (i := 4) (N := some 108) (v := ?_) (a' := ?_) #[true, true, true, true, true, false, false, false, false, false, false, false, false, false] rfl rfl (any_of HT_.out (by kernel_rfl)) (fun _ _ _ h => h) (Or.inl ⟨by rfl, ?_⟩) ?_ ?_
        rotate_left
        ·
         intro w'
         go_simp
         with_reducible rfl
        rotate_left
        ·
         simp only [Act.put, sa0, sa1, sa2, i64_w, i32_w]
         rfl
        refine pure_ (i := 5) (N := some 109) (v := ?_) (a' := ?_) #[true, true, true, true, true, true, false, false, false, false, false, false, false, false] rfl rfl (any_of HT_.out (by kernel_rfl)) (fun _ _ _ h => h) (Or.inl ⟨by rfl, ?_⟩) ?_ ?_
        rotate_left
        ·
         intro w'
         go_simp
         with_reducible rfl
        rotate_left
        ·
         simp only [Act.put, sa0, sa1, sa2, i64_w, i32_w]
         rfl
        refine pure_ (i := 7) (N := some 111) (v := ?_) (a' := ?_) #[true, true, true, true, true, true, false, true, false, false, false, false, false, false] rfl rfl (any_of HT_.out (by kernel_rfl)) (fun _ _ _ h => h) (Or.inl ⟨by rfl, ?_⟩) ?_ ?_
        rotate_left
        ·
         intro w'
         go_simp
         with_reducible rfl
        rotate_left
        ·
         simp only [Act.put, sa0, sa1, sa2, i64_w, i32_w]
         rfl
        refine pure_ (i := 8) (N := some 112) (v := ?_) (a' := ?_) #[true, true, true, true, true, true, false, true, true, false, false, false, false, false] rfl rfl (any_of HT_.out (by kernel_rfl)) (fun _ _ _ h => h) (Or.inl ⟨by rfl, ?_⟩) ?_ ?_
        rotate_left
        ·
         intro w'
         go_simp
         with_reducible rfl
        rotate_left
        ·
         simp only [Act.put, sa0, sa1, sa2, i64_w, i32_w]
         rfl
        refine pure_ (i := 9) (N := some 113) (v := ?_) (a' := ?_) #[true, true, true, true, true, true, false, true, true, true, false, false, false, false] rfl rfl (any_of HT_.out (by kernel_rfl)) (fun _ _ _ h => h) (Or.inl ⟨by rfl, ?_⟩) ?_ ?_
        rotate_left
        ·
         intro w'
         go_simp
         with_reducible rfl
        rotate_left
        ·
         simp only [Act.put, sa0, sa1, sa2, i64_w, i32_w]
         rfl
        refine take_ (i := 6) (N := some 110) (v := ?_) (a' := ?_) #[true, true, true, true, true, true, true, true, true, true, false, false, false, false] rfl rfl (take_ofW HT_.out HW_.out (by kernel_rfl)) (fun _ _ _ h => h) (Or.inl ⟨by rfl, ?_⟩) hHeld ?_ ?_
        rotate_left
        ·
         rintro w' ⟨s0, s1⟩
         go_simp
         with_reducible rfl
        rotate_left
        ·
         simp only [Act.put, sa0, sa1, sa2, i64_w, i32_w]
         rfl
        refine take_ (i := 10) (N := some 114) (v := ?_) (a' := ?_) #[true, true, true, true, true, true, true, true, true, true, true, false, false, false] rfl rfl (take_ofW HT_.out HW_.out (by kernel_rfl)) (fun _ _ _ h => h) (Or.inl ⟨by rfl, ?_⟩) hHeld ?_ ?_
        rotate_left
        ·
         rintro w' ⟨s0, s1⟩
         go_simp
         with_reducible rfl
        rotate_left
        ·
         simp only [Act.put, sa0, sa1, sa2, i64_w, i32_w]
         rfl
        refine one_ (i := 11) (N := some 115) #[true, true, true, true, true, true, true, true, true, true, true, true, false, false] rfl rfl (one_of HT_.out (by kernel_rfl)) (by decide) (fun K hK => ?_)
        refine goes_ Try.func12 (by kernel_rfl) rfl #[.pointer (some ⟨gb470, 0, none⟩), .int .u64 (rd l0 x101_2), .int .u64 (rd l1 x101_2)] (by rfl) rfl rfl ga ?_
        with_reducible refine (soft_Calc_Mul.calls k2 gb470 x471000_2 (rd l0 x101_2) (rd l1 x101_2) t489 t490 w _ ?side1 ?side2 A24.out).mono ?_
        (case side1 => repeat (first | (with_reducible first | exact HI470.out | apply IsS27.alloc | apply IsS27.drewN | apply IsS27.drew | apply IsS27.set_0 | refine IsS27.far ?_ NB470_469.out _) | exact HI470.out))
        (case side2 => repeat (first | (with_reducible first | exact HB.out | apply below_alloc | apply pw_below_drewN | apply below_drew1 | refine below_set ?_ (IsS27.ge HI469.out) | refine below_set ?_ (IsS27.ge HI470.out)) | exact HB.out))
        rintro e w27 ⟨rfl, hi, hb, hk⟩
        refine ⟨_, rfl, ?_⟩
        refine ax6 (Kd.R_mono (Kd.R_keep (IsS27.apart (show IsS27 w _ gb470 x471000_2 from by repeat (first | (with_reducible first | exact HI470.out | apply IsS27.alloc | apply IsS27.drewN | apply IsS27.drew | apply IsS27.set_0 | refine IsS27.far ?_ NB470_469.out _) | exact HI470.out)) (kr HO_13) (by decide)) hk (fun _ h => h.2)) (fun _ h => h.1)) (Kd.R_mono (Kd.R_keep (IsS27.apart (show IsS27 w _ gb470 x471000_2 from by repeat (first | (with_reducible first | exact HI470.out | apply IsS27.alloc | apply IsS27.drewN | apply IsS27.drew | apply IsS27.set_0 | refine IsS27.far ?_ NB470_469.out _) | exact HI470.out)) (kr HO_15) (by decide)) hk (fun _ h => h.2)) (fun _ h => h.1)) (Kd.R_mono (Kd.R_keep (IsS27.apart (show IsS27 w _ gb470 x471000_2 from by repeat (first | (with_reducible first | exact HI470.out | apply IsS27.alloc | apply IsS27.drewN | apply IsS27.drew | apply IsS27.set_0 | refine IsS27.far ?_ NB470_469.out _) | exact HI470.out)) (kr HO_16) (by decide)) hk (fun _ h => h.2)) (fun _ h => h.1)) ((show IsS27 w _ gb469 t486 from ⟨KeepBut.blk hk (show IsS27 w _ gb469 t486 from by repeat (first | (with_reducible first | exact HI469.out | apply IsS27.alloc | apply IsS27.drewN | apply IsS27.drew | apply IsS27.set_0 | refine IsS27.far ?_ NB469_470.out _) | exact HI469.out)).1 NB469_470.out (by simp), (show IsS27 w _ gb469 t486 from by repeat (first | (with_reducible first | exact HI469.out | apply IsS27.alloc | apply IsS27.drewN | apply IsS27.drew | apply IsS27.set_0 | refine IsS27.far ?_ NB469_470.out _) | exact HI469.out)).2⟩)) hb hi ?_
        clear HO_13 HO_15 HO_16 HI469 HB HI470
        intro HO_13 HO_15 HO_16 HI469 HB HI470
        (try clear hb)
        (try clear hb2)
        (try clear hk)
        (try clear hi)
        refine hK.out _ _ ⟨((HB.out.cell (World.block_lt_of_cell? w _ hw487_0)).trans hw487_0), ((HB.out.cell (World.block_lt_of_cell? w _ hw488_0)).trans hw488_0)⟩ (fun hHeld => ?_)
        clear hK K
        refine norm_ (a' := ?_) ?_ ?_
        rotate_left
        ·
         show Act.put _ (some 115) _ = _
         simp only [Act.put, sa0, sa1, sa2, i64_w, i32_w]
         rfl
        refine one_ (i := 12) (N := some 116) #[true, true, true, true, true, true, true, true, true, true, true, true, true, false] rfl rfl (one_of HT_.out (by kernel_rfl)) (by decide) (fun K hK => ?_)
        refine goes_ Try.func11 (by kernel_rfl) rfl #[.pointer (some ⟨gb470, 0, none⟩), .int .u64 x18_2, .int .u64 t489] (by rfl) rfl rfl ga ?_
        with_reducible refine (soft_Calc_Add.calls k2 gb470 t490 x18_2 t489 t491 t492 w _ ?side1 ?side2 A25.out).mono ?_
        (case side1 => repeat (first | (with_reducible first | exact HI470.out | apply IsS27.alloc | apply IsS27.drewN | apply IsS27.drew | apply IsS27.set_0 | refine IsS27.far ?_ NB470_469.out _) | exact HI470.out))
        (case side2 => repeat (first | (with_reducible first | exact HB.out | apply below_alloc | apply pw_below_drewN | apply below_drew1 | refine below_set ?_ (IsS27.ge HI469.out) | refine below_set ?_ (IsS27.ge HI470.out)) | exact HB.out))
        rintro e w28 ⟨rfl, hi, hb, hk⟩
        refine ⟨_, rfl, ?_⟩
        refine ax6 (Kd.R_mono (Kd.R_keep (IsS27.apart (show IsS27 w _ gb470 t490 from by repeat (first | (with_reducible first | exact HI470.out | apply IsS27.alloc | apply IsS27.drewN | apply IsS27.drew | apply IsS27.set_0 | refine IsS27.far ?_ NB470_469.out _) | exact HI470.out)) (kr HO_13) (by decide)) hk (fun _ h => h.2)) (fun _ h => h.1)) (Kd.R_mono (Kd.R_keep (IsS27.apart (show IsS27 w _ gb470 t490 from by repeat (first | (with_reducible first | exact HI470.out | apply IsS27.alloc | apply IsS27.drewN | apply IsS27.drew | apply IsS27.set_0 | refine IsS27.far ?_ NB470_469.out _) | exact HI470.out)) (kr HO_15) (by decide)) hk (fun _ h => h.2)) (fun _ h => h.1)) (Kd.R_mono (Kd.R_keep (IsS27.apart (show IsS27 w _ gb470 t490 from by repeat (first | (with_reducible first | exact HI470.out | apply IsS27.alloc | apply IsS27.drewN | apply IsS27.drew | apply IsS27.set_0 | refine IsS27.far ?_ NB470_469.out _) | exact HI470.out)) (kr HO_16) (by decide)) hk (fun _ h => h.2)) (fun _ h => h.1)) ((show IsS27 w _ gb469 t486 from ⟨KeepBut.blk hk (show IsS27 w _ gb469 t486 from by repeat (first | (with_reducible first | exact HI469.out | apply IsS27.alloc | apply IsS27.drewN | apply IsS27.drew | apply IsS27.set_0 | refine IsS27.far ?_ NB469_470.out _) | exact HI469.out)).1 NB469_470.out (by simp), (show IsS27 w _ gb469 t486 from by repeat (first | (with_reducible first | exact HI469.out | apply IsS27.alloc | apply IsS27.drewN | apply IsS27.drew | apply IsS27.set_0 | refine IsS27.far ?_ NB469_470.out _) | exact HI469.out)).2⟩)) hb hi ?_
        clear HO_13 HO_15 HO_16 HI469 HB HI470
        intro HO_13 HO_15 HO_16 HI469 HB HI470
        (try clear hb)
        (try clear hb2)
        (try clear hk)
        (try clear hi)
        refine hK.out _ _ ⟨((HB.out.cell (World.block_lt_of_cell? w _ hw487_0)).trans hw487_0), ((HB.out.cell (World.block_lt_of_cell? w _ hw488_0)).trans hw488_0)⟩ (fun hHeld => ?_)
        clear hK K
        refine norm_ (a' := ?_) ?_ ?_
        rotate_left
        ·
         show Act.put _ (some 116) _ = _
         simp only [Act.put, sa0, sa1, sa2, i64_w, i32_w]
         rfl
        refine pure_ (i := 13) (N := some 18) (v := ?_) (a' := ?_) #[true, true, true, true, true, true, true, true, true, true, true, true, true, true] rfl rfl (any_of HT_.out (by kernel_rfl)) (fun _ _ _ h => h) (Or.inl ⟨by rfl, ?_⟩) ?_ ?_
        rotate_left
        ·
         intro w'
         go_simp
         with_reducible rfl
        rotate_left
        ·
         simp only [Act.put, sa0, sa1, sa2, i64_w, i32_w]
         rfl
        refine done_ (done_of HT_.out (by kernel_rfl)) ?_
        try go_wp2
        go_roundg k2
        case measure => have := HJ6.out; have := HK2.out; omega
        case rel => exact ⟨(t491), (wrap64 (x101_2 + 1)), (t492), (by first | rfl | (simp; done) | (simp [*]; done)), (by first | rfl | (simp; done) | (simp [*]; done)), H', ⟨by have := HJ6.out; have := HK2.out; omega⟩, ⟨kr HO_13⟩, ⟨kr HO_15⟩, ⟨kr HO_16⟩, ⟨by repeat (first | (with_reducible first | exact HI469.out | apply IsS27.alloc | apply IsS27.drewN | apply IsS27.drew | apply IsS27.set_0 | refine IsS27.far ?_ NB469_470.out _) | exact HI469.out)⟩, ⟨by repeat (first | (with_reducible first | exact HI470.out | apply IsS27.alloc | apply IsS27.drewN | apply IsS27.drew | apply IsS27.set_0 | refine IsS27.far ?_ NB470_469.out _) | exact HI470.out)⟩, ⟨by repeat (first | (with_reducible first | exact HB.out | apply below_alloc | apply pw_below_drewN | apply below_drew1 | refine below_set ?_ (IsS27.ge HI469.out) | refine below_set ?_ (IsS27.ge HI470.out)) | exact HB.out)⟩⟩
       ·
        rw [if_neg c20] at H
        have c20b0 : decide (x101_2 < (l0.length : Int)) = false := decide_eq_false c20
        clear c20
        have HC29 := Aside0.mk H
        clear H
        go_upto_region 18 with (fail)
        go_cut [153] (fun v153 wc => ∃ (kq : Nat) (x153_28 : Bool), v153 = .bool x153_28 ∧ Aside0 (gimballaw10_VecSteps.j2 kq l0 l1 a2 a3 t474 t479 t482 x153_28 t486 x471000_2 = some r) ∧ Aside0 (kq ≤ k2) ∧ Aside0 (Kd.R (Kd.int .u64) 28 wc w.heap.size (fun k_ => some k_ ≠ (v480 : Value).ownBlock ∧ some k_ ≠ (v483 : Value).ownBlock) v475 t474) ∧ Aside0 (Kd.R (Kd.int .u64) 28 wc w.heap.size (fun k_ => some k_ ≠ (v475 : Value).ownBlock ∧ some k_ ≠ (v483 : Value).ownBlock) v480 t479) ∧ Aside0 (Kd.R (Kd.int .u64) 28 wc w.heap.size (fun k_ => some k_ ≠ (v475 : Value).ownBlock ∧ some k_ ≠ (v480 : Value).ownBlock) v483 t482) ∧ Aside0 (IsS27 w wc gb469 t486) ∧ Aside0 (IsS27 w wc gb470 x471000_2) ∧ Aside0 (Below w.heap.size w wc))
        case first => as_aux_lemma =>
         have H := HC29.out
         clear HC29
         by_cases c30 : t472 = 0
         rotate_left
         ·
          rw [if_neg c30] at H
          have c30b0 : (t472 == 0) = false := beq_eq_false_iff_ne.mpr c30
          have c30b1 : (t472 != 0) = true := bne_iff_ne.mpr c30
          (first | rw [c30b0] | (simp only [i64_w, i32_w]; rw [c30b0]) | skip)
          rw [hLW] at H
          exact absurd H (by cases k2 <;> simp [gimballaw10_VecSteps.j2])
         rw [if_pos c30] at H
         have c30b0 : (t472 == 0) = true := beq_iff_eq.mpr c30
         have c30b1 : (t472 != 0) = false := bne_eq_false_iff_eq.mpr c30
         clear c30
         (first | rw [c30b0] | (simp only [i64_w, i32_w]; rw [c30b0]) | skip)
         by_cases c31 : t477 = 0
         rotate_left
         ·
          rw [if_neg c31] at H
          have c31b0 : (t477 == 0) = false := beq_eq_false_iff_ne.mpr c31
          have c31b1 : (t477 != 0) = true := bne_iff_ne.mpr c31
          rw [hLW] at H
          exact absurd H (by cases k2 <;> simp [gimballaw10_VecSteps.j2])
         rw [if_pos c31] at H
         have c31b0 : (t477 == 0) = true := beq_iff_eq.mpr c31
         have c31b1 : (t477 != 0) = false := bne_eq_false_iff_eq.mpr c31
         clear c31
         by_cases c32 : t485 = 0
         rotate_left
         ·
          rw [if_neg c32] at H
          have c32b0 : (t485 == 0) = false := beq_eq_false_iff_ne.mpr c32
          have c32b1 : (t485 != 0) = true := bne_iff_ne.mpr c32
          rw [hLW] at H
          exact absurd H (by cases k2 <;> simp [gimballaw10_VecSteps.j2])
         rw [if_pos c32] at H
         have c32b0 : (t485 == 0) = true := beq_iff_eq.mpr c32
         have c32b1 : (t485 != 0) = false := bne_eq_false_iff_eq.mpr c32
         clear c32
         by_cases c33 : t471 = x18_2
         rotate_left
         ·
          rw [if_neg c33] at H
          have c33b0 : (t471 == x18_2) = false := beq_eq_false_iff_ne.mpr c33
          have c33b1 : (t471 != x18_2) = true := bne_iff_ne.mpr c33
          rw [hLW] at H
          exact absurd H (by cases k2 <;> simp [gimballaw10_VecSteps.j2])
         rw [if_pos c33] at H
         have c33b0 : (t471 == x18_2) = true := beq_iff_eq.mpr c33
         have c33b1 : (t471 != x18_2) = false := bne_eq_false_iff_eq.mpr c33
         clear c33
         by_cases c34 : (t474.length : Int) = (l0.length : Int)
         rotate_left
         ·
          rw [if_neg c34] at H
          have c34b0 : ((t474.length : Int) == (l0.length : Int)) = false := beq_eq_false_iff_ne.mpr c34
          have c34b1 : ((t474.length : Int) != (l0.length : Int)) = true := bne_iff_ne.mpr c34
          have c34b2 : (t474.length == l0.length) = false := by first | simpa using c34 | (simp at c34 ⊢; omega)
          rw [hLW] at H
          exact absurd H (by cases k2 <;> simp [gimballaw10_VecSteps.j2])
         rw [if_pos c34] at H
         have c34b0 : ((t474.length : Int) == (l0.length : Int)) = true := beq_iff_eq.mpr c34
         have c34b1 : ((t474.length : Int) != (l0.length : Int)) = false := bne_eq_false_iff_eq.mpr c34
         have c34b2 : (t474.length == l0.length) = true := by first | simpa using c34 | (simp at c34 ⊢; omega)
         clear c34
         by_cases c35 : (t479.length : Int) = (l0.length : Int)
         rotate_left
         ·
          rw [if_neg c35] at H
          have c35b0 : ((t479.length : Int) == (l0.length : Int)) = false := beq_eq_false_iff_ne.mpr c35
          have c35b1 : ((t479.length : Int) != (l0.length : Int)) = true := bne_iff_ne.mpr c35
          have c35b2 : (t479.length == l0.length) = false := by first | simpa using c35 | (simp at c35 ⊢; omega)
          rw [hLW] at H
          exact absurd H (by cases k2 <;> simp [gimballaw10_VecSteps.j2])
         rw [if_pos c35] at H
         have c35b0 : ((t479.length : Int) == (l0.length : Int)) = true := beq_iff_eq.mpr c35
         have c35b1 : ((t479.length : Int) != (l0.length : Int)) = false := bne_eq_false_iff_eq.mpr c35
         have c35b2 : (t479.length == l0.length) = true := by first | simpa using c35 | (simp at c35 ⊢; omega)
         clear c35
         have H' := Aside0.mk H
         clear H
         obtain ⟨Ao36, co36, eo36⟩ := Kd.R_slice HO_13.out
         subst eo36
         obtain ⟨Ao37, co37, eo37⟩ := Kd.R_slice HO_15.out
         subst eo37
         obtain ⟨Ao38, co38, eo38⟩ := Kd.R_slice HO_16.out
         subst eo38
         go_wp2
         go_meet
         case rel => exact ⟨_, (((t482.length : Int) != (l0.length : Int))), (by first | rfl | (simp; done) | (simp [*]; done)), H', ⟨by have := HJ6.out; have := HK2.out; first | omega | exact Nat.le_refl _⟩, ⟨kr HO_13⟩, ⟨kr HO_15⟩, ⟨kr HO_16⟩, ⟨by repeat (first | (with_reducible first | exact HI469.out | apply IsS27.alloc | apply IsS27.drewN | apply IsS27.drew | apply IsS27.set_0 | refine IsS27.far ?_ NB469_470.out _) | exact HI469.out)⟩, ⟨by repeat (first | (with_reducible first | exact HI470.out | apply IsS27.alloc | apply IsS27.drewN | apply IsS27.drew | apply IsS27.set_0 | refine IsS27.far ?_ NB470_469.out _) | exact HI470.out)⟩, ⟨by repeat (first | (with_reducible first | exact HB.out | apply below_alloc | apply pw_below_drewN | apply below_drew1 | refine below_set ?_ (IsS27.ge HI469.out) | refine below_set ?_ (IsS27.ge HI470.out)) | exact HB.out)⟩⟩
        case rest => as_aux_lemma =>
         clear HC29
         try clear c1
         try clear c2
         try clear p2
         try clear c3
         try clear p4
         try clear q4
         try clear hx4
         try clear c5
         try clear c6
         try clear p6
         try clear c9
         try clear c9b0
         try clear c9b1
         try clear c10
         try clear c11
         try clear c12
         try clear c14
         try clear c14b0
         try clear c14b1
         try clear c14b2
         try clear c15
         try clear c16
         try clear c17
         try clear c20
         try clear c20b0
         try clear c21
         try clear c21b0
         try clear c22
         try clear c22b0
         try clear c23
         try clear c23b0
         try clear c30
         try clear c30b0
         try clear c30b1
         try clear c31
         try clear c31b0
         try clear c31b1
         try clear c32
         try clear c32b0
         try clear c32b1
         try clear c33
         try clear c33b0
         try clear c33b1
         try clear c34
         try clear c34b0
         try clear c34b1
         try clear c34b2
         try clear c35
         try clear c35b0
         try clear c35b1
         try clear c35b2
         try clear hx487_0
         try clear hx488_0
         try clear p2
         try clear p487
         try clear p488
         try clear p6
         try clear q487
         try clear q488
         obtain ⟨kq, x153_28, rfl, HA, HJ28, HO_13, HO_15, HO_16, HI469, HI470, HB⟩ := hcut
         cases kq with
         | zero => exact absurd HA.out (by simp [gimballaw10_VecSteps.j2])
         | succ kj28 =>
          have H := HA.out
          clear HA
          simp only [gimballaw10_VecSteps.j2] at H
          by_cases c39 : x153_28 = true
          ·
           subst c39
           rw [if_pos rfl] at H
           rw [hLW] at H
           exact absurd H (by simp)
          ·
           replace c39 := Bool.eq_false_iff.mpr c39
           subst c39
           rw [if_neg (show ¬ (false = true) by decide)] at H
           have H' := Aside0.mk H
           clear H
           go_wp2
           go_loopg [156] kj28 (fun kq v156 w' => ∃ (x156_4 : Int) (x471000_4 : Int), v156 = .int .i64 x156_4 ∧ Aside0 (gimballaw10_VecSteps.l1 kq l0 l1 a2 a3 t474 t479 t482 (l0.length : Int) x156_4 t486 x471000_4 = some r) ∧ Aside0 (kq ≤ kj28) ∧ Aside0 (Kd.R (Kd.int .u64) 28 w' w.heap.size (fun k_ => some k_ ≠ (v480 : Value).ownBlock ∧ some k_ ≠ (v483 : Value).ownBlock) v475 t474) ∧ Aside0 (Kd.R (Kd.int .u64) 28 w' w.heap.size (fun k_ => some k_ ≠ (v475 : Value).ownBlock ∧ some k_ ≠ (v483 : Value).ownBlock) v480 t479) ∧ Aside0 (Kd.R (Kd.int .u64) 28 w' w.heap.size (fun k_ => some k_ ≠ (v475 : Value).ownBlock ∧ some k_ ≠ (v480 : Value).ownBlock) v483 t482) ∧ Aside0 (IsS27 w w' gb469 t486) ∧ Aside0 (IsS27 w w' gb470 x471000_4) ∧ Aside0 (Below w.heap.size w w'))
           case atStart => exact ⟨(0), (x471000_2), (by first | rfl | (simp; done) | (simp [*]; done)), H', ⟨Nat.le_refl _⟩, ⟨kr HO_13⟩, ⟨kr HO_15⟩, ⟨kr HO_16⟩, ⟨by repeat (first | (with_reducible first | exact HI469.out | apply IsS27.alloc | apply IsS27.drewN | apply IsS27.drew | apply IsS27.set_0 | refine IsS27.far ?_ NB469_470.out _) | exact HI469.out)⟩, ⟨by repeat (first | (with_reducible first | exact HI470.out | apply IsS27.alloc | apply IsS27.drewN | apply IsS27.drew | apply IsS27.set_0 | refine IsS27.far ?_ NB470_469.out _) | exact HI470.out)⟩, ⟨by repeat (first | (with_reducible first | exact HB.out | apply below_alloc | apply pw_below_drewN | apply below_drew1 | refine below_set ?_ (IsS27.ge HI469.out) | refine below_set ?_ (IsS27.ge HI470.out)) | exact HB.out)⟩⟩
           case round =>
            clear H'
            try clear c1
            try clear c2
            try clear p2
            try clear c3
            try clear p4
            try clear q4
            try clear hx4
            try clear c5
            try clear c6
            try clear p6
            try clear c9
            try clear c9b0
            try clear c9b1
            try clear c10
            try clear c11
            try clear c12
            try clear c14
            try clear c14b0
            try clear c14b1
            try clear c14b2
            try clear c15
            try clear c16
            try clear c17
            try clear c20
            try clear c20b0
            try clear c21
            try clear c21b0
            try clear c22
            try clear c22b0
            try clear c23
            try clear c23b0
            try clear c30
            try clear c30b0
            try clear c30b1
            try clear c31
            try clear c31b0
            try clear c31b1
            try clear c32
            try clear c32b0
            try clear c32b1
            try clear c33
            try clear c33b0
            try clear c33b1
            try clear c34
            try clear c34b0
            try clear c34b1
            try clear c34b2
            try clear c35
            try clear c35b0
            try clear c35b1
            try clear c35b2
            try clear c39
            try clear hx487_0
            try clear hx488_0
            try clear p2
            try clear p4
            try clear p487
            try clear p488
            try clear p6
            try clear q4
            try clear q487
            try clear q488
            obtain ⟨x156_4, x471000_4, rfl, HA, HK4, HO_13, HO_15, HO_16, HI469, HI470, HB⟩ := hrel
            cases gk with
            | zero => exact absurd HA.out (by simp [gimballaw10_VecSteps.l1])
            | succ k4 =>
             have H := HA.out
             clear HA
             simp only [gimballaw10_VecSteps.l1] at H
             by_cases c40 : x156_4 < (l0.length : Int)
             ·
              rw [if_pos c40] at H
              have c40b0 : decide (x156_4 < (l0.length : Int)) = true := decide_eq_true c40
              clear c40
              by_cases c41 : 0 ≤ x156_4
              rotate_left
              ·
               rw [if_neg c41] at H
               exact absurd H (by simp)
              rw [if_pos c41] at H
              have c41b0 : decide (0 ≤ x156_4) = true := decide_eq_true c41
              clear c41
              by_cases c42 : x156_4 < (t474.length : Int)
              rotate_left
              ·
               rw [if_neg c42] at H
               exact absurd H (by simp)
              rw [if_pos c42] at H
              have c42b0 : decide (x156_4 < (t474.length : Int)) = true := decide_eq_true c42
              clear c42
              by_cases c43 : x156_4 < (l0.length : Int)
              rotate_left
              ·
               rw [if_neg c43] at H
               exact absurd H (by simp)
              rw [if_pos c43] at H
              have c43b0 : decide (x156_4 < (l0.length : Int)) = true := decide_eq_true c43
              clear c43
              obtain ⟨⟨t495, t496⟩, A440, H⟩ := Option.bind_eq_some_iff.mp H
              (try dsimp -simprocs only at H)
              have A44 := Aside0.mk A440
              clear A440
              by_cases c45 : x156_4 < (l1.length : Int)
              rotate_left
              ·
               rw [if_neg c45] at H
               exact absurd H (by simp)
              rw [if_pos c45] at H
              have c45b0 : decide (x156_4 < (l1.length : Int)) = true := decide_eq_true c45
              clear c45
              obtain ⟨⟨t498, t499⟩, A460, H⟩ := Option.bind_eq_some_iff.mp H
              (try dsimp -simprocs only at H)
              have A46 := Aside0.mk A460
              clear A460
              by_cases c47 : (rd t474 x156_4) = t498
              rotate_left
              ·
               rw [if_neg c47] at H
               have c47b0 : ((rd t474 x156_4) == t498) = false := beq_eq_false_iff_ne.mpr c47
               have c47b1 : ((rd t474 x156_4) != t498) = true := bne_iff_ne.mpr c47
               rw [hLW] at H
               exact absurd H (by simp)
              rw [if_pos c47] at H
              have c47b0 : ((rd t474 x156_4) == t498) = true := beq_iff_eq.mpr c47
              have c47b1 : ((rd t474 x156_4) != t498) = false := bne_eq_false_iff_eq.mpr c47
              clear c47
              by_cases c48 : x156_4 < (t479.length : Int)
              rotate_left
              ·
               rw [if_neg c48] at H
               exact absurd H (by simp)
              rw [if_pos c48] at H
              have c48b0 : decide (x156_4 < (t479.length : Int)) = true := decide_eq_true c48
              clear c48
              obtain ⟨⟨t502, t503⟩, A490, H⟩ := Option.bind_eq_some_iff.mp H
              (try dsimp -simprocs only at H)
              have A49 := Aside0.mk A490
              clear A490
              obtain ⟨⟨t505, t506⟩, A500, H⟩ := Option.bind_eq_some_iff.mp H
              (try dsimp -simprocs only at H)
              have A50 := Aside0.mk A500
              clear A500
              obtain ⟨⟨t507, t508⟩, A510, H⟩ := Option.bind_eq_some_iff.mp H
              (try dsimp -simprocs only at H)
              have A51 := Aside0.mk A510
              clear A510
              by_cases c52 : (rd t479 x156_4) = t507
              rotate_left
              ·
               rw [if_neg c52] at H
               have c52b0 : ((rd t479 x156_4) == t507) = false := beq_eq_false_iff_ne.mpr c52
               have c52b1 : ((rd t479 x156_4) != t507) = true := bne_iff_ne.mpr c52
               rw [hLW] at H
               exact absurd H (by simp)
              rw [if_pos c52] at H
              have c52b0 : ((rd t479 x156_4) == t507) = true := beq_iff_eq.mpr c52
              have c52b1 : ((rd t479 x156_4) != t507) = false := bne_eq_false_iff_eq.mpr c52
              clear c52
              by_cases c53 : x156_4 < (t482.length : Int)
              rotate_left
              ·
               rw [if_neg c53] at H
               exact absurd H (by simp)
              rw [if_pos c53] at H
              have c53b0 : decide (x156_4 < (t482.length : Int)) = true := decide_eq_true c53
              clear c53
              obtain ⟨⟨t511, t512⟩, A540, H⟩ := Option.bind_eq_some_iff.mp H
              (try dsimp -simprocs only at H)
              have A54 := Aside0.mk A540
              clear A540
              obtain ⟨⟨t514, t515⟩, A550, H⟩ := Option.bind_eq_some_iff.mp H
              (try dsimp -simprocs only at H)
              have A55 := Aside0.mk A550
              clear A550
              obtain ⟨⟨t516, t517⟩, A560, H⟩ := Option.bind_eq_some_iff.mp H
              (try dsimp -simprocs only at H)
              have A56 := Aside0.mk A560
              clear A560
              by_cases c57 : (rd t482 x156_4) = t516
              rotate_left
              ·
               rw [if_neg c57] at H
               have c57b0 : ((rd t482 x156_4) == t516) = false := beq_eq_false_iff_ne.mpr c57
               have c57b1 : ((rd t482 x156_4) != t516) = true := bne_iff_ne.mpr c57
               rw [hLW] at H
               exact absurd H (by simp)
              rw [if_pos c57] at H
              have c57b0 : ((rd t482 x156_4) == t516) = true := beq_iff_eq.mpr c57
              have c57b1 : ((rd t482 x156_4) != t516) = false := bne_eq_false_iff_eq.mpr c57
              clear c57
              have H' := Aside0.mk H
              clear H
              obtain ⟨Ao58, co58, eo58⟩ := Kd.R_slice HO_13.out
              subst eo58
              obtain ⟨Ao59, co59, eo59⟩ := Kd.R_slice HO_15.out
              subst eo59
              obtain ⟨Ao60, co60, eo60⟩ := Kd.R_slice HO_16.out
              subst eo60
              try go_wp2
              refine ax6 (Kd.R_drew HO_13.out) (Kd.R_drew HO_15.out) (Kd.R_drew HO_16.out) (IsS27.drew HI469.out) (IsS27.drew HI470.out) (below_drew1 HB.out) ?_
              clear HO_13 HO_15 HO_16 HI469 HI470 HB
              intro HO_13 HO_15 HO_16 HI469 HI470 HB
              have p493 : 0 ≤ (x156_4 : Int) := of_decide_eq_true (by first | (with_reducible assumption) | assumption)
              have q493 : x156_4 < (t474.length : Int) := of_decide_eq_true (by first | (with_reducible assumption) | assumption)
              obtain ⟨ad493, e493, hx493_0⟩ := Kd.at_int (Kd.R_reads' HO_13.out).2.2 x156_4 p493 q493
              cases e493
              replace p493 := eq_true p493
              replace q493 := eq_true q493
              have p494 : 0 ≤ (x156_4 : Int) := of_decide_eq_true (by first | (with_reducible assumption) | assumption)
              have q494 : x156_4 < (l0.length : Int) := of_decide_eq_true (by first | (with_reducible assumption) | assumption)
              obtain ⟨ad494, e494, hx494_0⟩ := Kd.at_int HR0.out x156_4 p494 q494
              have hw494_0 := hx494_0
              cases e494
              replace hx494_0 := (HB.out.cell (World.block_lt_of_cell? w _ hx494_0)).trans hx494_0
              replace p494 := eq_true p494
              replace q494 := eq_true q494
              have p497 : 0 ≤ (x156_4 : Int) := of_decide_eq_true (by first | (with_reducible assumption) | assumption)
              have q497 : x156_4 < (l1.length : Int) := of_decide_eq_true (by first | (with_reducible assumption) | assumption)
              obtain ⟨ad497, e497, hx497_0⟩ := Kd.at_int HR1.out x156_4 p497 q497
              have hw497_0 := hx497_0
              cases e497
              replace hx497_0 := (HB.out.cell (World.block_lt_of_cell? w _ hx497_0)).trans hx497_0
              replace p497 := eq_true p497
              replace q497 := eq_true q497
              have p500 : 0 ≤ (x156_4 : Int) := of_decide_eq_true (by first | (with_reducible assumption) | assumption)
              have q500 : x156_4 < (t479.length : Int) := of_decide_eq_true (by first | (with_reducible assumption) | assumption)
              obtain ⟨ad500, e500, hx500_0⟩ := Kd.at_int (Kd.R_reads' HO_15.out).2.2 x156_4 p500 q500
              cases e500
              replace p500 := eq_true p500
              replace q500 := eq_true q500
              have p501 : 0 ≤ (x156_4 : Int) := of_decide_eq_true (by first | (with_reducible assumption) | assumption)
              have q501 : x156_4 < (l0.length : Int) := of_decide_eq_true (by first | (with_reducible assumption) | assumption)
              obtain ⟨ad501, e501, hx501_0⟩ := Kd.at_int HR0.out x156_4 p501 q501
              have hw501_0 := hx501_0
              obtain rfl : ad494 = ad501 := (by injection e501)
              replace hx501_0 := (HB.out.cell (World.block_lt_of_cell? w _ hx501_0)).trans hx501_0
              replace p501 := eq_true p501
              replace q501 := eq_true q501
              have p504 : 0 ≤ (x156_4 : Int) := of_decide_eq_true (by first | (with_reducible assumption) | assumption)
              have q504 : x156_4 < (l1.length : Int) := of_decide_eq_true (by first | (with_reducible assumption) | assumption)
              obtain ⟨ad504, e504, hx504_0⟩ := Kd.at_int HR1.out x156_4 p504 q504
              have hw504_0 := hx504_0
              obtain rfl : ad497 = ad504 := (by injection e504)
              replace hx504_0 := (HB.out.cell (World.block_lt_of_cell? w _ hx504_0)).trans hx504_0
              replace p504 := eq_true p504
              replace q504 := eq_true q504
              have p509 : 0 ≤ (x156_4 : Int) := of_decide_eq_true (by first | (with_reducible assumption) | assumption)
              have q509 : x156_4 < (t482.length : Int) := of_decide_eq_true (by first | (with_reducible assumption) | assumption)
              obtain ⟨ad509, e509, hx509_0⟩ := Kd.at_int (Kd.R_reads' HO_16.out).2.2 x156_4 p509 q509
              cases e509
              replace p509 := eq_true p509
              replace q509 := eq_true q509
              have p510 : 0 ≤ (x156_4 : Int) := of_decide_eq_true (by first | (with_reducible assumption) | assumption)
              have q510 : x156_4 < (l1.length : Int) := of_decide_eq_true (by first | (with_reducible assumption) | assumption)
              obtain ⟨ad510, e510, hx510_0⟩ := Kd.at_int HR1.out x156_4 p510 q510
              have hw510_0 := hx510_0
              obtain rfl : ad497 = ad510 := (by injection e510)
              replace hx510_0 := (HB.out.cell (World.block_lt_of_cell? w _ hx510_0)).trans hx510_0
              replace p510 := eq_true p510
              replace q510 := eq_true q510
              have p513 : 0 ≤ (x156_4 : Int) := of_decide_eq_true (by first | (with_reducible assumption) | assumption)
              have q513 : x156_4 < (l0.length : Int) := of_decide_eq_true (by first | (with_reducible assumption) | assumption)
              obtain ⟨ad513, e513, hx513_0⟩ := Kd.at_int HR0.out x156_4 p513 q513
              have hw513_0 := hx513_0
              obtain rfl : ad494 = ad513 := (by injection e513)
              replace hx513_0 := (HB.out.cell (World.block_lt_of_cell? w _ hx513_0)).trans hx513_0
              replace p513 := eq_true p513
              replace q513 := eq_true q513
              refine start_ (n := 64) (S := fun w' => w'.cell? (ad493.add (x156_4).toNat) = some (.int .u64 (rd t474 x156_4)) ∧ w'.cell? (ad494.add (x156_4).toNat) = some (.int .u64 (rd l0 x156_4)) ∧ w'.cell? (ad497.add (x156_4).toNat) = some (.int .u64 (rd l1 x156_4)) ∧ w'.cell? (ad500.add (x156_4).toNat) = some (.int .u64 (rd t479 x156_4)) ∧ w'.cell? (ad494.add (x156_4).toNat) = some (.int .u64 (rd l0 x156_4)) ∧ w'.cell? (ad497.add (x156_4).toNat) = some (.int .u64 (rd l1 x156_4)) ∧ w'.cell? (ad509.add (x156_4).toNat) = some (.int .u64 (rd t482 x156_4)) ∧ w'.cell? (ad497.add (x156_4).toNat) = some (.int .u64 (rd l1 x156_4)) ∧ w'.cell? (ad494.add (x156_4).toNat) = some (.int .u64 (rd l0 x156_4))) (ds := []) #[false, false, false, false, false, false, false, false, false, false, false, false, false, false, false, false, false, false, false, false, false, false, false, false, false, false, false, false, false, false, false, false, false, false, false, false, false, false, false, false, false, false, false, false, false, false, false, false, false, false, false, false, false, false, false, false, false, false, false, false, false, false, false, false] (by kernel_rfl) rfl rfl ⟨hx493_0, ((HB.out.cell (World.block_lt_of_cell? w _ hw494_0)).trans hw494_0), ((HB.out.cell (World.block_lt_of_cell? w _ hw497_0)).trans hw497_0), hx500_0, ((HB.out.cell (World.block_lt_of_cell? w _ hw501_0)).trans hw501_0), ((HB.out.cell (World.block_lt_of_cell? w _ hw504_0)).trans hw504_0), hx509_0, ((HB.out.cell (World.block_lt_of_cell? w _ hw510_0)).trans hw510_0), ((HB.out.cell (World.block_lt_of_cell? w _ hw513_0)).trans hw513_0)⟩ (fun hHeld => ?_); refine with_tabW gimballaw10_VecSteps.tab23 gimballaw10_VecSteps.bits23 (fun HT_ HW_ => ?_)
              generalize wr.drew = w61 at HO_13 HO_15 HO_16 HI469 HI470 HB hx493_0 hx494_0 hx497_0 hx500_0 hx501_0 hx504_0 hx509_0 hx510_0 hx513_0 hHeld ⊢
              refine pure_ (i := 0) (N := some 159) (v := ?_) (a' := ?_) #[true, false, false, false, false, false, false, false, false, false, false, false, false, false, false, false, false, false, false, false, false, false, false, false, false, false, false, false, false, false, false, false, false, false, false, false, false, false, false, false, false, false, false, false, false, false, false, false, false, false, false, false, false, false, false, false, false, false, false, false, false, false, false, false] rfl rfl (any_of HT_.out (by kernel_rfl)) (fun _ _ _ h => h) (Or.inl ⟨by rfl, ?_⟩) ?_ ?_
              rotate_left
              ·
               intro w'
               go_simp
               with_reducible rfl
              rotate_left
              ·
               simp only [Act.put, sa0, sa1, sa2, i64_w, i32_w]
               rfl
              refine pure_ (i := 1) (N := some 160) (v := ?_) (a' := ?_) #[true, true, false, false, false, false, false, false, false, false, false, false, false, false, false, false, false, false, false, false, false, false, false, false, false, false, false, false, false, false, false, false, false, false, false, false, false, false, false, false, false, false, false, false, false, false, false, false, false, false, false, false, false, false, false, false, false, false, false, false, false, false, false, false] rfl rfl (any_of HT_.out (by kernel_rfl)) (fun _ _ _ h => h) (Or.inl ⟨by rfl, ?_⟩) ?_ ?_
              rotate_left
              ·
               intro w'
               go_simp
               with_reducible rfl
              rotate_left
              ·
               simp only [Act.put, sa0, sa1, sa2, i64_w, i32_w]
               rfl
              refine pure_ (i := 2) (N := some 161) (v := ?_) (a' := ?_) #[true, true, true, false, false, false, false, false, false, false, false, false, false, false, false, false, false, false, false, false, false, false, false, false, false, false, false, false, false, false, false, false, false, false, false, false, false, false, false, false, false, false, false, false, false, false, false, false, false, false, false, false, false, false, false, false, false, false, false, false, false, false, false, false] rfl rfl (any_of HT_.out (by kernel_rfl)) (fun _ _ _ h => h) (Or.inl ⟨by rfl, ?_⟩) ?_ ?_
              rotate_left
              ·
               intro w'
               go_simp
               with_reducible rfl
              rotate_left
              ·
               simp only [Act.put, sa0, sa1, sa2, i64_w, i32_w]
               rfl
              refine pure_ (i := 4) (N := some 163) (v := ?_) (a' := ?_) #[true, true, true, false, true, false, false, false, false, false, false, false, false, false, false, false, false, false, false, false, false, false, false, false, false, false, false, false, false, false, false, false, false, false, false, false, false, false, false, false, false, false, false, false, false, false, false, false, false, false, false, false, false, false, false, false, false, false, false, false, false, false, false, false] rfl rfl (any_of HT_.out (by kernel_rfl)) (fun _ _ _ h => h) (Or.inl ⟨by rfl, ?_⟩) ?_ ?_
              rotate_left
              ·
               intro w'
               go_simp
               with_reducible rfl
              rotate_left
              ·
               simp only [Act.put, sa0, sa1, sa2, i64_w, i32_w]
               rfl
              refine pure_ (i := 5) (N := some 164) (v := ?_) (a' := ?_) #[true, true, true, false, true, true, false, false, false, false, false, false, false, false, false, false, false, false, false, false, false, false, false, false, false, false, false, false, false, false, false, false, false, false, false, false, false, false, false, false, false, false, false, false, false, false, false, false, false, false, false, false, false, false, false, false, false, false, false, false, false, false, false, false] rfl rfl (any_of HT_.out (by kernel_rfl)) (fun _ _ _ h => h) (Or.inl ⟨by rfl, ?_⟩) ?_ ?_
              rotate_left
              ·
               intro w'
               go_simp
               with_reducible rfl
              rotate_left
              ·
               simp only [Act.put, sa0, sa1, sa2, i64_w, i32_w]
               rfl
              refine pure_ (i := 6) (N := some 165) (v := ?_) (a' := ?_) #[true, true, true, false, true, true, true, false, false, false, false, false, false, false, false, false, false, false, false, false, false, false, false, false, false, false, false, false, false, false, false, false, false, false, false, false, false, false, false, false, false, false, false, false, false, false, false, false, false, false, false, false, false, false, false, false, false, false, false, false, false, false, false, false] rfl rfl (any_of HT_.out (by kernel_rfl)) (fun _ _ _ h => h) (Or.inl ⟨by rfl, ?_⟩) ?_ ?_
              rotate_left
              ·
               intro w'
               go_simp
               with_reducible rfl
              rotate_left
              ·
               simp only [Act.put, sa0, sa1, sa2, i64_w, i32_w]
               rfl
              refine pure_ (i := 7) (N := some 166) (v := ?_) (a' := ?_) #[true, true, true, false, true, true, true, true, false, false, false, false, false, false, false, false, false, false, false, false, false, false, false, false, false, false, false, false, false, false, false, false, false, false, false, false, false, false, false, false, false, false, false, false, false, false, false, false, false, false, false, false, false, false, false, false, false, false, false, false, false, false, false, false] rfl rfl (any_of HT_.out (by kernel_rfl)) (fun _ _ _ h => h) (Or.inl ⟨by rfl, ?_⟩) ?_ ?_
              rotate_left
              ·
               intro w'
               go_simp
               with_reducible rfl
              rotate_left
              ·
               simp only [Act.put, sa0, sa1, sa2, i64_w, i32_w]
               rfl
              refine pure_ (i := 8) (N := some 167) (v := ?_) (a' := ?_) #[true, true, true, false, true, true, true, true, true, false, false, false, false, false, false, false, false, false, false, false, false, false, false, false, false, false, false, false, false, false, false, false, false, false, false, false, false, false, false, false, false, false, false, false, false, false, false, false, false, false, false, false, false, false, false, false, false, false, false, false, false, false, false, false] rfl rfl (any_of HT_.out (by kernel_rfl)) (fun _ _ _ h => h) (Or.inl ⟨by rfl, ?_⟩) ?_ ?_
              rotate_left
              ·
               intro w'
               go_simp
               with_reducible rfl
              rotate_left
              ·
               simp only [Act.put, sa0, sa1, sa2, i64_w, i32_w]
               rfl
              refine pure_ (i := 9) (N := some 168) (v := ?_) (a' := ?_) #[true, true, true, false, true, true, true, true, true, true, false, false, false, false, false, false, false, false, false, false, false, false, false, false, false, false, false, false, false, false, false, false, false, false, false, false, false, false, false, false, false, false, false, false, false, false, false, false, false, false, false, false, false, false, false, false, false, false, false, false, false, false, false, false] rfl rfl (any_of HT_.out (by kernel_rfl)) (fun _ _ _ h => h) (Or.inl ⟨by rfl, ?_⟩) ?_ ?_
              rotate_left
              ·
               intro w'
               go_simp
               with_reducible rfl
              rotate_left
              ·
               simp only [Act.put, sa0, sa1, sa2, i64_w, i32_w]
               rfl
              refine pure_ (i := 12) (N := some 171) (v := ?_) (a' := ?_) #[true, true, true, false, true, true, true, true, true, true, false, false, true, false, false, false, false, false, false, false, false, false, false, false, false, false, false, false, false, false, false, false, false, false, false, false, false, false, false, false, false, false, false, false, false, false, false, false, false, false, false, false, false, false, false, false, false, false, false, false, false, false, false, false] rfl rfl (any_of HT_.out (by kernel_rfl)) (fun _ _ _ h => h) (Or.inl ⟨by rfl, ?_⟩) ?_ ?_
              rotate_left
              ·
               intro w'
               go_simp
               with_reducible rfl
              rotate_left
              ·
               simp only [Act.put, sa0, sa1, sa2, i64_w, i32_w]
               rfl
              refine pure_ (i := 13) (N := some 172) (v := ?_) (a' := ?_) #[true, true, true, false, true, true, true, true, true, true, false, false, true, true, false, false, false, false, false, false, false, false, false, false, false, false, false, false, false, false, false, false, false, false, false, false, false, false, false, false, false, false, false, false, false, false, false, false, false, false, false, false, false, false, false, false, false, false, false, false, false, false, false, false] rfl rfl (any_of HT_.out (by kernel_rfl)) (fun _ _ _ h => h) (Or.inl ⟨by rfl, ?_⟩) ?_ ?_
              rotate_left
              ·
               intro w'
               go_simp
               with_reducible rfl
              rotate_left
              ·
               simp only [Act.put, sa0, sa1, sa2, i64_w, i32_w]
               rfl
              refine pure_ (i := 14) (N := some 173) (v := ?_) (a' := ?_) #[true, true, true, false, true, true, true, true, true, true, false, false, true, true, true, false, false, false, false, false, false, false, false, false, false, false, false, false, false, false, false, false, false, false, false, false, false, false, false, false, false, false, false, false, false, false, false, false, false, false, false, false, false, false, false, false, false, false, false, false, false, false, false, false] rfl rfl (any_of HT_.out (by kernel_rfl)) (fun _ _ _ h => h) (Or.inl ⟨by rfl, ?_⟩) ?_ ?_
              rotate_left
              ·
               intro w'
               go_simp
               with_reducible rfl
              rotate_left
              ·
               simp only [Act.put, sa0, sa1, sa2, i64_w, i32_w]
               rfl
              refine take_ (i := 3) (N := some 162) (v := ?_) (a' := ?_) #[true, true, true, true, true, true, true, true, true, true, false, false, true, true, true, false, false, false, false, false, false, false, false, false, false, false, false, false, false, false, false, false, false, false, false, false, false, false, false, false, false, false, false, false, false, false, false, false, false, false, false, false, false, false, false, false, false, false, false, false, false, false, false, false] rfl rfl (take_ofW HT_.out HW_.out (by kernel_rfl)) (fun _ _ _ h => h) (Or.inl ⟨by rfl, ?_⟩) hHeld ?_ ?_
              rotate_left
              ·
               rintro w' ⟨s0, s1, s2, s3, s4, s5, s6, s7, s8⟩
               go_simp
               with_reducible rfl
              rotate_left
              ·
               simp only [Act.put, sa0, sa1, sa2, i64_w, i32_w]
               rfl
              refine take_ (i := 10) (N := some 169) (v := ?_) (a' := ?_) #[true, true, true, true, true, true, true, true, true, true, true, false, true, true, true, false, false, false, false, false, false, false, false, false, false, false, false, false, false, false, false, false, false, false, false, false, false, false, false, false, false, false, false, false, false, false, false, false, false, false, false, false, false, false, false, false, false, false, false, false, false, false, false, false] rfl rfl (take_ofW HT_.out HW_.out (by kernel_rfl)) (fun _ _ _ h => h) (Or.inl ⟨by rfl, ?_⟩) hHeld ?_ ?_
              rotate_left
              ·
               rintro w' ⟨s0, s1, s2, s3, s4, s5, s6, s7, s8⟩
               go_simp
               with_reducible rfl
              rotate_left
              ·
               simp only [Act.put, sa0, sa1, sa2, i64_w, i32_w]
               rfl
              refine take_ (i := 15) (N := some 174) (v := ?_) (a' := ?_) #[true, true, true, true, true, true, true, true, true, true, true, false, true, true, true, true, false, false, false, false, false, false, false, false, false, false, false, false, false, false, false, false, false, false, false, false, false, false, false, false, false, false, false, false, false, false, false, false, false, false, false, false, false, false, false, false, false, false, false, false, false, false, false, false] rfl rfl (take_ofW HT_.out HW_.out (by kernel_rfl)) (fun _ _ _ h => h) (Or.inl ⟨by rfl, ?_⟩) hHeld ?_ ?_
              rotate_left
              ·
               rintro w' ⟨s0, s1, s2, s3, s4, s5, s6, s7, s8⟩
               go_simp
               with_reducible rfl
              rotate_left
              ·
               simp only [Act.put, sa0, sa1, sa2, i64_w, i32_w]
               rfl
              refine one_ (i := 11) (N := some 170) #[true, true, true, true, true, true, true, true, true, true, true, true, true, true, true, true, false, false, false, false, false, false, false, false, false, false, false, false, false, false, false, false, false, false, false, false, false, false, false, false, false, false, false, false, false, false, false, false, false, false, false, false, false, false, false, false, false, false, false, false, false, false, false, false] rfl rfl (one_of HT_.out (by kernel_rfl)) (by decide) (fun K hK => ?_)
              refine goes_ Try.func12 (by kernel_rfl) rfl #[.pointer (some ⟨gb470, 0, none⟩), .int .u64 a2, .int .u64 (rd l0 x156_4)] (by rfl) rfl rfl ga ?_
              with_reducible refine (soft_Calc_Mul.calls k4 gb470 x471000_4 a2 (rd l0 x156_4) t495 t496 w _ ?side1 ?side2 A44.out).mono ?_
              (case side1 => repeat (first | (with_reducible first | exact HI470.out | apply IsS27.alloc | apply IsS27.drewN | apply IsS27.drew | apply IsS27.set_0 | refine IsS27.far ?_ NB470_469.out _) | exact HI470.out))
              (case side2 => repeat (first | (with_reducible first | exact HB.out | apply below_alloc | apply pw_below_drewN | apply below_drew1 | refine below_set ?_ (IsS27.ge HI469.out) | refine below_set ?_ (IsS27.ge HI470.out)) | exact HB.out))
              rintro e w62 ⟨rfl, hi, hb, hk⟩
              have HS0_ := keep_cell hk (hHeld.1) (by first | (rw [add_block]; exact Kd.own_blk (IsS27.own_ne HI470.out HO_13.out (by decide))) | (show (Addr.add _ _).block ≠ _; rw [add_block]; exact Kd.own_blk (IsS27.own_ne HI470.out HO_13.out (by decide))) | exact Kd.own_blk (IsS27.own_ne HI470.out HO_13.out (by decide)))
              have HS3_ := keep_cell hk (hHeld.2.2.2.1) (by first | (rw [add_block]; exact Kd.own_blk (IsS27.own_ne HI470.out HO_15.out (by decide))) | (show (Addr.add _ _).block ≠ _; rw [add_block]; exact Kd.own_blk (IsS27.own_ne HI470.out HO_15.out (by decide))) | exact Kd.own_blk (IsS27.own_ne HI470.out HO_15.out (by decide)))
              have HS6_ := keep_cell hk (hHeld.2.2.2.2.2.2.1) (by first | (rw [add_block]; exact Kd.own_blk (IsS27.own_ne HI470.out HO_16.out (by decide))) | (show (Addr.add _ _).block ≠ _; rw [add_block]; exact Kd.own_blk (IsS27.own_ne HI470.out HO_16.out (by decide))) | exact Kd.own_blk (IsS27.own_ne HI470.out HO_16.out (by decide)))
              refine ⟨_, rfl, ?_⟩
              refine ax6 (Kd.R_mono (Kd.R_keep (IsS27.apart (show IsS27 w _ gb470 x471000_4 from by repeat (first | (with_reducible first | exact HI470.out | apply IsS27.alloc | apply IsS27.drewN | apply IsS27.drew | apply IsS27.set_0 | refine IsS27.far ?_ NB470_469.out _) | exact HI470.out)) (kr HO_13) (by decide)) hk (fun _ h => h.2)) (fun _ h => h.1)) (Kd.R_mono (Kd.R_keep (IsS27.apart (show IsS27 w _ gb470 x471000_4 from by repeat (first | (with_reducible first | exact HI470.out | apply IsS27.alloc | apply IsS27.drewN | apply IsS27.drew | apply IsS27.set_0 | refine IsS27.far ?_ NB470_469.out _) | exact HI470.out)) (kr HO_15) (by decide)) hk (fun _ h => h.2)) (fun _ h => h.1)) (Kd.R_mono (Kd.R_keep (IsS27.apart (show IsS27 w _ gb470 x471000_4 from by repeat (first | (with_reducible first | exact HI470.out | apply IsS27.alloc | apply IsS27.drewN | apply IsS27.drew | apply IsS27.set_0 | refine IsS27.far ?_ NB470_469.out _) | exact HI470.out)) (kr HO_16) (by decide)) hk (fun _ h => h.2)) (fun _ h => h.1)) ((show IsS27 w _ gb469 t486 from ⟨KeepBut.blk hk (show IsS27 w _ gb469 t486 from by repeat (first | (with_reducible first | exact HI469.out | apply IsS27.alloc | apply IsS27.drewN | apply IsS27.drew | apply IsS27.set_0 | refine IsS27.far ?_ NB469_470.out _) | exact HI469.out)).1 NB469_470.out (by simp), (show IsS27 w _ gb469 t486 from by repeat (first | (with_reducible first | exact HI469.out | apply IsS27.alloc | apply IsS27.drewN | apply IsS27.drew | apply IsS27.set_0 | refine IsS27.far ?_ NB469_470.out _) | exact HI469.out)).2⟩)) hb hi ?_
              clear HO_13 HO_15 HO_16 HI469 HB HI470
              intro HO_13 HO_15 HO_16 HI469 HB HI470
              (try clear hb)
              (try clear hb2)
              (try clear hk)
              (try clear hi)
              refine hK.out _ _ ⟨HS0_, ((HB.out.cell (World.block_lt_of_cell? w _ hw494_0)).trans hw494_0), ((HB.out.cell (World.block_lt_of_cell? w _ hw497_0)).trans hw497_0), HS3_, ((HB.out.cell (World.block_lt_of_cell? w _ hw501_0)).trans hw501_0), ((HB.out.cell (World.block_lt_of_cell? w _ hw504_0)).trans hw504_0), HS6_, ((HB.out.cell (World.block_lt_of_cell? w _ hw510_0)).trans hw510_0), ((HB.out.cell (World.block_lt_of_cell? w _ hw513_0)).trans hw513_0)⟩ (fun hHeld => ?_)
              clear hK K
              refine norm_ (a' := ?_) ?_ ?_
              rotate_left
              ·
               show Act.put _ (some 170) _ = _
               simp only [Act.put, sa0, sa1, sa2, i64_w, i32_w]
               rfl
              refine one_ (i := 16) (N := some 175) #[true, true, true, true, true, true, true, true, true, true, true, true, true, true, true, true, true, false, false, false, false, false, false, false, false, false, false, false, false, false, false, false, false, false, false, false, false, false, false, false, false, false, false, false, false, false, false, false, false, false, false, false, false, false, false, false, false, false, false, false, false, false, false, false] rfl rfl (one_of HT_.out (by kernel_rfl)) (by decide) (fun K hK => ?_)
              refine goes_ Try.func11 (by kernel_rfl) rfl #[.pointer (some ⟨gb470, 0, none⟩), .int .u64 t495, .int .u64 (rd l1 x156_4)] (by rfl) rfl rfl ga ?_
              with_reducible refine (soft_Calc_Add.calls k4 gb470 t496 t495 (rd l1 x156_4) t498 t499 w _ ?side1 ?side2 A46.out).mono ?_
              (case side1 => repeat (first | (with_reducible first | exact HI470.out | apply IsS27.alloc | apply IsS27.drewN | apply IsS27.drew | apply IsS27.set_0 | refine IsS27.far ?_ NB470_469.out _) | exact HI470.out))
              (case side2 => repeat (first | (with_reducible first | exact HB.out | apply below_alloc | apply pw_below_drewN | apply below_drew1 | refine below_set ?_ (IsS27.ge HI469.out) | refine below_set ?_ (IsS27.ge HI470.out)) | exact HB.out))
              rintro e w63 ⟨rfl, hi, hb, hk⟩
              have HS0_ := keep_cell hk (hHeld.1) (by first | (rw [add_block]; exact Kd.own_blk (IsS27.own_ne HI470.out HO_13.out (by decide))) | (show (Addr.add _ _).block ≠ _; rw [add_block]; exact Kd.own_blk (IsS27.own_ne HI470.out HO_13.out (by decide))) | exact Kd.own_blk (IsS27.own_ne HI470.out HO_13.out (by decide)))
              have HS3_ := keep_cell hk (hHeld.2.2.2.1) (by first | (rw [add_block]; exact Kd.own_blk (IsS27.own_ne HI470.out HO_15.out (by decide))) | (show (Addr.add _ _).block ≠ _; rw [add_block]; exact Kd.own_blk (IsS27.own_ne HI470.out HO_15.out (by decide))) | exact Kd.own_blk (IsS27.own_ne HI470.out HO_15.out (by decide)))
              have HS6_ := keep_cell hk (hHeld.2.2.2.2.2.2.1) (by first | (rw [add_block]; exact Kd.own_blk (IsS27.own_ne HI470.out HO_16.out (by decide))) | (show (Addr.add _ _).block ≠ _; rw [add_block]; exact Kd.own_blk (IsS27.own_ne HI470.out HO_16.out (by decide))) | exact Kd.own_blk (IsS27.own_ne HI470.out HO_16.out (by decide)))
              refine ⟨_, rfl, ?_⟩
              refine ax6 (Kd.R_mono (Kd.R_keep (IsS27.apart (show IsS27 w _ gb470 t496 from by repeat (first | (with_reducible first | exact HI470.out | apply IsS27.alloc | apply IsS27.drewN | apply IsS27.drew | apply IsS27.set_0 | refine IsS27.far ?_ NB470_469.out _) | exact HI470.out)) (kr HO_13) (by decide)) hk (fun _ h => h.2)) (fun _ h => h.1)) (Kd.R_mono (Kd.R_keep (IsS27.apart (show IsS27 w _ gb470 t496 from by repeat (first | (with_reducible first | exact HI470.out | apply IsS27.alloc | apply IsS27.drewN | apply IsS27.drew | apply IsS27.set_0 | refine IsS27.far ?_ NB470_469.out _) | exact HI470.out)) (kr HO_15) (by decide)) hk (fun _ h => h.2)) (fun _ h => h.1)) (Kd.R_mono (Kd.R_keep (IsS27.apart (show IsS27 w _ gb470 t496 from by repeat (first | (with_reducible first | exact HI470.out | apply IsS27.alloc | apply IsS27.drewN | apply IsS27.drew | apply IsS27.set_0 | refine IsS27.far ?_ NB470_469.out _) | exact HI470.out)) (kr HO_16) (by decide)) hk (fun _ h => h.2)) (fun _ h => h.1)) ((show IsS27 w _ gb469 t486 from ⟨KeepBut.blk hk (show IsS27 w _ gb469 t486 from by repeat (first | (with_reducible first | exact HI469.out | apply IsS27.alloc | apply IsS27.drewN | apply IsS27.drew | apply IsS27.set_0 | refine IsS27.far ?_ NB469_470.out _) | exact HI469.out)).1 NB469_470.out (by simp), (show IsS27 w _ gb469 t486 from by repeat (first | (with_reducible first | exact HI469.out | apply IsS27.alloc | apply IsS27.drewN | apply IsS27.drew | apply IsS27.set_0 | refine IsS27.far ?_ NB469_470.out _) | exact HI469.out)).2⟩)) hb hi ?_
              clear HO_13 HO_15 HO_16 HI469 HB HI470
              intro HO_13 HO_15 HO_16 HI469 HB HI470
              (try clear hb)
              (try clear hb2)
              (try clear hk)
              (try clear hi)
              refine hK.out _ _ ⟨HS0_, ((HB.out.cell (World.block_lt_of_cell? w _ hw494_0)).trans hw494_0), ((HB.out.cell (World.block_lt_of_cell? w _ hw497_0)).trans hw497_0), HS3_, ((HB.out.cell (World.block_lt_of_cell? w _ hw501_0)).trans hw501_0), ((HB.out.cell (World.block_lt_of_cell? w _ hw504_0)).trans hw504_0), HS6_, ((HB.out.cell (World.block_lt_of_cell? w _ hw510_0)).trans hw510_0), ((HB.out.cell (World.block_lt_of_cell? w _ hw513_0)).trans hw513_0)⟩ (fun hHeld => ?_)
              clear hK K
              refine norm_ (a' := ?_) ?_ ?_
              rotate_left
              ·
               show Act.put _ (some 175) _ = _
               simp only [Act.put, sa0, sa1, sa2, i64_w, i32_w]
               rfl
              refine pure_ (i := 17) (N := some 176) (v := ?_) (a' := ?_) #[true, true, true, true, true, true, true, true, true, true, true, true, true, true, true, true, true, true, false, false, false, false, false, false, false, false, false, false, false, false, false, false, false, false, false, false, false, false, false, false, false, false, false, false, false, false, false, false, false, false, false, false, false, false, false, false, false, false, false, false, false, false, false, false] rfl rfl (any_of HT_.out (by kernel_rfl)) (fun _ _ _ h => h) (Or.inl ⟨by rfl, ?_⟩) ?_ ?_
              rotate_left
              ·
               intro w'
               go_simp
               with_reducible rfl
              rotate_left
              ·
               simp only [Act.put, sa0, sa1, sa2, i64_w, i32_w]
               rfl
              refine pure_ (i := 18) (N := some 177) (v := ?_) (a' := ?_) #[true, true, true, true, true, true, true, true, true, true, true, true, true, true, true, true, true, true, true, false, false, false, false, false, false, false, false, false, false, false, false, false, false, false, false, false, false, false, false, false, false, false, false, false, false, false, false, false, false, false, false, false, false, false, false, false, false, false, false, false, false, false, false, false] rfl rfl (any_of HT_.out (by kernel_rfl)) (fun _ _ _ h => h) (Or.inl ⟨by rfl, ?_⟩) ?_ ?_
              rotate_left
              ·
               intro w'
               go_simp
               with_reducible rfl
              rotate_left
              ·
               simp only [Act.put, sa0, sa1, sa2, i64_w, i32_w]
               rfl
              refine pure_ (i := 19) (N := some 178) (v := ?_) (a' := ?_) #[true, true, true, true, true, true, true, true, true, true, true, true, true, true, true, true, true, true, true, true, false, false, false, false, false, false, false, false, false, false, false, false, false, false, false, false, false, false, false, false, false, false, false, false, false, false, false, false, false, false, false, false, false, false, false, false, false, false, false, false, false, false, false, false] rfl rfl (any_of HT_.out (by kernel_rfl)) (fun _ _ _ h => h) (Or.inl ⟨by rfl, ?_⟩) ?_ ?_
              rotate_left
              ·
               intro w'
               go_simp
               with_reducible rfl
              rotate_left
              ·
               simp only [Act.put, sa0, sa1, sa2, i64_w, i32_w]
               rfl
              refine pure_ (i := 20) (N := some 179) (v := ?_) (a' := ?_) #[true, true, true, true, true, true, true, true, true, true, true, true, true, true, true, true, true, true, true, true, true, false, false, false, false, false, false, false, false, false, false, false, false, false, false, false, false, false, false, false, false, false, false, false, false, false, false, false, false, false, false, false, false, false, false, false, false, false, false, false, false, false, false, false] rfl rfl (any_of HT_.out (by kernel_rfl)) (fun _ _ _ h => h) (Or.inl ⟨by rfl, ?_⟩) ?_ ?_
              rotate_left
              ·
               intro w'
               go_simp
               with_reducible rfl
              rotate_left
              ·
               simp only [Act.put, sa0, sa1, sa2, i64_w, i32_w]
               rfl
              refine pure_ (i := 21) (N := some 180) (v := ?_) (a' := ?_) #[true, true, true, true, true, true, true, true, true, true, true, true, true, true, true, true, true, true, true, true, true, true, false, false, false, false, false, false, false, false, false, false, false, false, false, false, false, false, false, false, false, false, false, false, false, false, false, false, false, false, false, false, false, false, false, false, false, false, false, false, false, false, false, false] rfl rfl (any_of HT_.out (by kernel_rfl)) (fun _ _ _ h => h) (Or.inl ⟨by rfl, ?_⟩) ?_ ?_
              rotate_left
              ·
               intro w'
               go_simp
               with_reducible rfl
              rotate_left
              ·
               simp only [Act.put, sa0, sa1, sa2, i64_w, i32_w]
               rfl
              refine pure_ (i := 23) (N := some 182) (v := ?_) (a' := ?_) #[true, true, true, true, true, true, true, true, true, true, true, true, true, true, true, true, true, true, true, true, true, true, false, true, false, false, false, false, false, false, false, false, false, false, false, false, false, false, false, false, false, false, false, false, false, false, false, false, false, false, false, false, false, false, false, false, false, false, false, false, false, false, false, false] rfl rfl (any_of HT_.out (by kernel_rfl)) (fun _ _ _ h => h) (Or.inl ⟨by rfl, ?_⟩) ?_ ?_
              rotate_left
              ·
               intro w'
               go_simp
               with_reducible rfl
              rotate_left
              ·
               simp only [Act.put, sa0, sa1, sa2, i64_w, i32_w]
               rfl
              refine pure_ (i := 24) (N := some 183) (v := ?_) (a' := ?_) #[true, true, true, true, true, true, true, true, true, true, true, true, true, true, true, true, true, true, true, true, true, true, false, true, true, false, false, false, false, false, false, false, false, false, false, false, false, false, false, false, false, false, false, false, false, false, false, false, false, false, false, false, false, false, false, false, false, false, false, false, false, false, false, false] rfl rfl (any_of HT_.out (by kernel_rfl)) (fun _ _ _ h => h) (Or.inl ⟨by rfl, ?_⟩) ?_ ?_
              rotate_left
              ·
               intro w'
               go_simp
               with_reducible rfl
              rotate_left
              ·
               simp only [Act.put, sa0, sa1, sa2, i64_w, i32_w]
               rfl
              refine pure_ (i := 25) (N := some 184) (v := ?_) (a' := ?_) #[true, true, true, true, true, true, true, true, true, true, true, true, true, true, true, true, true, true, true, true, true, true, false, true, true, true, false, false, false, false, false, false, false, false, false, false, false, false, false, false, false, false, false, false, false, false, false, false, false, false, false, false, false, false, false, false, false, false, false, false, false, false, false, false] rfl rfl (any_of HT_.out (by kernel_rfl)) (fun _ _ _ h => h) (Or.inl ⟨by rfl, ?_⟩) ?_ ?_
              rotate_left
              ·
               intro w'
               go_simp
               with_reducible rfl
              rotate_left
              ·
               simp only [Act.put, sa0, sa1, sa2, i64_w, i32_w]
               rfl
              refine pure_ (i := 26) (N := some 185) (v := ?_) (a' := ?_) #[true, true, true, true, true, true, true, true, true, true, true, true, true, true, true, true, true, true, true, true, true, true, false, true, true, true, true, false, false, false, false, false, false, false, false, false, false, false, false, false, false, false, false, false, false, false, false, false, false, false, false, false, false, false, false, false, false, false, false, false, false, false, false, false] rfl rfl (any_of HT_.out (by kernel_rfl)) (fun _ _ _ h => h) (Or.inl ⟨by rfl, ?_⟩) ?_ ?_
              rotate_left
              ·
               intro w'
               go_simp
               with_reducible rfl
              rotate_left
              ·
               simp only [Act.put, sa0, sa1, sa2, i64_w, i32_w]
               rfl
              refine pure_ (i := 27) (N := some 186) (v := ?_) (a' := ?_) #[true, true, true, true, true, true, true, true, true, true, true, true, true, true, true, true, true, true, true, true, true, true, false, true, true, true, true, true, false, false, false, false, false, false, false, false, false, false, false, false, false, false, false, false, false, false, false, false, false, false, false, false, false, false, false, false, false, false, false, false, false, false, false, false] rfl rfl (any_of HT_.out (by kernel_rfl)) (fun _ _ _ h => h) (Or.inl ⟨by rfl, ?_⟩) ?_ ?_
              rotate_left
              ·
               intro w'
               go_simp
               with_reducible rfl
              rotate_left
              ·
               simp only [Act.put, sa0, sa1, sa2, i64_w, i32_w]
               rfl
              refine pure_ (i := 28) (N := some 187) (v := ?_) (a' := ?_) #[true, true, true, true, true, true, true, true, true, true, true, true, true, true, true, true, true, true, true, true, true, true, false, true, true, true, true, true, true, false, false, false, false, false, false, false, false, false, false, false, false, false, false, false, false, false, false, false, false, false, false, false, false, false, false, false, false, false, false, false, false, false, false, false] rfl rfl (any_of HT_.out (by kernel_rfl)) (fun _ _ _ h => h) (Or.inl ⟨by rfl, ?_⟩) ?_ ?_
              rotate_left
              ·
               intro w'
               go_simp
               with_reducible rfl
              rotate_left
              ·
               simp only [Act.put, sa0, sa1, sa2, i64_w, i32_w]
               rfl
              refine pure_ (i := 31) (N := some 190) (v := ?_) (a' := ?_) #[true, true, true, true, true, true, true, true, true, true, true, true, true, true, true, true, true, true, true, true, true, true, false, true, true, true, true, true, true, false, false, true, false, false, false, false, false, false, false, false, false, false, false, false, false, false, false, false, false, false, false, false, false, false, false, false, false, false, false, false, false, false, false, false] rfl rfl (any_of HT_.out (by kernel_rfl)) (fun _ _ _ h => h) (Or.inl ⟨by rfl, ?_⟩) ?_ ?_
              rotate_left
              ·
               intro w'
               go_simp
               with_reducible rfl
              rotate_left
              ·
               simp only [Act.put, sa0, sa1, sa2, i64_w, i32_w]
               rfl
              refine pure_ (i := 32) (N := some 191) (v := ?_) (a' := ?_) #[true, true, true, true, true, true, true, true, true, true, true, true, true, true, true, true, true, true, true, true, true, true, false, true, true, true, true, true, true, false, false, true, true, false, false, false, false, false, false, false, false, false, false, false, false, false, false, false, false, false, false, false, false, false, false, false, false, false, false, false, false, false, false, false] rfl rfl (any_of HT_.out (by kernel_rfl)) (fun _ _ _ h => h) (Or.inl ⟨by rfl, ?_⟩) ?_ ?_
              rotate_left
              ·
               intro w'
               go_simp
               with_reducible rfl
              rotate_left
              ·
               simp only [Act.put, sa0, sa1, sa2, i64_w, i32_w]
               rfl
              refine pure_ (i := 33) (N := some 192) (v := ?_) (a' := ?_) #[true, true, true, true, true, true, true, true, true, true, true, true, true, true, true, true, true, true, true, true, true, true, false, true, true, true, true, true, true, false, false, true, true, true, false, false, false, false, false, false, false, false, false, false, false, false, false, false, false, false, false, false, false, false, false, false, false, false, false, false, false, false, false, false] rfl rfl (any_of HT_.out (by kernel_rfl)) (fun _ _ _ h => h) (Or.inl ⟨by rfl, ?_⟩) ?_ ?_
              rotate_left
              ·
               intro w'
               go_simp
               with_reducible rfl
              rotate_left
              ·
               simp only [Act.put, sa0, sa1, sa2, i64_w, i32_w]
               rfl
              refine pure_ (i := 34) (N := some 193) (v := ?_) (a' := ?_) #[true, true, true, true, true, true, true, true, true, true, true, true, true, true, true, true, true, true, true, true, true, true, false, true, true, true, true, true, true, false, false, true, true, true, true, false, false, false, false, false, false, false, false, false, false, false, false, false, false, false, false, false, false, false, false, false, false, false, false, false, false, false, false, false] rfl rfl (any_of HT_.out (by kernel_rfl)) (fun _ _ _ h => h) (Or.inl ⟨by rfl, ?_⟩) ?_ ?_
              rotate_left
              ·
               intro w'
               go_simp
               with_reducible rfl
              rotate_left
              ·
               simp only [Act.put, sa0, sa1, sa2, i64_w, i32_w]
               rfl
              refine pure_ (i := 35) (N := some 194) (v := ?_) (a' := ?_) #[true, true, true, true, true, true, true, true, true, true, true, true, true, true, true, true, true, true, true, true, true, true, false, true, true, true, true, true, true, false, false, true, true, true, true, true, false, false, false, false, false, false, false, false, false, false, false, false, false, false, false, false, false, false, false, false, false, false, false, false, false, false, false, false] rfl rfl (any_of HT_.out (by kernel_rfl)) (fun _ _ _ h => h) (Or.inl ⟨by rfl, ?_⟩) ?_ ?_
              rotate_left
              ·
               intro w'
               go_simp
               with_reducible rfl
              rotate_left
              ·
               simp only [Act.put, sa0, sa1, sa2, i64_w, i32_w]
               rfl
              refine take_ (i := 22) (N := some 181) (v := ?_) (a' := ?_) #[true, true, true, true, true, true, true, true, true, true, true, true, true, true, true, true, true, true, true, true, true, true, true, true, true, true, true, true, true, false, false, true, true, true, true, true, false, false, false, false, false, false, false, false, false, false, false, false, false, false, false, false, false, false, false, false, false, false, false, false, false, false, false, false] rfl rfl (take_ofW HT_.out HW_.out (by kernel_rfl)) (fun _ _ _ h => h) (Or.inl ⟨by rfl, ?_⟩) hHeld ?_ ?_
              rotate_left
              ·
               rintro w' ⟨s0, s1, s2, s3, s4, s5, s6, s7, s8⟩
               go_simp
               with_reducible rfl
              rotate_left
              ·
               simp only [Act.put, sa0, sa1, sa2, i64_w, i32_w]
               rfl
              refine take_ (i := 29) (N := some 188) (v := ?_) (a' := ?_) #[true, true, true, true, true, true, true, true, true, true, true, true, true, true, true, true, true, true, true, true, true, true, true, true, true, true, true, true, true, true, false, true, true, true, true, true, false, false, false, false, false, false, false, false, false, false, false, false, false, false, false, false, false, false, false, false, false, false, false, false, false, false, false, false] rfl rfl (take_ofW HT_.out HW_.out (by kernel_rfl)) (fun _ _ _ h => h) (Or.inl ⟨by rfl, ?_⟩) hHeld ?_ ?_
              rotate_left
              ·
               rintro w' ⟨s0, s1, s2, s3, s4, s5, s6, s7, s8⟩
               go_simp
               with_reducible rfl
              rotate_left
              ·
               simp only [Act.put, sa0, sa1, sa2, i64_w, i32_w]
               rfl
              refine take_ (i := 36) (N := some 195) (v := ?_) (a' := ?_) #[true, true, true, true, true, true, true, true, true, true, true, true, true, true, true, true, true, true, true, true, true, true, true, true, true, true, true, true, true, true, false, true, true, true, true, true, true, false, false, false, false, false, false, false, false, false, false, false, false, false, false, false, false, false, false, false, false, false, false, false, false, false, false, false] rfl rfl (take_ofW HT_.out HW_.out (by kernel_rfl)) (fun _ _ _ h => h) (Or.inl ⟨by rfl, ?_⟩) hHeld ?_ ?_
              rotate_left
              ·
               rintro w' ⟨s0, s1, s2, s3, s4, s5, s6, s7, s8⟩
               go_simp
               with_reducible rfl
              rotate_left
              ·
               simp only [Act.put, sa0, sa1, sa2, i64_w, i32_w]
               rfl
              refine one_ (i := 30) (N := some 189) #[true, true, true, true, true, true, true, true, true, true, true, true, true, true, true, true, true, true, true, true, true, true, true, true, true, true, true, true, true, true, true, true, true, true, true, true, true, false, false, false, false, false, false, false, false, false, false, false, false, false, false, false, false, false, false, false, false, false, false, false, false, false, false, false] rfl rfl (one_of HT_.out (by kernel_rfl)) (by decide) (fun K hK => ?_)
              refine goes_ Try.func12 (by kernel_rfl) rfl #[.pointer (some ⟨gb470, 0, none⟩), .int .u64 a2, .int .u64 (rd l0 x156_4)] (by rfl) rfl rfl ga ?_
              with_reducible refine (soft_Calc_Mul.calls k4 gb470 t499 a2 (rd l0 x156_4) t502 t503 w _ ?side1 ?side2 A49.out).mono ?_
              (case side1 => repeat (first | (with_reducible first | exact HI470.out | apply IsS27.alloc | apply IsS27.drewN | apply IsS27.drew | apply IsS27.set_0 | refine IsS27.far ?_ NB470_469.out _) | exact HI470.out))
              (case side2 => repeat (first | (with_reducible first | exact HB.out | apply below_alloc | apply pw_below_drewN | apply below_drew1 | refine below_set ?_ (IsS27.ge HI469.out) | refine below_set ?_ (IsS27.ge HI470.out)) | exact HB.out))
              rintro e w64 ⟨rfl, hi, hb, hk⟩
              have HS0_ := keep_cell hk (hHeld.1) (by first | (rw [add_block]; exact Kd.own_blk (IsS27.own_ne HI470.out HO_13.out (by decide))) | (show (Addr.add _ _).block ≠ _; rw [add_block]; exact Kd.own_blk (IsS27.own_ne HI470.out HO_13.out (by decide))) | exact Kd.own_blk (IsS27.own_ne HI470.out HO_13.out (by decide)))
              have HS3_ := keep_cell hk (hHeld.2.2.2.1) (by first | (rw [add_block]; exact Kd.own_blk (IsS27.own_ne HI470.out HO_15.out (by decide))) | (show (Addr.add _ _).block ≠ _; rw [add_block]; exact Kd.own_blk (IsS27.own_ne HI470.out HO_15.out (by decide))) | exact Kd.own_blk (IsS27.own_ne HI470.out HO_15.out (by decide)))
              have HS6_ := keep_cell hk (hHeld.2.2.2.2.2.2.1) (by first | (rw [add_block]; exact Kd.own_blk (IsS27.own_ne HI470.out HO_16.out (by decide))) | (show (Addr.add _ _).block ≠ _; rw [add_block]; exact Kd.own_blk (IsS27.own_ne HI470.out HO_16.out (by decide))) | exact Kd.own_blk (IsS27.own_ne HI470.out HO_16.out (by decide)))
              refine ⟨_, rfl, ?_⟩
              refine ax6 (Kd.R_mono (Kd.R_keep (IsS27.apart (show IsS27 w _ gb470 t499 from by repeat (first | (with_reducible first | exact HI470.out | apply IsS27.alloc | apply IsS27.drewN | apply IsS27.drew | apply IsS27.set_0 | refine IsS27.far ?_ NB470_469.out _) | exact HI470.out)) (kr HO_13) (by decide)) hk (fun _ h => h.2)) (fun _ h => h.1)) (Kd.R_mono (Kd.R_keep (IsS27.apart (show IsS27 w _ gb470 t499 from by repeat (first | (with_reducible first | exact HI470.out | apply IsS27.alloc | apply IsS27.drewN | apply IsS27.drew | apply IsS27.set_0 | refine IsS27.far ?_ NB470_469.out _) | exact HI470.out)) (kr HO_15) (by decide)) hk (fun _ h => h.2)) (fun _ h => h.1)) (Kd.R_mono (Kd.R_keep (IsS27.apart (show IsS27 w _ gb470 t499 from by repeat (first | (with_reducible first | exact HI470.out | apply IsS27.alloc | apply IsS27.drewN | apply IsS27.drew | apply IsS27.set_0 | refine IsS27.far ?_ NB470_469.out _) | exact HI470.out)) (kr HO_16) (by decide)) hk (fun _ h => h.2)) (fun _ h => h.1)) ((show IsS27 w _ gb469 t486 from ⟨KeepBut.blk hk (show IsS27 w _ gb469 t486 from by repeat (first | (with_reducible first | exact HI469.out | apply IsS27.alloc | apply IsS27.drewN | apply IsS27.drew | apply IsS27.set_0 | refine IsS27.far ?_ NB469_470.out _) | exact HI469.out)).1 NB469_470.out (by simp), (show IsS27 w _ gb469 t486 from by repeat (first | (with_reducible first | exact HI469.out | apply IsS27.alloc | apply IsS27.drewN | apply IsS27.drew | apply IsS27.set_0 | refine IsS27.far ?_ NB469_470.out _) | exact HI469.out)).2⟩)) hb hi ?_
              clear HO_13 HO_15 HO_16 HI469 HB HI470
              intro HO_13 HO_15 HO_16 HI469 HB HI470
              (try clear hb)
              (try clear hb2)
              (try clear hk)
              (try clear hi)
              refine hK.out _ _ ⟨HS0_, ((HB.out.cell (World.block_lt_of_cell? w _ hw494_0)).trans hw494_0), ((HB.out.cell (World.block_lt_of_cell? w _ hw497_0)).trans hw497_0), HS3_, ((HB.out.cell (World.block_lt_of_cell? w _ hw501_0)).trans hw501_0), ((HB.out.cell (World.block_lt_of_cell? w _ hw504_0)).trans hw504_0), HS6_, ((HB.out.cell (World.block_lt_of_cell? w _ hw510_0)).trans hw510_0), ((HB.out.cell (World.block_lt_of_cell? w _ hw513_0)).trans hw513_0)⟩ (fun hHeld => ?_)
              clear hK K
              refine norm_ (a' := ?_) ?_ ?_
              rotate_left
              ·
               show Act.put _ (some 189) _ = _
               simp only [Act.put, sa0, sa1, sa2, i64_w, i32_w]
               rfl
              refine one_ (i := 37) (N := some 196) #[true, true, true, true, true, true, true, true, true, true, true, true, true, true, true, true, true, true, true, true, true, true, true, true, true, true, true, true, true, true, true, true, true, true, true, true, true, true, false, false, false, false, false, false, false, false, false, false, false, false, false, false, false, false, false, false, false, false, false, false, false, false, false, false] rfl rfl (one_of HT_.out (by kernel_rfl)) (by decide) (fun K hK => ?_)
              refine goes_ Try.func12 (by kernel_rfl) rfl #[.pointer (some ⟨gb470, 0, none⟩), .int .u64 a3, .int .u64 (rd l1 x156_4)] (by rfl) rfl rfl ga ?_
              with_reducible refine (soft_Calc_Mul.calls k4 gb470 t503 a3 (rd l1 x156_4) t505 t506 w _ ?side1 ?side2 A50.out).mono ?_
              (case side1 => repeat (first | (with_reducible first | exact HI470.out | apply IsS27.alloc | apply IsS27.drewN | apply IsS27.drew | apply IsS27.set_0 | refine IsS27.far ?_ NB470_469.out _) | exact HI470.out))
              (case side2 => repeat (first | (with_reducible first | exact HB.out | apply below_alloc | apply pw_below_drewN | apply below_drew1 | refine below_set ?_ (IsS27.ge HI469.out) | refine below_set ?_ (IsS27.ge HI470.out)) | exact HB.out))
              rintro e w65 ⟨rfl, hi, hb, hk⟩
              have HS0_ := keep_cell hk (hHeld.1) (by first | (rw [add_block]; exact Kd.own_blk (IsS27.own_ne HI470.out HO_13.out (by decide))) | (show (Addr.add _ _).block ≠ _; rw [add_block]; exact Kd.own_blk (IsS27.own_ne HI470.out HO_13.out (by decide))) | exact Kd.own_blk (IsS27.own_ne HI470.out HO_13.out (by decide)))
              have HS3_ := keep_cell hk (hHeld.2.2.2.1) (by first | (rw [add_block]; exact Kd.own_blk (IsS27.own_ne HI470.out HO_15.out (by decide))) | (show (Addr.add _ _).block ≠ _; rw [add_block]; exact Kd.own_blk (IsS27.own_ne HI470.out HO_15.out (by decide))) | exact Kd.own_blk (IsS27.own_ne HI470.out HO_15.out (by decide)))
              have HS6_ := keep_cell hk (hHeld.2.2.2.2.2.2.1) (by first | (rw [add_block]; exact Kd.own_blk (IsS27.own_ne HI470.out HO_16.out (by decide))) | (show (Addr.add _ _).block ≠ _; rw [add_block]; exact Kd.own_blk (IsS27.own_ne HI470.out HO_16.out (by decide))) | exact Kd.own_blk (IsS27.own_ne HI470.out HO_16.out (by decide)))
              refine ⟨_, rfl, ?_⟩
              refine ax6 (Kd.R_mono (Kd.R_keep (IsS27.apart (show IsS27 w _ gb470 t503 from by repeat (first | (with_reducible first | exact HI470.out | apply IsS27.alloc | apply IsS27.drewN | apply IsS27.drew | apply IsS27.set_0 | refine IsS27.far ?_ NB470_469.out _) | exact HI470.out)) (kr HO_13) (by decide)) hk (fun _ h => h.2)) (fun _ h => h.1)) (Kd.R_mono (Kd.R_keep (IsS27.apart (show IsS27 w _ gb470 t503 from by repeat (first | (with_reducible first | exact HI470.out | apply IsS27.alloc | apply IsS27.drewN | apply IsS27.drew | apply IsS27.set_0 | refine IsS27.far ?_ NB470_469.out _) | exact HI470.out)) (kr HO_15) (by decide)) hk (fun _ h => h.2)) (fun _ h => h.1)) (Kd.R_mono (Kd.R_keep (IsS27.apart (show IsS27 w _ gb470 t503 from by repeat (first | (with_reducible first | exact HI470.out | apply IsS27.alloc | apply IsS27.drewN | apply IsS27.drew | apply IsS27.set_0 | refine IsS27.far ?_ NB470_469.out _) | exact HI470.out)) (kr HO_16) (by decide)) hk (fun _ h => h.2)) (fun _ h => h.1)) ((show IsS27 w _ gb469 t486 from ⟨KeepBut.blk hk (show IsS27 w _ gb469 t486 from by repeat (first | (with_reducible first | exact HI469.out | apply IsS27.alloc | apply IsS27.drewN | apply IsS27.drew | apply IsS27.set_0 | refine IsS27.far ?_ NB469_470.out _) | exact HI469.out)).1 NB469_470.out (by simp), (show IsS27 w _ gb469 t486 from by repeat (first | (with_reducible first | exact HI469.out | apply IsS27.alloc | apply IsS27.drewN | apply IsS27.drew | apply IsS27.set_0 | refine IsS27.far ?_ NB469_470.out _) | exact HI469.out)).2⟩)) hb hi ?_
              clear HO_13 HO_15 HO_16 HI469 HB HI470
              intro HO_13 HO_15 HO_16 HI469 HB HI470
              (try clear hb)
              (try clear hb2)
              (try clear hk)
              (try clear hi)
              refine hK.out _ _ ⟨HS0_, ((HB.out.cell (World.block_lt_of_cell? w _ hw494_0)).trans hw494_0), ((HB.out.cell (World.block_lt_of_cell? w _ hw497_0)).trans hw497_0), HS3_, ((HB.out.cell (World.block_lt_of_cell? w _ hw501_0)).trans hw501_0), ((HB.out.cell (World.block_lt_of_cell? w _ hw504_0)).trans hw504_0), HS6_, ((HB.out.cell (World.block_lt_of_cell? w _ hw510_0)).trans hw510_0), ((HB.out.cell (World.block_lt_of_cell? w _ hw513_0)).trans hw513_0)⟩ (fun hHeld => ?_)
              clear hK K
              refine norm_ (a' := ?_) ?_ ?_
              rotate_left
              ·
               show Act.put _ (some 196) _ = _
               simp only [Act.put, sa0, sa1, sa2, i64_w, i32_w]
               rfl
              refine one_ (i := 38) (N := some 197) #[true, true, true, true, true, true, true, true, true, true, true, true, true, true, true, true, true, true, true, true, true, true, true, true, true, true, true, true, true, true, true, true, true, true, true, true, true, true, true, false, false, false, false, false, false, false, false, false, false, false, false, false, false, false, false, false, false, false, false, false, false, false, false, false] rfl rfl (one_of HT_.out (by kernel_rfl)) (by decide) (fun K hK => ?_)
              refine goes_ Try.func11 (by kernel_rfl) rfl #[.pointer (some ⟨gb470, 0, none⟩), .int .u64 t502, .int .u64 t505] (by rfl) rfl rfl ga ?_
              with_reducible refine (soft_Calc_Add.calls k4 gb470 t506 t502 t505 t507 t508 w _ ?side1 ?side2 A51.out).mono ?_
              (case side1 => repeat (first | (with_reducible first | exact HI470.out | apply IsS27.alloc | apply IsS27.drewN | apply IsS27.drew | apply IsS27.set_0 | refine IsS27.far ?_ NB470_469.out _) | exact HI470.out))
              (case side2 => repeat (first | (with_reducible first | exact HB.out | apply below_alloc | apply pw_below_drewN | apply below_drew1 | refine below_set ?_ (IsS27.ge HI469.out) | refine below_set ?_ (IsS27.ge HI470.out)) | exact HB.out))
              rintro e w66 ⟨rfl, hi, hb, hk⟩
              have HS0_ := keep_cell hk (hHeld.1) (by first | (rw [add_block]; exact Kd.own_blk (IsS27.own_ne HI470.out HO_13.out (by decide))) | (show (Addr.add _ _).block ≠ _; rw [add_block]; exact Kd.own_blk (IsS27.own_ne HI470.out HO_13.out (by decide))) | exact Kd.own_blk (IsS27.own_ne HI470.out HO_13.out (by decide)))
              have HS3_ := keep_cell hk (hHeld.2.2.2.1) (by first | (rw [add_block]; exact Kd.own_blk (IsS27.own_ne HI470.out HO_15.out (by decide))) | (show (Addr.add _ _).block ≠ _; rw [add_block]; exact Kd.own_blk (IsS27.own_ne HI470.out HO_15.out (by decide))) | exact Kd.own_blk (IsS27.own_ne HI470.out HO_15.out (by decide)))
              have HS6_ := keep_cell hk (hHeld.2.2.2.2.2.2.1) (by first | (rw [add_block]; exact Kd.own_blk (IsS27.own_ne HI470.out HO_16.out (by decide))) | (show (Addr.add _ _).block ≠ _; rw [add_block]; exact Kd.own_blk (IsS27.own_ne HI470.out HO_16.out (by decide))) | exact Kd.own_blk (IsS27.own_ne HI470.out HO_16.out (by decide)))
              refine ⟨_, rfl, ?_⟩
              refine ax6 (Kd.R_mono (Kd.R_keep (IsS27.apart (show IsS27 w _ gb470 t506 from by repeat (first | (with_reducible first | exact HI470.out | apply IsS27.alloc | apply IsS27.drewN | apply IsS27.drew | apply IsS27.set_0 | refine IsS27.far ?_ NB470_469.out _) | exact HI470.out)) (kr HO_13) (by decide)) hk (fun _ h => h.2)) (fun _ h => h.1)) (Kd.R_mono (Kd.R_keep (IsS27.apart (show IsS27 w _ gb470 t506 from by repeat (first | (with_reducible first | exact HI470.out | apply IsS27.alloc | apply IsS27.drewN | apply IsS27.drew | apply IsS27.set_0 | refine IsS27.far ?_ NB470_469.out _) | exact HI470.out)) (kr HO_15) (by decide)) hk (fun _ h => h.2)) (fun _ h => h.1)) (Kd.R_mono (Kd.R_keep (IsS27.apart (show IsS27 w _ gb470 t506 from by repeat (first | (with_reducible first | exact HI470.out | apply IsS27.alloc | apply IsS27.drewN | apply IsS27.drew | apply IsS27.set_0 | refine IsS27.far ?_ NB470_469.out _) | exact HI470.out)) (kr HO_16) (by decide)) hk (fun _ h => h.2)) (fun _ h => h.1)) ((show IsS27 w _ gb469 t486 from ⟨KeepBut.blk hk (show IsS27 w _ gb469 t486 from by repeat (first | (with_reducible first | exact HI469.out | apply IsS27.alloc | apply IsS27.drewN | apply IsS27.drew | apply IsS27.set_0 | refine IsS27.far ?_ NB469_470.out _) | exact HI469.out)).1 NB469_470.out (by simp), (show IsS27 w _ gb469 t486 from by repeat (first | (with_reducible first | exact HI469.out | apply IsS27.alloc | apply IsS27.drewN | apply IsS27.drew | apply IsS27.set_0 | refine IsS27.far ?_ NB469_470.out _) | exact HI469.out)).2⟩)) hb hi ?_
              clear HO_13 HO_15 HO_16 HI469 HB HI470
              intro HO_13 HO_15 HO_16 HI469 HB HI470
              (try clear hb)
              (try clear hb2)
              (try clear hk)
              (try clear hi)
              refine hK.out _ _ ⟨HS0_, ((HB.out.cell (World.block_lt_of_cell? w _ hw494_0)).trans hw494_0), ((HB.out.cell (World.block_lt_of_cell? w _ hw497_0)).trans hw497_0), HS3_, ((HB.out.cell (World.block_lt_of_cell? w _ hw501_0)).trans hw501_0), ((HB.out.cell (World.block_lt_of_cell? w _ hw504_0)).trans hw504_0), HS6_, ((HB.out.cell (World.block_lt_of_cell? w _ hw510_0)).trans hw510_0), ((HB.out.cell (World.block_lt_of_cell? w _ hw513_0)).trans hw513_0)⟩ (fun hHeld => ?_)
              clear hK K
              refine norm_ (a' := ?_) ?_ ?_
              rotate_left
              ·
               show Act.put _ (some 197) _ = _
               simp only [Act.put, sa0, sa1, sa2, i64_w, i32_w]
               rfl
              refine pure_ (i := 39) (N := some 198) (v := ?_) (a' := ?_) #[true, true, true, true, true, true, true, true, true, true, true, true, true, true, true, true, true, true, true, true, true, true, true, true, true, true, true, true, true, true, true, true, true, true, true, true, true, true, true, true, false, false, false, false, false, false, false, false, false, false, false, false, false, false, false, false, false, false, false, false, false, false, false, false] rfl rfl (any_of HT_.out (by kernel_rfl)) (fun _ _ _ h => h) (Or.inl ⟨by rfl, ?_⟩) ?_ ?_
              rotate_left
              ·
               intro w'
               go_simp
               with_reducible rfl
              rotate_left
              ·
               simp only [Act.put, sa0, sa1, sa2, i64_w, i32_w]
               rfl
              refine pure_ (i := 40) (N := some 199) (v := ?_) (a' := ?_) #[true, true, true, true, true, true, true, true, true, true, true, true, true, true, true, true, true, true, true, true, true, true, true, true, true, true, true, true, true, true, true, true, true, true, true, true, true, true, true, true, true, false, false, false, false, false, false, false, false, false, false, false, false, false, false, false, false, false, false, false, false, false, false, false] rfl rfl (any_of HT_.out (by kernel_rfl)) (fun _ _ _ h => h) (Or.inl ⟨by rfl, ?_⟩) ?_ ?_
              rotate_left
              ·
               intro w'
               go_simp
               with_reducible rfl
              rotate_left
              ·
               simp only [Act.put, sa0, sa1, sa2, i64_w, i32_w]
               rfl
              refine pure_ (i := 41) (N := some 200) (v := ?_) (a' := ?_) #[true, true, true, true, true, true, true, true, true, true, true, true, true, true, true, true, true, true, true, true, true, true, true, true, true, true, true, true, true, true, true, true, true, true, true, true, true, true, true, true, true, true, false, false, false, false, false, false, false, false, false, false, false, false, false, false, false, false, false, false, false, false, false, false] rfl rfl (any_of HT_.out (by kernel_rfl)) (fun _ _ _ h => h) (Or.inl ⟨by rfl, ?_⟩) ?_ ?_
              rotate_left
              ·
               intro w'
               go_simp
               with_reducible rfl
              rotate_left
              ·
               simp only [Act.put, sa0, sa1, sa2, i64_w, i32_w]
               rfl
              refine pure_ (i := 42) (N := some 201) (v := ?_) (a' := ?_) #[true, true, true, true, true, true, true, true, true, true, true, true, true, true, true, true, true, true, true, true, true, true, true, true, true, true, true, true, true, true, true, true, true, true, true, true, true, true, true, true, true, true, true, false, false, false, false, false, false, false, false, false, false, false, false, false, false, false, false, false, false, false, false, false] rfl rfl (any_of HT_.out (by kernel_rfl)) (fun _ _ _ h => h) (Or.inl ⟨by rfl, ?_⟩) ?_ ?_
              rotate_left
              ·
               intro w'
               go_simp
               with_reducible rfl
              rotate_left
              ·
               simp only [Act.put, sa0, sa1, sa2, i64_w, i32_w]
               rfl
              refine pure_ (i := 43) (N := some 202) (v := ?_) (a' := ?_) #[true, true, true, true, true, true, true, true, true, true, true, true, true, true, true, true, true, true, true, true, true, true, true, true, true, true, true, true, true, true, true, true, true, true, true, true, true, true, true, true, true, true, true, true, false, false, false, false, false, false, false, false, false, false, false, false, false, false, false, false, false, false, false, false] rfl rfl (any_of HT_.out (by kernel_rfl)) (fun _ _ _ h => h) (Or.inl ⟨by rfl, ?_⟩) ?_ ?_
              rotate_left
              ·
               intro w'
               go_simp
               with_reducible rfl
              rotate_left
              ·
               simp only [Act.put, sa0, sa1, sa2, i64_w, i32_w]
               rfl
              refine pure_ (i := 44) (N := some 203) (v := ?_) (a' := ?_) #[true, true, true, true, true, true, true, true, true, true, true, true, true, true, true, true, true, true, true, true, true, true, true, true, true, true, true, true, true, true, true, true, true, true, true, true, true, true, true, true, true, true, true, true, true, false, false, false, false, false, false, false, false, false, false, false, false, false, false, false, false, false, false, false] rfl rfl (any_of HT_.out (by kernel_rfl)) (fun _ _ _ h => h) (Or.inl ⟨by rfl, ?_⟩) ?_ ?_
              rotate_left
              ·
               intro w'
               go_simp
               with_reducible rfl
              rotate_left
              ·
               simp only [Act.put, sa0, sa1, sa2, i64_w, i32_w]
               rfl
              refine pure_ (i := 46) (N := some 205) (v := ?_) (a' := ?_) #[true, true, true, true, true, true, true, true, true, true, true, true, true, true, true, true, true, true, true, true, true, true, true, true, true, true, true, true, true, true, true, true, true, true, true, true, true, true, true, true, true, true, true, true, true, false, true, false, false, false, false, false, false, false, false, false, false, false, false, false, false, false, false, false] rfl rfl (any_of HT_.out (by kernel_rfl)) (fun _ _ _ h => h) (Or.inl ⟨by rfl, ?_⟩) ?_ ?_
              rotate_left
              ·
               intro w'
               go_simp
               with_reducible rfl
              rotate_left
              ·
               simp only [Act.put, sa0, sa1, sa2, i64_w, i32_w]
               rfl
              refine pure_ (i := 47) (N := some 206) (v := ?_) (a' := ?_) #[true, true, true, true, true, true, true, true, true, true, true, true, true, true, true, true, true, true, true, true, true, true, true, true, true, true, true, true, true, true, true, true, true, true, true, true, true, true, true, true, true, true, true, true, true, false, true, true, false, false, false, false, false, false, false, false, false, false, false, false, false, false, false, false] rfl rfl (any_of HT_.out (by kernel_rfl)) (fun _ _ _ h => h) (Or.inl ⟨by rfl, ?_⟩) ?_ ?_
              rotate_left
              ·
               intro w'
               go_simp
               with_reducible rfl
              rotate_left
              ·
               simp only [Act.put, sa0, sa1, sa2, i64_w, i32_w]
               rfl
              refine pure_ (i := 48) (N := some 207) (v := ?_) (a' := ?_) #[true, true, true, true, true, true, true, true, true, true, true, true, true, true, true, true, true, true, true, true, true, true, true, true, true, true, true, true, true, true, true, true, true, true, true, true, true, true, true, true, true, true, true, true, true, false, true, true, true, false, false, false, false, false, false, false, false, false, false, false, false, false, false, false] rfl rfl (any_of HT_.out (by kernel_rfl)) (fun _ _ _ h => h) (Or.inl ⟨by rfl, ?_⟩) ?_ ?_
              rotate_left
              ·
               intro w'
               go_simp
               with_reducible rfl
              rotate_left
              ·
               simp only [Act.put, sa0, sa1, sa2, i64_w, i32_w]
               rfl
              refine pure_ (i := 49) (N := some 208) (v := ?_) (a' := ?_) #[true, true, true, true, true, true, true, true, true, true, true, true, true, true, true, true, true, true, true, true, true, true, true, true, true, true, true, true, true, true, true, true, true, true, true, true, true, true, true, true, true, true, true, true, true, false, true, true, true, true, false, false, false, false, false, false, false, false, false, false, false, false, false, false] rfl rfl (any_of HT_.out (by kernel_rfl)) (fun _ _ _ h => h) (Or.inl ⟨by rfl, ?_⟩) ?_ ?_
              rotate_left
              ·
               intro w'
               go_simp
               with_reducible rfl
              rotate_left
              ·
               simp only [Act.put, sa0, sa1, sa2, i64_w, i32_w]
               rfl
              refine pure_ (i := 50) (N := some 209) (v := ?_) (a' := ?_) #[true, true, true, true, true, true, true, true, true, true, true, true, true, true, true, true, true, true, true, true, true, true, true, true, true, true, true, true, true, true, true, true, true, true, true, true, true, true, true, true, true, true, true, true, true, false, true, true, true, true, true, false, false, false, false, false, false, false, false, false, false, false, false, false] rfl rfl (any_of HT_.out (by kernel_rfl)) (fun _ _ _ h => h) (Or.inl ⟨by rfl, ?_⟩) ?_ ?_
              rotate_left
              ·
               intro w'
               go_simp
               with_reducible rfl
              rotate_left
              ·
               simp only [Act.put, sa0, sa1, sa2, i64_w, i32_w]
               rfl
              refine pure_ (i := 51) (N := some 210) (v := ?_) (a' := ?_) #[true, true, true, true, true, true, true, true, true, true, true, true, true, true, true, true, true, true, true, true, true, true, true, true, true, true, true, true, true, true, true, true, true, true, true, true, true, true, true, true, true, true, true, true, true, false, true, true, true, true, true, true, false, false, false, false, false, false, false, false, false, false, false, false] rfl rfl (any_of HT_.out (by kernel_rfl)) (fun _ _ _ h => h) (Or.inl ⟨by rfl, ?_⟩) ?_ ?_
              rotate_left
              ·
               intro w'
               go_simp
               with_reducible rfl
              rotate_left
              ·
               simp only [Act.put, sa0, sa1, sa2, i64_w, i32_w]
               rfl
              refine pure_ (i := 54) (N := some 213) (v := ?_) (a' := ?_) #[true, true, true, true, true, true, true, true, true, true, true, true, true, true, true, true, true, true, true, true, true, true, true, true, true, true, true, true, true, true, true, true, true, true, true, true, true, true, true, true, true, true, true, true, true, false, true, true, true, true, true, true, false, false, true, false, false, false, false, false, false, false, false, false] rfl rfl (any_of HT_.out (by kernel_rfl)) (fun _ _ _ h => h) (Or.inl ⟨by rfl, ?_⟩) ?_ ?_
              rotate_left
              ·
               intro w'
               go_simp
               with_reducible rfl
              rotate_left
              ·
               simp only [Act.put, sa0, sa1, sa2, i64_w, i32_w]
               rfl
              refine pure_ (i := 55) (N := some 214) (v := ?_) (a' := ?_) #[true, true, true, true, true, true, true, true, true, true, true, true, true, true, true, true, true, true, true, true, true, true, true, true, true, true, true, true, true, true, true, true, true, true, true, true, true, true, true, true, true, true, true, true, true, false, true, true, true, true, true, true, false, false, true, true, false, false, false, false, false, false, false, false] rfl rfl (any_of HT_.out (by kernel_rfl)) (fun _ _ _ h => h) (Or.inl ⟨by rfl, ?_⟩) ?_ ?_
              rotate_left
              ·
               intro w'
               go_simp
               with_reducible rfl
              rotate_left
              ·
               simp only [Act.put, sa0, sa1, sa2, i64_w, i32_w]
               rfl
              refine pure_ (i := 56) (N := some 215) (v := ?_) (a' := ?_) #[true, true, true, true, true, true, true, true, true, true, true, true, true, true, true, true, true, true, true, true, true, true, true, true, true, true, true, true, true, true, true, true, true, true, true, true, true, true, true, true, true, true, true, true, true, false, true, true, true, true, true, true, false, false, true, true, true, false, false, false, false, false, false, false] rfl rfl (any_of HT_.out (by kernel_rfl)) (fun _ _ _ h => h) (Or.inl ⟨by rfl, ?_⟩) ?_ ?_
              rotate_left
              ·
               intro w'
               go_simp
               with_reducible rfl
              rotate_left
              ·
               simp only [Act.put, sa0, sa1, sa2, i64_w, i32_w]
               rfl
              refine pure_ (i := 57) (N := some 216) (v := ?_) (a' := ?_) #[true, true, true, true, true, true, true, true, true, true, true, true, true, true, true, true, true, true, true, true, true, true, true, true, true, true, true, true, true, true, true, true, true, true, true, true, true, true, true, true, true, true, true, true, true, false, true, true, true, true, true, true, false, false, true, true, true, true, false, false, false, false, false, false] rfl rfl (any_of HT_.out (by kernel_rfl)) (fun _ _ _ h => h) (Or.inl ⟨by rfl, ?_⟩) ?_ ?_
              rotate_left
              ·
               intro w'
               go_simp
               with_reducible rfl
              rotate_left
              ·
               simp only [Act.put, sa0, sa1, sa2, i64_w, i32_w]
               rfl
              refine pure_ (i := 58) (N := some 217) (v := ?_) (a' := ?_) #[true, true, true, true, true, true, true, true, true, true, true, true, true, true, true, true, true, true, true, true, true, true, true, true, true, true, true, true, true, true, true, true, true, true, true, true, true, true, true, true, true, true, true, true, true, false, true, true, true, true, true, true, false, false, true, true, true, true, true, false, false, false, false, false] rfl rfl (any_of HT_.out (by kernel_rfl)) (fun _ _ _ h => h) (Or.inl ⟨by rfl, ?_⟩) ?_ ?_
              rotate_left
              ·
               intro w'
               go_simp
               with_reducible rfl
              rotate_left
              ·
               simp only [Act.put, sa0, sa1, sa2, i64_w, i32_w]
               rfl
              refine take_ (i := 45) (N := some 204) (v := ?_) (a' := ?_) #[true, true, true, true, true, true, true, true, true, true, true, true, true, true, true, true, true, true, true, true, true, true, true, true, true, true, true, true, true, true, true, true, true, true, true, true, true, true, true, true, true, true, true, true, true, true, true, true, true, true, true, true, false, false, true, true, true, true, true, false, false, false, false, false] rfl rfl (take_ofW HT_.out HW_.out (by kernel_rfl)) (fun _ _ _ h => h) (Or.inl ⟨by rfl, ?_⟩) hHeld ?_ ?_
              rotate_left
              ·
               rintro w' ⟨s0, s1, s2, s3, s4, s5, s6, s7, s8⟩
               go_simp
               with_reducible rfl
              rotate_left
              ·
               simp only [Act.put, sa0, sa1, sa2, i64_w, i32_w]
               rfl
              refine take_ (i := 52) (N := some 211) (v := ?_) (a' := ?_) #[true, true, true, true, true, true, true, true, true, true, true, true, true, true, true, true, true, true, true, true, true, true, true, true, true, true, true, true, true, true, true, true, true, true, true, true, true, true, true, true, true, true, true, true, true, true, true, true, true, true, true, true, true, false, true, true, true, true, true, false, false, false, false, false] rfl rfl (take_ofW HT_.out HW_.out (by kernel_rfl)) (fun _ _ _ h => h) (Or.inl ⟨by rfl, ?_⟩) hHeld ?_ ?_
              rotate_left
              ·
               rintro w' ⟨s0, s1, s2, s3, s4, s5, s6, s7, s8⟩
               go_simp
               with_reducible rfl
              rotate_left
              ·
               simp only [Act.put, sa0, sa1, sa2, i64_w, i32_w]
               rfl
              refine take_ (i := 59) (N := some 218) (v := ?_) (a' := ?_) #[true, true, true, true, true, true, true, true, true, true, true, true, true, true, true, true, true, true, true, true, true, true, true, true, true, true, true, true, true, true, true, true, true, true, true, true, true, true, true, true, true, true, true, true, true, true, true, true, true, true, true, true, true, false, true, true, true, true, true, true, false, false, false, false] rfl rfl (take_ofW HT_.out HW_.out (by kernel_rfl)) (fun _ _ _ h => h) (Or.inl ⟨by rfl, ?_⟩) hHeld ?_ ?_
              rotate_left
              ·
               rintro w' ⟨s0, s1, s2, s3, s4, s5, s6, s7, s8⟩
               go_simp
               with_reducible rfl
              rotate_left
              ·
               simp only [Act.put, sa0, sa1, sa2, i64_w, i32_w]
               rfl
              refine one_ (i := 53) (N := some 212) #[true, true, true, true, true, true, true, true, true, true, true, true, true, true, true, true, true, true, true, true, true, true, true, true, true, true, true, true, true, true, true, true, true, true, true, true, true, true, true, true, true, true, true, true, true, true, true, true, true, true, true, true, true, true, true, true, true, true, true, true, false, false, false, false] rfl rfl (one_of HT_.out (by kernel_rfl)) (by decide) (fun K hK => ?_)
              refine goes_ Try.func12 (by kernel_rfl) rfl #[.pointer (some ⟨gb470, 0, none⟩), .int .u64 a2, .int .u64 (rd l1 x156_4)] (by rfl) rfl rfl ga ?_
              with_reducible refine (soft_Calc_Mul.calls k4 gb470 t508 a2 (rd l1 x156_4) t511 t512 w _ ?side1 ?side2 A54.out).mono ?_
              (case side1 => repeat (first | (with_reducible first | exact HI470.out | apply IsS27.alloc | apply IsS27.drewN | apply IsS27.drew | apply IsS27.set_0 | refine IsS27.far ?_ NB470_469.out _) | exact HI470.out))
              (case side2 => repeat (first | (with_reducible first | exact HB.out | apply below_alloc | apply pw_below_drewN | apply below_drew1 | refine below_set ?_ (IsS27.ge HI469.out) | refine below_set ?_ (IsS27.ge HI470.out)) | exact HB.out))
              rintro e w67 ⟨rfl, hi, hb, hk⟩
              have HS0_ := keep_cell hk (hHeld.1) (by first | (rw [add_block]; exact Kd.own_blk (IsS27.own_ne HI470.out HO_13.out (by decide))) | (show (Addr.add _ _).block ≠ _; rw [add_block]; exact Kd.own_blk (IsS27.own_ne HI470.out HO_13.out (by decide))) | exact Kd.own_blk (IsS27.own_ne HI470.out HO_13.out (by decide)))
              have HS3_ := keep_cell hk (hHeld.2.2.2.1) (by first | (rw [add_block]; exact Kd.own_blk (IsS27.own_ne HI470.out HO_15.out (by decide))) | (show (Addr.add _ _).block ≠ _; rw [add_block]; exact Kd.own_blk (IsS27.own_ne HI470.out HO_15.out (by decide))) | exact Kd.own_blk (IsS27.own_ne HI470.out HO_15.out (by decide)))
              have HS6_ := keep_cell hk (hHeld.2.2.2.2.2.2.1) (by first | (rw [add_block]; exact Kd.own_blk (IsS27.own_ne HI470.out HO_16.out (by decide))) | (show (Addr.add _ _).block ≠ _; rw [add_block]; exact Kd.own_blk (IsS27.own_ne HI470.out HO_16.out (by decide))) | exact Kd.own_blk (IsS27.own_ne HI470.out HO_16.out (by decide)))
              refine ⟨_, rfl, ?_⟩
              refine ax6 (Kd.R_mono (Kd.R_keep (IsS27.apart (show IsS27 w _ gb470 t508 from by repeat (first | (with_reducible first | exact HI470.out | apply IsS27.alloc | apply IsS27.drewN | apply IsS27.drew | apply IsS27.set_0 | refine IsS27.far ?_ NB470_469.out _) | exact HI470.out)) (kr HO_13) (by decide)) hk (fun _ h => h.2)) (fun _ h => h.1)) (Kd.R_mono (Kd.R_keep (IsS27.apart (show IsS27 w _ gb470 t508 from by repeat (first | (with_reducible first | exact HI470.out | apply IsS27.alloc | apply IsS27.drewN | apply IsS27.drew | apply IsS27.set_0 | refine IsS27.far ?_ NB470_469.out _) | exact HI470.out)) (kr HO_15) (by decide)) hk (fun _ h => h.2)) (fun _ h => h.1)) (Kd.R_mono (Kd.R_keep (IsS27.apart (show IsS27 w _ gb470 t508 from by repeat (first | (with_reducible first | exact HI470.out | apply IsS27.alloc | apply IsS27.drewN | apply IsS27.drew | apply IsS27.set_0 | refine IsS27.far ?_ NB470_469.out _) | exact HI470.out)) (kr HO_16) (by decide)) hk (fun _ h => h.2)) (fun _ h => h.1)) ((show IsS27 w _ gb469 t486 from ⟨KeepBut.blk hk (show IsS27 w _ gb469 t486 from by repeat (first | (with_reducible first | exact HI469.out | apply IsS27.alloc | apply IsS27.drewN | apply IsS27.drew | apply IsS27.set_0 | refine IsS27.far ?_ NB469_470.out _) | exact HI469.out)).1 NB469_470.out (by simp), (show IsS27 w _ gb469 t486 from by repeat (first | (with_reducible first | exact HI469.out | apply IsS27.alloc | apply IsS27.drewN | apply IsS27.drew | apply IsS27.set_0 | refine IsS27.far ?_ NB469_470.out _) | exact HI469.out)).2⟩)) hb hi ?_
              clear HO_13 HO_15 HO_16 HI469 HB HI470
              intro HO_13 HO_15 HO_16 HI469 HB HI470
              (try clear hb)
              (try clear hb2)
              (try clear hk)
              (try clear hi)
              refine hK.out _ _ ⟨HS0_, ((HB.out.cell (World.block_lt_of_cell? w _ hw494_0)).trans hw494_0), ((HB.out.cell (World.block_lt_of_cell? w _ hw497_0)).trans hw497_0), HS3_, ((HB.out.cell (World.block_lt_of_cell? w _ hw501_0)).trans hw501_0), ((HB.out.cell (World.block_lt_of_cell? w _ hw504_0)).trans hw504_0), HS6_, ((HB.out.cell (World.block_lt_of_cell? w _ hw510_0)).trans hw510_0), ((HB.out.cell (World.block_lt_of_cell? w _ hw513_0)).trans hw513_0)⟩ (fun hHeld => ?_)
              clear hK K
              refine norm_ (a' := ?_) ?_ ?_
              rotate_left
              ·
               show Act.put _ (some 212) _ = _
               simp only [Act.put, sa0, sa1, sa2, i64_w, i32_w]
               rfl
              refine one_ (i := 60) (N := some 219) #[true, true, true, true, true, true, true, true, true, true, true, true, true, true, true, true, true, true, true, true, true, true, true, true, true, true, true, true, true, true, true, true, true, true, true, true, true, true, true, true, true, true, true, true, true, true, true, true, true, true, true, true, true, true, true, true, true, true, true, true, true, false, false, false] rfl rfl (one_of HT_.out (by kernel_rfl)) (by decide) (fun K hK => ?_)
              refine goes_ Try.func12 (by kernel_rfl) rfl #[.pointer (some ⟨gb470, 0, none⟩), .int .u64 a3, .int .u64 (rd l0 x156_4)] (by rfl) rfl rfl ga ?_
              with_reducible refine (soft_Calc_Mul.calls k4 gb470 t512 a3 (rd l0 x156_4) t514 t515 w _ ?side1 ?side2 A55.out).mono ?_
              (case side1 => repeat (first | (with_reducible first | exact HI470.out | apply IsS27.alloc | apply IsS27.drewN | apply IsS27.drew | apply IsS27.set_0 | refine IsS27.far ?_ NB470_469.out _) | exact HI470.out))
              (case side2 => repeat (first | (with_reducible first | exact HB.out | apply below_alloc | apply pw_below_drewN | apply below_drew1 | refine below_set ?_ (IsS27.ge HI469.out) | refine below_set ?_ (IsS27.ge HI470.out)) | exact HB.out))
              rintro e w68 ⟨rfl, hi, hb, hk⟩
              have HS0_ := keep_cell hk (hHeld.1) (by first | (rw [add_block]; exact Kd.own_blk (IsS27.own_ne HI470.out HO_13.out (by decide))) | (show (Addr.add _ _).block ≠ _; rw [add_block]; exact Kd.own_blk (IsS27.own_ne HI470.out HO_13.out (by decide))) | exact Kd.own_blk (IsS27.own_ne HI470.out HO_13.out (by decide)))
              have HS3_ := keep_cell hk (hHeld.2.2.2.1) (by first | (rw [add_block]; exact Kd.own_blk (IsS27.own_ne HI470.out HO_15.out (by decide))) | (show (Addr.add _ _).block ≠ _; rw [add_block]; exact Kd.own_blk (IsS27.own_ne HI470.out HO_15.out (by decide))) | exact Kd.own_blk (IsS27.own_ne HI470.out HO_15.out (by decide)))
              have HS6_ := keep_cell hk (hHeld.2.2.2.2.2.2.1) (by first | (rw [add_block]; exact Kd.own_blk (IsS27.own_ne HI470.out HO_16.out (by decide))) | (show (Addr.add _ _).block ≠ _; rw [add_block]; exact Kd.own_blk (IsS27.own_ne HI470.out HO_16.out (by decide))) | exact Kd.own_blk (IsS27.own_ne HI470.out HO_16.out (by decide)))
              refine ⟨_, rfl, ?_⟩
              refine ax6 (Kd.R_mono (Kd.R_keep (IsS27.apart (show IsS27 w _ gb470 t512 from by repeat (first | (with_reducible first | exact HI470.out | apply IsS27.alloc | apply IsS27.drewN | apply IsS27.drew | apply IsS27.set_0 | refine IsS27.far ?_ NB470_469.out _) | exact HI470.out)) (kr HO_13) (by decide)) hk (fun _ h => h.2)) (fun _ h => h.1)) (Kd.R_mono (Kd.R_keep (IsS27.apart (show IsS27 w _ gb470 t512 from by repeat (first | (with_reducible first | exact HI470.out | apply IsS27.alloc | apply IsS27.drewN | apply IsS27.drew | apply IsS27.set_0 | refine IsS27.far ?_ NB470_469.out _) | exact HI470.out)) (kr HO_15) (by decide)) hk (fun _ h => h.2)) (fun _ h => h.1)) (Kd.R_mono (Kd.R_keep (IsS27.apart (show IsS27 w _ gb470 t512 from by repeat (first | (with_reducible first | exact HI470.out | apply IsS27.alloc | apply IsS27.drewN | apply IsS27.drew | apply IsS27.set_0 | refine IsS27.far ?_ NB470_469.out _) | exact HI470.out)) (kr HO_16) (by decide)) hk (fun _ h => h.2)) (fun _ h => h.1)) ((show IsS27 w _ gb469 t486 from ⟨KeepBut.blk hk (show IsS27 w _ gb469 t486 from by repeat (first | (with_reducible first | exact HI469.out | apply IsS27.alloc | apply IsS27.drewN | apply IsS27.drew | apply IsS27.set_0 | refine IsS27.far ?_ NB469_470.out _) | exact HI469.out)).1 NB469_470.out (by simp), (show IsS27 w _ gb469 t486 from by repeat (first | (with_reducible first | exact HI469.out | apply IsS27.alloc | apply IsS27.drewN | apply IsS27.drew | apply IsS27.set_0 | refine IsS27.far ?_ NB469_470.out _) | exact HI469.out)).2⟩)) hb hi ?_
              clear HO_13 HO_15 HO_16 HI469 HB HI470
              intro HO_13 HO_15 HO_16 HI469 HB HI470
              (try clear hb)
              (try clear hb2)
              (try clear hk)
              (try clear hi)
              refine hK.out _ _ ⟨HS0_, ((HB.out.cell (World.block_lt_of_cell? w _ hw494_0)).trans hw494_0), ((HB.out.cell (World.block_lt_of_cell? w _ hw497_0)).trans hw497_0), HS3_, ((HB.out.cell (World.block_lt_of_cell? w _ hw501_0)).trans hw501_0), ((HB.out.cell (World.block_lt_of_cell? w _ hw504_0)).trans hw504_0), HS6_, ((HB.out.cell (World.block_lt_of_cell? w _ hw510_0)).trans hw510_0), ((HB.out.cell (World.block_lt_of_cell? w _ hw513_0)).trans hw513_0)⟩ (fun hHeld => ?_)
              clear hK K
              refine norm_ (a' := ?_) ?_ ?_
              rotate_left
              ·
               show Act.put _ (some 219) _ = _
               simp only [Act.put, sa0, sa1, sa2, i64_w, i32_w]
               rfl
              refine one_ (i := 61) (N := some 220) #[true, true, true, true, true, true, true, true, true, true, true, true, true, true, true, true, true, true, true, true, true, true, true, true, true, true, true, true, true, true, true, true, true, true, true, true, true, true, true, true, true, true, true, true, true, true, true, true, true, true, true, true, true, true, true, true, true, true, true, true, true, true, false, false] rfl rfl (one_of HT_.out (by kernel_rfl)) (by decide) (fun K hK => ?_)
              refine goes_ Try.func18 (by kernel_rfl) rfl #[.pointer (some ⟨gb470, 0, none⟩), .int .u64 t511, .int .u64 t514] (by rfl) rfl rfl ga ?_
              with_reducible refine (soft_Calc_Sub.calls k4 gb470 t515 t511 t514 t516 t517 w _ ?side1 ?side2 A56.out).mono ?_
              (case side1 => repeat (first | (with_reducible first | exact HI470.out | apply IsS27.alloc | apply IsS27.drewN | apply IsS27.drew | apply IsS27.set_0 | refine IsS27.far ?_ NB470_469.out _) | exact HI470.out))
              (case side2 => repeat (first | (with_reducible first | exact HB.out | apply below_alloc | apply pw_below_drewN | apply below_drew1 | refine below_set ?_ (IsS27.ge HI469.out) | refine below_set ?_ (IsS27.ge HI470.out)) | exact HB.out))
              rintro e w69 ⟨rfl, hi, hb, hk⟩
              have HS0_ := keep_cell hk (hHeld.1) (by first | (rw [add_block]; exact Kd.own_blk (IsS27.own_ne HI470.out HO_13.out (by decide))) | (show (Addr.add _ _).block ≠ _; rw [add_block]; exact Kd.own_blk (IsS27.own_ne HI470.out HO_13.out (by decide))) | exact Kd.own_blk (IsS27.own_ne HI470.out HO_13.out (by decide)))
              have HS3_ := keep_cell hk (hHeld.2.2.2.1) (by first | (rw [add_block]; exact Kd.own_blk (IsS27.own_ne HI470.out HO_15.out (by decide))) | (show (Addr.add _ _).block ≠ _; rw [add_block]; exact Kd.own_blk (IsS27.own_ne HI470.out HO_15.out (by decide))) | exact Kd.own_blk (IsS27.own_ne HI470.out HO_15.out (by decide)))
              have HS6_ := keep_cell hk (hHeld.2.2.2.2.2.2.1) (by first | (rw [add_block]; exact Kd.own_blk (IsS27.own_ne HI470.out HO_16.out (by decide))) | (show (Addr.add _ _).block ≠ _; rw [add_block]; exact Kd.own_blk (IsS27.own_ne HI470.out HO_16.out (by decide))) | exact Kd.own_blk (IsS27.own_ne HI470.out HO_16.out (by decide)))
              refine ⟨_, rfl, ?_⟩
              refine ax6 (Kd.R_mono (Kd.R_keep (IsS27.apart (show IsS27 w _ gb470 t515 from by repeat (first | (with_reducible first | exact HI470.out | apply IsS27.alloc | apply IsS27.drewN | apply IsS27.drew | apply IsS27.set_0 | refine IsS27.far ?_ NB470_469.out _) | exact HI470.out)) (kr HO_13) (by decide)) hk (fun _ h => h.2)) (fun _ h => h.1)) (Kd.R_mono (Kd.R_keep (IsS27.apart (show IsS27 w _ gb470 t515 from by repeat (first | (with_reducible first | exact HI470.out | apply IsS27.alloc | apply IsS27.drewN | apply IsS27.drew | apply IsS27.set_0 | refine IsS27.far ?_ NB470_469.out _) | exact HI470.out)) (kr HO_15) (by decide)) hk (fun _ h => h.2)) (fun _ h => h.1)) (Kd.R_mono (Kd.R_keep (IsS27.apart (show IsS27 w _ gb470 t515 from by repeat (first | (with_reducible first | exact HI470.out | apply IsS27.alloc | apply IsS27.drewN | apply IsS27.drew | apply IsS27.set_0 | refine IsS27.far ?_ NB470_469.out _) | exact HI470.out)) (kr HO_16) (by decide)) hk (fun _ h => h.2)) (fun _ h => h.1)) ((show IsS27 w _ gb469 t486 from ⟨KeepBut.blk hk (show IsS27 w _ gb469 t486 from by repeat (first | (with_reducible first | exact HI469.out | apply IsS27.alloc | apply IsS27.drewN | apply IsS27.drew | apply IsS27.set_0 | refine IsS27.far ?_ NB469_470.out _) | exact HI469.out)).1 NB469_470.out (by simp), (show IsS27 w _ gb469 t486 from by repeat (first | (with_reducible first | exact HI469.out | apply IsS27.alloc | apply IsS27.drewN | apply IsS27.drew | apply IsS27.set_0 | refine IsS27.far ?_ NB469_470.out _) | exact HI469.out)).2⟩)) hb hi ?_
              clear HO_13 HO_15 HO_16 HI469 HB HI470
              intro HO_13 HO_15 HO_16 HI469 HB HI470
              (try clear hb)
              (try clear hb2)
              (try clear hk)
              (try clear hi)
              refine hK.out _ _ ⟨HS0_, ((HB.out.cell (World.block_lt_of_cell? w _ hw494_0)).trans hw494_0), ((HB.out.cell (World.block_lt_of_cell? w _ hw497_0)).trans hw497_0), HS3_, ((HB.out.cell (World.block_lt_of_cell? w _ hw501_0)).trans hw501_0), ((HB.out.cell (World.block_lt_of_cell? w _ hw504_0)).trans hw504_0), HS6_, ((HB.out.cell (World.block_lt_of_cell? w _ hw510_0)).trans hw510_0), ((HB.out.cell (World.block_lt_of_cell? w _ hw513_0)).trans hw513_0)⟩ (fun hHeld => ?_)
              clear hK K
              refine norm_ (a' := ?_) ?_ ?_
              rotate_left
              ·
               show Act.put _ (some 220) _ = _
               simp only [Act.put, sa0, sa1, sa2, i64_w, i32_w]
               rfl
              refine pure_ (i := 62) (N := some 221) (v := ?_) (a' := ?_) #[true, true, true, true, true, true, true, true, true, true, true, true, true, true, true, true, true, true, true, true, true, true, true, true, true, true, true, true, true, true, true, true, true, true, true, true, true, true, true, true, true, true, true, true, true, true, true, true, true, true, true, true, true, true, true, true, true, true, true, true, true, true, true, false] rfl rfl (any_of HT_.out (by kernel_rfl)) (fun _ _ _ h => h) (Or.inl ⟨by rfl, ?_⟩) ?_ ?_
              rotate_left
              ·
               intro w'
               go_simp
               with_reducible rfl
              rotate_left
              ·
               simp only [Act.put, sa0, sa1, sa2, i64_w, i32_w]
               rfl
              refine pure_ (i := 63) (N := some 222) (v := ?_) (a' := ?_) #[true, true, true, true, true, true, true, true, true, true, true, true, true, true, true, true, true, true, true, true, true, true, true, true, true, true, true, true, true, true, true, true, true, true, true, true, true, true, true, true, true, true, true, true, true, true, true, true, true, true, true, true, true, true, true, true, true, true, true, true, true, true, true, true] rfl rfl (any_of HT_.out (by kernel_rfl)) (fun _ _ _ h => h) (Or.inl ⟨by rfl, ?_⟩) ?_ ?_
              rotate_left
              ·
               intro w'
               go_simp
               with_reducible rfl
              rotate_left
              ·
               simp only [Act.put, sa0, sa1, sa2, i64_w, i32_w]
               rfl
              refine done_ (done_of HT_.out (by kernel_rfl)) ?_
              try go_wp2
              go_roundg k4
              case measure => have := HJ6.out; have := HK2.out; have := HJ28.out; have := HK4.out; omega
              case rel => exact ⟨(wrap64 (x156_4 + 1)), (t517), (by first | rfl | (simp; done) | (simp [*]; done)), H', ⟨by have := HJ6.out; have := HK2.out; have := HJ28.out; have := HK4.out; omega⟩, ⟨kr HO_13⟩, ⟨kr HO_15⟩, ⟨kr HO_16⟩, ⟨by repeat (first | (with_reducible first | exact HI469.out | apply IsS27.alloc | apply IsS27.drewN | apply IsS27.drew | apply IsS27.set_0 | refine IsS27.far ?_ NB469_470.out _) | exact HI469.out)⟩, ⟨by repeat (first | (with_reducible first | exact HI470.out | apply IsS27.alloc | apply IsS27.drewN | apply IsS27.drew | apply IsS27.set_0 | refine IsS27.far ?_ NB470_469.out _) | exact HI470.out)⟩, ⟨by repeat (first | (with_reducible first | exact HB.out | apply below_alloc | apply pw_below_drewN | apply below_drew1 | refine below_set ?_ (IsS27.ge HI469.out) | refine below_set ?_ (IsS27.ge HI470.out)) | exact HB.out)⟩⟩
             ·
              rw [if_neg c40] at H
              have c40b0 : decide (x156_4 < (l0.length : Int)) = false := decide_eq_false c40
              clear c40
              obtain ⟨⟨t518, t521⟩, A700, H⟩ := Option.bind_eq_some_iff.mp H
              (try dsimp -simprocs only at H)
              have A70 := Aside0.mk A700
              clear A700
              by_cases c71 : (t518.length : Int) = (l0.length : Int)
              rotate_left
              ·
               rw [if_neg c71] at H
               have c71b0 : ((t518.length : Int) == (l0.length : Int)) = false := beq_eq_false_iff_ne.mpr c71
               have c71b1 : ((t518.length : Int) != (l0.length : Int)) = true := bne_iff_ne.mpr c71
               have c71b2 : (t518.length == l0.length) = false := by first | simpa using c71 | (simp at c71 ⊢; omega)
               rw [hLW] at H
               exact absurd H (by simp)
              rw [if_pos c71] at H
              have c71b0 : ((t518.length : Int) == (l0.length : Int)) = true := beq_iff_eq.mpr c71
              have c71b1 : ((t518.length : Int) != (l0.length : Int)) = false := bne_eq_false_iff_eq.mpr c71
              have c71b2 : (t518.length == l0.length) = true := by first | simpa using c71 | (simp at c71 ⊢; omega)
              clear c71
              have H' := Aside0.mk H
              clear H
              go_wp2_with (first | ((with_reducible refine gate_callee (f := 19) rfl ?_); refine goesL_ (some 227) rfl rfl Try.func19 (by kernel_rfl) rfl #[.pointer (some ⟨gb469, 0, none⟩), .int .u64 a2, .slice A0 l0.length c0] rfl ga ?_; (with_reducible refine (vec_Scal.calls k4 gb469 t486 a2 _ _ l0 t518 t521 w _ ?side1 ?side2 ?side3 ?side4 ?side5 A70.out).mono ?_); (case side1 => repeat (first | (with_reducible first | exact HI469.out | apply IsS27.alloc | apply IsS27.drewN | apply IsS27.drew | apply IsS27.set_0 | refine IsS27.far ?_ NB469_470.out _) | exact HI469.out)); (case side2 => repeat (first | (with_reducible first | exact HB.out | apply below_alloc | apply pw_below_drewN | apply below_drew1 | refine below_set ?_ (IsS27.ge HI469.out) | refine below_set ?_ (IsS27.ge HI470.out)) | exact HB.out)); (case side3 => repeat (first | exact (Kd.C_below HR0.out HB.out) | (with_reducible refine Kd.C_alloc ?_ _) | (with_reducible refine Kd.C_drewN ?_ _) | (with_reducible refine Kd.C_drew ?_))); (case side4 => exact HC0.out); (case side5 => exact Kd.far_C 0 HR0.out (IsS27.ge HI469.out)); rintro e w72 ⟨v519, rfl, ho0, hi, hb, hk⟩; refine ⟨_, rfl, ?_⟩; refine ax7 (Kd.R_mono (Kd.R_told (Kd.R_oldK (IsS27.apart (show IsS27 w _ gb469 t486 from by repeat (first | (with_reducible first | exact HI469.out | apply IsS27.alloc | apply IsS27.drewN | apply IsS27.drew | apply IsS27.set_0 | refine IsS27.far ?_ NB469_470.out _) | exact HI469.out)) (kr HO_13) (by decide)) hk) (Kd.R_base ho0)) (fun _ h_ => h_.1)) (Kd.R_mono (Kd.R_told (Kd.R_oldK (IsS27.apart (show IsS27 w _ gb469 t486 from by repeat (first | (with_reducible first | exact HI469.out | apply IsS27.alloc | apply IsS27.drewN | apply IsS27.drew | apply IsS27.set_0 | refine IsS27.far ?_ NB469_470.out _) | exact HI469.out)) (kr HO_15) (by decide)) hk) (Kd.R_base ho0)) (fun _ h_ => h_.1)) (Kd.R_mono (Kd.R_told (Kd.R_oldK (IsS27.apart (show IsS27 w _ gb469 t486 from by repeat (first | (with_reducible first | exact HI469.out | apply IsS27.alloc | apply IsS27.drewN | apply IsS27.drew | apply IsS27.set_0 | refine IsS27.far ?_ NB469_470.out _) | exact HI469.out)) (kr HO_16) (by decide)) hk) (Kd.R_base ho0)) (fun _ h_ => h_.1)) ((show IsS27 w _ gb470 x471000_4 from ⟨KeepBut.blk hk (show IsS27 w _ gb470 x471000_4 from by repeat (first | (with_reducible first | exact HI470.out | apply IsS27.alloc | apply IsS27.drewN | apply IsS27.drew | apply IsS27.set_0 | refine IsS27.far ?_ NB470_469.out _) | exact HI470.out)).1 NB470_469.out (by simp), (show IsS27 w _ gb470 x471000_4 from by repeat (first | (with_reducible first | exact HI470.out | apply IsS27.alloc | apply IsS27.drewN | apply IsS27.drew | apply IsS27.set_0 | refine IsS27.far ?_ NB470_469.out _) | exact HI470.out)).2⟩)) (Kd.R_lower (Kd.R_new' (Kd.R_new' (Kd.R_new' ho0 (Kd.R_lt (kr HO_13))) (Kd.R_lt (kr HO_15))) (Kd.R_lt (kr HO_16))) (below_size (by repeat (first | (with_reducible first | exact HB.out | apply below_alloc | apply pw_below_drewN | apply below_drew1 | refine below_set ?_ (IsS27.ge HI469.out) | refine below_set ?_ (IsS27.ge HI470.out)) | exact HB.out)))) hb hi ?_; clear HO_13; clear HO_15; clear HO_16; clear HI470; clear HB; clear HI469; intro HO_13 HO_15 HO_16 HI470 HO520 HB HI469; (try clear hb); (try clear ho0); obtain ⟨Ao73, co73, eo73⟩ := Kd.R_slice HO520.out; subst eo73))
              go_loopg [18, 235] k4 (fun kq v18 v235 w' => ∃ (x18_5 : Int) (x235_5 : Int) (x471000_5 : Int), v18 = .int .u64 x18_5 ∧ v235 = .int .i64 x235_5 ∧ Aside0 (gimballaw10_VecSteps.l2 kq l0 a2 x18_5 t518 (l0.length : Int) x235_5 t521 x471000_5 = some r) ∧ Aside0 (kq ≤ k4) ∧ Aside0 (Kd.R (Kd.int .u64) 28 w' w.heap.size (fun _ => True) (.slice Ao73 t518.length co73) t518) ∧ Aside0 (IsS27 w w' gb469 t521) ∧ Aside0 (IsS27 w w' gb470 x471000_5) ∧ Aside0 (Below w.heap.size w w'))
              case atStart => exact ⟨(0), (0), (x471000_4), (by first | rfl | (simp; done) | (simp [*]; done)), (by first | rfl | (simp; done) | (simp [*]; done)), H', ⟨Nat.le_refl _⟩, ⟨by (with_reducible repeat (first | apply Kd.R_alloc | apply Kd.R_drewN | apply Kd.R_drew)); exact Kd.R_mono HO520.out (fun _ hk => trivial)⟩, ⟨by repeat (first | (with_reducible first | exact HI469.out | apply IsS27.alloc | apply IsS27.drewN | apply IsS27.drew | apply IsS27.set_0 | refine IsS27.far ?_ NB469_470.out _) | exact HI469.out)⟩, ⟨by repeat (first | (with_reducible first | exact HI470.out | apply IsS27.alloc | apply IsS27.drewN | apply IsS27.drew | apply IsS27.set_0 | refine IsS27.far ?_ NB470_469.out _) | exact HI470.out)⟩, ⟨by repeat (first | (with_reducible first | exact HB.out | apply below_alloc | apply pw_below_drewN | apply below_drew1 | refine below_set ?_ (IsS27.ge HI469.out) | refine below_set ?_ (IsS27.ge HI470.out)) | exact HB.out)⟩⟩
              case round =>
               clear H'
               try clear c1
               try clear p2
               try clear c4
               try clear c5
               try clear p6
               try clear c7
               try clear c11
               try clear c12
               try clear c18
               try clear c19
               try clear c40
               try clear c40b0
               try clear c41
               try clear c42
               try clear c43
               try clear c45
               try clear c47
               try clear c47b0
               try clear c47b1
               try clear c48
               try clear c52
               try clear c52b0
               try clear c52b1
               try clear c53
               try clear c57
               try clear c57b0
               try clear c57b1
               try clear p64
               try clear c71
               try clear c71b0
               try clear c71b1
               try clear c71b2
               obtain ⟨x18_5, x235_5, x471000_5, rfl, rfl, HA, HK5, HO_21, HI469, HI470, HB⟩ := hrel
               cases gk with
               | zero => exact absurd HA.out (by simp [gimballaw10_VecSteps.l2])
               | succ k5 =>
                have H := HA.out
                clear HA
                simp only [gimballaw10_VecSteps.l2] at H
                by_cases c74 : x235_5 < (l0.length : Int)
                ·
                 rw [if_pos c74] at H
                 have c74b0 : decide (x235_5 < (l0.length : Int)) = true := decide_eq_true c74
                 clear c74
                 by_cases c75 : 0 ≤ x235_5
                 rotate_left
                 ·
                  rw [if_neg c75] at H
                  exact absurd H (by simp)
                 rw [if_pos c75] at H
                 have c75b0 : decide (0 ≤ x235_5) = true := decide_eq_true c75
                 clear c75
                 by_cases c76 : x235_5 < (t518.length : Int)
                 rotate_left
                 ·
                  rw [if_neg c76] at H
                  exact absurd H (by simp)
                 rw [if_pos c76] at H
                 have c76b0 : decide (x235_5 < (t518.length : Int)) = true := decide_eq_true c76
                 clear c76
                 by_cases c77 : x235_5 < (l0.length : Int)
                 rotate_left
                 ·
                  rw [if_neg c77] at H
                  exact absurd H (by simp)
                 rw [if_pos c77] at H
                 have c77b0 : decide (x235_5 < (l0.length : Int)) = true := decide_eq_true c77
                 clear c77
                 obtain ⟨⟨t526, t527⟩, A780, H⟩ := Option.bind_eq_some_iff.mp H
                 (try dsimp -simprocs only at H)
                 have A78 := Aside0.mk A780
                 clear A780
                 by_cases c79 : (rd t518 x235_5) = t526
                 rotate_left
                 ·
                  rw [if_neg c79] at H
                  have c79b0 : ((rd t518 x235_5) == t526) = false := beq_eq_false_iff_ne.mpr c79
                  have c79b1 : ((rd t518 x235_5) != t526) = true := bne_iff_ne.mpr c79
                  rw [hLW] at H
                  exact absurd H (by simp)
                 rw [if_pos c79] at H
                 have c79b0 : ((rd t518 x235_5) == t526) = true := beq_iff_eq.mpr c79
                 have c79b1 : ((rd t518 x235_5) != t526) = false := bne_eq_false_iff_eq.mpr c79
                 clear c79
                 obtain ⟨t529, A800, H⟩ := Option.bind_eq_some_iff.mp H
                 (try dsimp -simprocs only at H)
                 have A80 := Aside0.mk A800
                 clear A800
                 obtain ⟨⟨t530, t531⟩, A810, H⟩ := Option.bind_eq_some_iff.mp H
                 (try dsimp -simprocs only at H)
                 have A81 := Aside0.mk A810
                 clear A810
                 have H' := Aside0.mk H
                 clear H
                 try go_wp2
                 refine ax4 (Kd.R_drew HO_21.out) (IsS27.drew HI469.out) (IsS27.drew HI470.out) (below_drew1 HB.out) ?_
                 clear HO_21 HI469 HI470 HB
                 intro HO_21 HI469 HI470 HB
                 have p524 : 0 ≤ (x235_5 : Int) := of_decide_eq_true (by first | (with_reducible assumption) | assumption)
                 have q524 : x235_5 < (t518.length : Int) := of_decide_eq_true (by first | (with_reducible assumption) | assumption)
                 obtain ⟨ad524, e524, hx524_0⟩ := Kd.at_int (Kd.R_reads' HO_21.out).2.2 x235_5 p524 q524
                 cases e524
                 replace p524 := eq_true p524
                 replace q524 := eq_true q524
                 have p525 : 0 ≤ (x235_5 : Int) := of_decide_eq_true (by first | (with_reducible assumption) | assumption)
                 have q525 : x235_5 < (l0.length : Int) := of_decide_eq_true (by first | (with_reducible assumption) | assumption)
                 obtain ⟨ad525, e525, hx525_0⟩ := Kd.at_int HR0.out x235_5 p525 q525
                 have hw525_0 := hx525_0
                 cases e525
                 replace hx525_0 := (HB.out.cell (World.block_lt_of_cell? w _ hx525_0)).trans hx525_0
                 replace p525 := eq_true p525
                 replace q525 := eq_true q525
                 refine start_ (n := 12) (S := fun w' => w'.cell? (ad524.add (x235_5).toNat) = some (.int .u64 (rd t518 x235_5)) ∧ w'.cell? (ad525.add (x235_5).toNat) = some (.int .u64 (rd l0 x235_5))) (ds := []) #[false, false, false, false, false, false, false, false, false, false, false, false] (by kernel_rfl) rfl rfl ⟨hx524_0, ((HB.out.cell (World.block_lt_of_cell? w _ hw525_0)).trans hw525_0)⟩ (fun hHeld => ?_); refine with_tabW gimballaw10_VecSteps.tab33 gimballaw10_VecSteps.bits33 (fun HT_ HW_ => ?_)
                 generalize wr.drew = w82 at HO_21 HI469 HI470 HB hx524_0 hx525_0 hHeld ⊢
                 refine pure_ (i := 0) (N := some 238) (v := ?_) (a' := ?_) #[true, false, false, false, false, false, false, false, false, false, false, false] rfl rfl (any_of HT_.out (by kernel_rfl)) (fun _ _ _ h => h) (Or.inl ⟨by rfl, ?_⟩) ?_ ?_
                 rotate_left
                 ·
                  intro w'
                  go_simp
                  with_reducible rfl
                 rotate_left
                 ·
                  simp only [Act.put, sa0, sa1, sa2, i64_w, i32_w]
                  rfl
                 refine pure_ (i := 1) (N := some 239) (v := ?_) (a' := ?_) #[true, true, false, false, false, false, false, false, false, false, false, false] rfl rfl (any_of HT_.out (by kernel_rfl)) (fun _ _ _ h => h) (Or.inl ⟨by rfl, ?_⟩) ?_ ?_
                 rotate_left
                 ·
                  intro w'
                  go_simp
                  with_reducible rfl
                 rotate_left
                 ·
                  simp only [Act.put, sa0, sa1, sa2, i64_w, i32_w]
                  rfl
                 refine pure_ (i := 2) (N := some 240) (v := ?_) (a' := ?_) #[true, true, true, false, false, false, false, false, false, false, false, false] rfl rfl (any_of HT_.out (by kernel_rfl)) (fun _ _ _ h => h) (Or.inl ⟨by rfl, ?_⟩) ?_ ?_
                 rotate_left
                 ·
                  intro w'
                  go_simp
                  with_reducible rfl
                 rotate_left
                 ·
                  simp only [Act.put, sa0, sa1, sa2, i64_w, i32_w]
                  rfl
                 refine pure_ (i := 4) (N := some 242) (v := ?_) (a' := ?_) #[true, true, true, false, true, false, false, false, false, false, false, false] rfl rfl (any_of HT_.out (by kernel_rfl)) (fun _ _ _ h => h) (Or.inl ⟨by rfl, ?_⟩) ?_ ?_
                 rotate_left
                 ·
                  intro w'
                  go_simp
                  with_reducible rfl
                 rotate_left
                 ·
                  simp only [Act.put, sa0, sa1, sa2, i64_w, i32_w]
                  rfl
                 refine pure_ (i := 5) (N := some 243) (v := ?_) (a' := ?_) #[true, true, true, false, true, true, false, false, false, false, false, false] rfl rfl (any_of HT_.out (by kernel_rfl)) (fun _ _ _ h => h) (Or.inl ⟨by rfl, ?_⟩) ?_ ?_
                 rotate_left
                 ·
                  intro w'
                  go_simp
                  with_reducible rfl
                 rotate_left
                 ·
                  simp only [Act.put, sa0, sa1, sa2, i64_w, i32_w]
                  rfl
                 refine pure_ (i := 6) (N := some 244) (v := ?_) (a' := ?_) #[true, true, true, false, true, true, true, false, false, false, false, false] rfl rfl (any_of HT_.out (by kernel_rfl)) (fun _ _ _ h => h) (Or.inl ⟨by rfl, ?_⟩) ?_ ?_
                 rotate_left
                 ·
                  intro w'
                  go_simp
                  with_reducible rfl
                 rotate_left
                 ·
                  simp only [Act.put, sa0, sa1, sa2, i64_w, i32_w]
                  rfl
                 refine pure_ (i := 7) (N := some 245) (v := ?_) (a' := ?_) #[true, true, true, false, true, true, true, true, false, false, false, false] rfl rfl (any_of HT_.out (by kernel_rfl)) (fun _ _ _ h => h) (Or.inl ⟨by rfl, ?_⟩) ?_ ?_
                 rotate_left
                 ·
                  intro w'
                  go_simp
                  with_reducible rfl
                 rotate_left
                 ·
                  simp only [Act.put, sa0, sa1, sa2, i64_w, i32_w]
                  rfl
                 refine pure_ (i := 8) (N := some 246) (v := ?_) (a' := ?_) #[true, true, true, false, true, true, true, true, true, false, false, false] rfl rfl (any_of HT_.out (by kernel_rfl)) (fun _ _ _ h => h) (Or.inl ⟨by rfl, ?_⟩) ?_ ?_
                 rotate_left
                 ·
                  intro w'
                  go_simp
                  with_reducible rfl
                 rotate_left
                 ·
                  simp only [Act.put, sa0, sa1, sa2, i64_w, i32_w]
                  rfl
                 refine take_ (i := 3) (N := some 241) (v := ?_) (a' := ?_) #[true, true, true, true, true, true, true, true, true, false, false, false] rfl rfl (take_ofW HT_.out HW_.out (by kernel_rfl)) (fun _ _ _ h => h) (Or.inl ⟨by rfl, ?_⟩) hHeld ?_ ?_
                 rotate_left
                 ·
                  rintro w' ⟨s0, s1⟩
                  go_simp
                  with_reducible rfl
                 rotate_left
                 ·
                  simp only [Act.put, sa0, sa1, sa2, i64_w, i32_w]
                  rfl
                 refine take_ (i := 9) (N := some 247) (v := ?_) (a' := ?_) #[true, true, true, true, true, true, true, true, true, true, false, false] rfl rfl (take_ofW HT_.out HW_.out (by kernel_rfl)) (fun _ _ _ h => h) (Or.inl ⟨by rfl, ?_⟩) hHeld ?_ ?_
                 rotate_left
                 ·
                  rintro w' ⟨s0, s1⟩
                  go_simp
                  with_reducible rfl
                 rotate_left
                 ·
                  simp only [Act.put, sa0, sa1, sa2, i64_w, i32_w]
                  rfl
                 refine one_ (i := 10) (N := some 248) #[true, true, true, true, true, true, true, true, true, true, true, false] rfl rfl (one_of HT_.out (by kernel_rfl)) (by decide) (fun K hK => ?_)
                 refine goes_ Try.func12 (by kernel_rfl) rfl #[.pointer (some ⟨gb470, 0, none⟩), .int .u64 a2, .int .u64 (rd l0 x235_5)] (by rfl) rfl rfl ga ?_
                 with_reducible refine (soft_Calc_Mul.calls k5 gb470 x471000_5 a2 (rd l0 x235_5) t526 t527 w _ ?side1 ?side2 A78.out).mono ?_
                 (case side1 => repeat (first | (with_reducible first | exact HI470.out | apply IsS27.alloc | apply IsS27.drewN | apply IsS27.drew | apply IsS27.set_0 | refine IsS27.far ?_ NB470_469.out _) | exact HI470.out))
                 (case side2 => repeat (first | (with_reducible first | exact HB.out | apply below_alloc | apply pw_below_drewN | apply below_drew1 | refine below_set ?_ (IsS27.ge HI469.out) | refine below_set ?_ (IsS27.ge HI470.out)) | exact HB.out))
                 rintro e w83 ⟨rfl, hi, hb, hk⟩
                 have HS0_ := keep_cell hk (hHeld.1) (by first | (rw [add_block]; exact Kd.own_blk (IsS27.own_ne HI470.out HO_21.out (by decide))) | (show (Addr.add _ _).block ≠ _; rw [add_block]; exact Kd.own_blk (IsS27.own_ne HI470.out HO_21.out (by decide))) | exact Kd.own_blk (IsS27.own_ne HI470.out HO_21.out (by decide)))
                 refine ⟨_, rfl, ?_⟩
                 refine ax4 (Kd.R_mono (Kd.R_keep (IsS27.apart (show IsS27 w _ gb470 x471000_5 from by repeat (first | (with_reducible first | exact HI470.out | apply IsS27.alloc | apply IsS27.drewN | apply IsS27.drew | apply IsS27.set_0 | refine IsS27.far ?_ NB470_469.out _) | exact HI470.out)) (kr HO_21) (by decide)) hk (fun _ h => h.2)) (fun _ h => h.1)) ((show IsS27 w _ gb469 t521 from ⟨KeepBut.blk hk (show IsS27 w _ gb469 t521 from by repeat (first | (with_reducible first | exact HI469.out | apply IsS27.alloc | apply IsS27.drewN | apply IsS27.drew | apply IsS27.set_0 | refine IsS27.far ?_ NB469_470.out _) | exact HI469.out)).1 NB469_470.out (by simp), (show IsS27 w _ gb469 t521 from by repeat (first | (with_reducible first | exact HI469.out | apply IsS27.alloc | apply IsS27.drewN | apply IsS27.drew | apply IsS27.set_0 | refine IsS27.far ?_ NB469_470.out _) | exact HI469.out)).2⟩)) hb hi ?_
                 clear HO_21 HI469 HB HI470
                 intro HO_21 HI469 HB HI470
                 (try clear hb)
                 (try clear hb2)
                 (try clear hk)
                 (try clear hi)
                 refine hK.out _ _ ⟨HS0_, ((HB.out.cell (World.block_lt_of_cell? w _ hw525_0)).trans hw525_0)⟩ (fun hHeld => ?_)
                 clear hK K
                 refine norm_ (a' := ?_) ?_ ?_
                 rotate_left
                 ·
                  show Act.put _ (some 248) _ = _
                  simp only [Act.put, sa0, sa1, sa2, i64_w, i32_w]
                  rfl
                 refine pure_ (i := 11) (N := some 249) (v := ?_) (a' := ?_) #[true, true, true, true, true, true, true, true, true, true, true, true] rfl rfl (any_of HT_.out (by kernel_rfl)) (fun _ _ _ h => h) (Or.inl ⟨by rfl, ?_⟩) ?_ ?_
                 rotate_left
                 ·
                  intro w'
                  go_simp
                  with_reducible rfl
                 rotate_left
                 ·
                  simp only [Act.put, sa0, sa1, sa2, i64_w, i32_w]
                  rfl
                 refine done_ (done_of HT_.out (by kernel_rfl)) ?_
                 have p528 : 0 ≤ (x235_5 : Int) := of_decide_eq_true (by first | (with_reducible assumption) | assumption)
                 have q528 : x235_5 < (l0.length : Int) := of_decide_eq_true (by first | (with_reducible assumption) | assumption)
                 obtain ⟨ad528, e528, hx528_0⟩ := Kd.at_int HR0.out x235_5 p528 q528
                 obtain rfl : ad525 = ad528 := (by injection e528)
                 replace hx528_0 := (HB.out.cell (World.block_lt_of_cell? w _ hx528_0)).trans hx528_0
                 replace p528 := eq_true p528
                 replace q528 := eq_true q528
                 try go_wp2_with (first | ((with_reducible refine gate_callee (f := 20) rfl ?_); refine goesL_ (some 256) rfl rfl Try.func20 (by kernel_rfl) rfl #[.int .u64 (rd l0 x235_5)] rfl ga ?_; (with_reducible refine (word_Abs.calls (rd l0 x235_5) t529 _ A80.out).mono ?_); rintro e w' ⟨rfl, ⟨nd, rfl⟩⟩; refine ⟨_, rfl, ?_⟩) | ((with_reducible refine gate_callee (f := 11) rfl ?_); refine goesL_ (some 257) rfl rfl Try.func11 (by kernel_rfl) rfl #[.pointer (some ⟨gb470, 0, none⟩), .int .u64 x18_5, .int .u64 t529] rfl ga ?_; (with_reducible refine (soft_Calc_Add.calls k5 gb470 t527 x18_5 t529 t530 t531 w _ ?side1 ?side2 A81.out).mono ?_); (case side1 => repeat (first | (with_reducible first | exact HI470.out | apply IsS27.alloc | apply IsS27.drewN | apply IsS27.drew | apply IsS27.set_0 | refine IsS27.far ?_ NB470_469.out _) | exact HI470.out)); (case side2 => repeat (first | (with_reducible first | exact HB.out | apply below_alloc | apply pw_below_drewN | apply below_drew1 | refine below_set ?_ (IsS27.ge HI469.out) | refine below_set ?_ (IsS27.ge HI470.out)) | exact HB.out)); rintro e w84 ⟨rfl, hi, hb, hk⟩; refine ⟨_, rfl, ?_⟩; refine ax4 (Kd.R_mono (Kd.R_keep (IsS27.apart (show IsS27 w _ gb470 t527 from by repeat (first | (with_reducible first | exact HI470.out | apply IsS27.alloc | apply IsS27.drewN | apply IsS27.drew | apply IsS27.set_0 | refine IsS27.far ?_ NB470_469.out _) | exact HI470.out)) (kr HO_21) (by decide)) hk (fun _ h => h.2)) (fun _ h => h.1)) ((show IsS27 w _ gb469 t521 from ⟨KeepBut.blk hk (show IsS27 w _ gb469 t521 from by repeat (first | (with_reducible first | exact HI469.out | apply IsS27.alloc | apply IsS27.drewN | apply IsS27.drew | apply IsS27.set_0 | refine IsS27.far ?_ NB469_470.out _) | exact HI469.out)).1 NB469_470.out (by simp), (show IsS27 w _ gb469 t521 from by repeat (first | (with_reducible first | exact HI469.out | apply IsS27.alloc | apply IsS27.drewN | apply IsS27.drew | apply IsS27.set_0 | refine IsS27.far ?_ NB469_470.out _) | exact HI469.out)).2⟩)) hb hi ?_; clear HO_21; clear HI469; clear HB; clear HI470; intro HO_21 HI469 HB HI470; (try clear hb)))
                 go_roundg k5
                 case measure => have := HJ6.out; have := HK2.out; have := HJ28.out; have := HK4.out; have := HK5.out; omega
                 case rel => exact ⟨(t530), (wrap64 (x235_5 + 1)), (t531), (by first | rfl | (simp; done) | (simp [*]; done)), (by first | rfl | (simp; done) | (simp [*]; done)), H', ⟨by have := HJ6.out; have := HK2.out; have := HJ28.out; have := HK4.out; have := HK5.out; omega⟩, ⟨kr HO_21⟩, ⟨by repeat (first | (with_reducible first | exact HI469.out | apply IsS27.alloc | apply IsS27.drewN | apply IsS27.drew | apply IsS27.set_0 | refine IsS27.far ?_ NB469_470.out _) | exact HI469.out)⟩, ⟨by repeat (first | (with_reducible first | exact HI470.out | apply IsS27.alloc | apply IsS27.drewN | apply IsS27.drew | apply IsS27.set_0 | refine IsS27.far ?_ NB470_469.out _) | exact HI470.out)⟩, ⟨by repeat (first | (with_reducible first | exact HB.out | apply below_alloc | apply pw_below_drewN | apply below_drew1 | refine below_set ?_ (IsS27.ge HI469.out) | refine below_set ?_ (IsS27.ge HI470.out)) | exact HB.out)⟩⟩
                ·
                 rw [if_neg c74] at H
                 have c74b0 : decide (x235_5 < (l0.length : Int)) = false := decide_eq_false c74
                 clear c74
                 obtain ⟨⟨t522, t523⟩, A850, H⟩ := Option.bind_eq_some_iff.mp H
                 (try dsimp -simprocs only at H)
                 have A85 := Aside0.mk A850
                 clear A850
                 by_cases c86 : t522 = x18_5
                 rotate_left
                 ·
                  rw [if_neg c86] at H
                  have c86b0 : (t522 == x18_5) = false := beq_eq_false_iff_ne.mpr c86
                  have c86b1 : (t522 != x18_5) = true := bne_iff_ne.mpr c86
                  rw [hLW] at H
                  exact absurd H (by simp)
                 rw [if_pos c86] at H
                 have c86b0 : (t522 == x18_5) = true := beq_iff_eq.mpr c86
                 have c86b1 : (t522 != x18_5) = false := bne_eq_false_iff_eq.mpr c86
                 clear c86
                 obtain rfl := Option.some.inj H
                 try go_wp2
                 refine ax4 (Kd.R_drew HO_21.out) (IsS27.drew HI469.out) (IsS27.drew HI470.out) (below_drew1 HB.out) ?_
                 clear HO_21 HI469 HI470 HB
                 intro HO_21 HI469 HI470 HB
                 refine start_ (n := 17) (S := fun w' => True) (ds := []) #[false, false, false, false, false, false, false, false, false, false, false, false, false, false, false, false, false] (by kernel_rfl) rfl rfl trivial (fun hHeld => ?_); refine with_tabW gimballaw10_VecSteps.tab37 gimballaw10_VecSteps.bits37 (fun HT_ HW_ => ?_)
                 generalize wr.drew = w87 at HO_21 HI469 HI470 HB hHeld ⊢
                 refine pure_ (i := 0) (N := some 259) (v := ?_) (a' := ?_) #[true, false, false, false, false, false, false, false, false, false, false, false, false, false, false, false, false] rfl rfl (any_of HT_.out (by kernel_rfl)) (fun _ _ _ h => h) (Or.inl ⟨by rfl, ?_⟩) ?_ ?_
                 rotate_left
                 ·
                  intro w'
                  go_simp
                  with_reducible rfl
                 rotate_left
                 ·
                  simp only [Act.put, sa0, sa1, sa2, i64_w, i32_w]
                  rfl
                 refine pure_ (i := 1) (N := some 260) (v := ?_) (a' := ?_) #[true, true, false, false, false, false, false, false, false, false, false, false, false, false, false, false, false] rfl rfl (any_of HT_.out (by kernel_rfl)) (fun _ _ _ h => h) (Or.inl ⟨by rfl, ?_⟩) ?_ ?_
                 rotate_left
                 ·
                  intro w'
                  go_simp
                  with_reducible rfl
                 rotate_left
                 ·
                  simp only [Act.put, sa0, sa1, sa2, i64_w, i32_w]
                  rfl
                 refine pure_ (i := 3) (N := some 262) (v := ?_) (a' := ?_) #[true, true, false, true, false, false, false, false, false, false, false, false, false, false, false, false, false] rfl rfl (any_of HT_.out (by kernel_rfl)) (fun _ _ _ h => h) (Or.inl ⟨by rfl, ?_⟩) ?_ ?_
                 rotate_left
                 ·
                  intro w'
                  go_simp
                  with_reducible rfl
                 rotate_left
                 ·
                  simp only [Act.put, sa0, sa1, sa2, i64_w, i32_w]
                  rfl
                 refine one_ (i := 2) (N := some 261) #[true, true, true, true, false, false, false, false, false, false, false, false, false, false, false, false, false] rfl rfl (one_of HT_.out (by kernel_rfl)) (by decide) (fun K hK => ?_)
                 refine goes_ Try.func21 (by kernel_rfl) rfl #[.pointer (some ⟨gb469, 0, none⟩), .slice A0 l0.length c0] (by rfl) rfl rfl ga ?_
                 with_reducible refine (vec_Asum.calls k5 gb469 t521 _ _ l0 t522 t523 w _ ?side1 ?side2 ?side3 ?side4 ?side5 A85.out).mono ?_
                 (case side1 => repeat (first | (with_reducible first | exact HI469.out | apply IsS27.alloc | apply IsS27.drewN | apply IsS27.drew | apply IsS27.set_0 | refine IsS27.far ?_ NB469_470.out _) | exact HI469.out))
                 (case side2 => repeat (first | (with_reducible first | exact HB.out | apply below_alloc | apply pw_below_drewN | apply below_drew1 | refine below_set ?_ (IsS27.ge HI469.out) | refine below_set ?_ (IsS27.ge HI470.out)) | exact HB.out))
                 (case side3 => repeat (first | exact (Kd.C_below HR0.out HB.out) | (with_reducible refine Kd.C_alloc ?_ _) | (with_reducible refine Kd.C_drewN ?_ _) | (with_reducible refine Kd.C_drew ?_)))
                 (case side4 => exact HC0.out)
                 (case side5 => exact Kd.far_C 0 HR0.out (IsS27.ge HI469.out))
                 rintro e w88 ⟨rfl, hi, hb, hk⟩
                 refine ⟨_, rfl, ?_⟩
                 refine ax4 (Kd.R_mono (Kd.R_keep (IsS27.apart (show IsS27 w _ gb469 t521 from by repeat (first | (with_reducible first | exact HI469.out | apply IsS27.alloc | apply IsS27.drewN | apply IsS27.drew | apply IsS27.set_0 | refine IsS27.far ?_ NB469_470.out _) | exact HI469.out)) (kr HO_21) (by decide)) hk (fun _ h => h.2)) (fun _ h => h.1)) ((show IsS27 w _ gb470 x471000_5 from ⟨KeepBut.blk hk (show IsS27 w _ gb470 x471000_5 from by repeat (first | (with_reducible first | exact HI470.out | apply IsS27.alloc | apply IsS27.drewN | apply IsS27.drew | apply IsS27.set_0 | refine IsS27.far ?_ NB470_469.out _) | exact HI470.out)).1 NB470_469.out (by simp), (show IsS27 w _ gb470 x471000_5 from by repeat (first | (with_reducible first | exact HI470.out | apply IsS27.alloc | apply IsS27.drewN | apply IsS27.drew | apply IsS27.set_0 | refine IsS27.far ?_ NB470_469.out _) | exact HI470.out)).2⟩)) hb hi ?_
                 clear HO_21 HI470 HB HI469
                 intro HO_21 HI470 HB HI469
                 (try clear hb)
                 (try clear hb2)
                 (try clear hk)
                 (try clear hi)
                 refine hK.out _ _ trivial (fun hHeld => ?_)
                 clear hK K
                 refine norm_ (a' := ?_) ?_ ?_
                 rotate_left
                 ·
                  show Act.put _ (some 261) _ = _
                  simp only [Act.put, sa0, sa1, sa2, i64_w, i32_w]
                  rfl
                 clear hHeld
                 refine switch_ (S' := fun w' => w'.cell? ⟨gb469, 0, none⟩ = some (.int .u8 t523) ∧ w'.cell? ⟨gb470, 0, none⟩ = some (.int .u8 x471000_5)) ⟨(blk_cell HI469.out.1 0).trans rfl, (blk_cell HI470.out.1 0).trans rfl⟩ (fun hHeld => ?_)
                 refine pure_ (i := 4) (N := some 263) (v := ?_) (a' := ?_) #[true, true, true, true, true, false, false, false, false, false, false, false, false, false, false, false, false] rfl rfl (any_of HT_.out (by kernel_rfl)) (fun _ _ _ h => h) (Or.inl ⟨by rfl, ?_⟩) ?_ ?_
                 rotate_left
                 ·
                  intro w'
                  go_simp
                  with_reducible rfl
                 rotate_left
                 ·
                  simp only [Act.put, sa0, sa1, sa2, i64_w, i32_w]
                  rfl
                 refine pure_ (i := 5) (N := some 264) (v := ?_) (a' := ?_) #[true, true, true, true, true, true, false, false, false, false, false, false, false, false, false, false, false] rfl rfl (any_of HT_.out (by kernel_rfl)) (fun _ _ _ h => h) (Or.inl ⟨by rfl, ?_⟩) ?_ ?_
                 rotate_left
                 ·
                  intro w'
                  go_simp
                  with_reducible rfl
                 rotate_left
                 ·
                  simp only [Act.put, sa0, sa1, sa2, i64_w, i32_w]
                  rfl
                 refine pure_ (i := 6) (N := some 265) (v := ?_) (a' := ?_) #[true, true, true, true, true, true, true, false, false, false, false, false, false, false, false, false, false] rfl rfl (any_of HT_.out (by kernel_rfl)) (fun _ _ _ h => h) (Or.inl ⟨by rfl, ?_⟩) ?_ ?_
                 rotate_left
                 ·
                  intro w'
                  go_simp
                  with_reducible rfl
                 rotate_left
                 ·
                  simp only [Act.put, sa0, sa1, sa2, i64_w, i32_w]
                  rfl
                 refine pure_ (i := 7) (N := some 266) (v := ?_) (a' := ?_) #[true, true, true, true, true, true, true, true, false, false, false, false, false, false, false, false, false] rfl rfl (any_of HT_.out (by kernel_rfl)) (fun _ _ _ h => h) (Or.inl ⟨by rfl, ?_⟩) ?_ ?_
                 rotate_left
                 ·
                  intro w'
                  go_simp
                  with_reducible rfl
                 rotate_left
                 ·
                  simp only [Act.put, sa0, sa1, sa2, i64_w, i32_w]
                  rfl
                 refine pure_ (i := 8) (N := some 267) (v := ?_) (a' := ?_) #[true, true, true, true, true, true, true, true, true, false, false, false, false, false, false, false, false] rfl rfl (any_of HT_.out (by kernel_rfl)) (fun _ _ _ h => h) (Or.inl ⟨by rfl, ?_⟩) ?_ ?_
                 rotate_left
                 ·
                  intro w'
                  go_simp
                  with_reducible rfl
                 rotate_left
                 ·
                  simp only [Act.put, sa0, sa1, sa2, i64_w, i32_w]
                  rfl
                 refine pure_ (i := 10) (N := some 269) (v := ?_) (a' := ?_) #[true, true, true, true, true, true, true, true, true, false, true, false, false, false, false, false, false] rfl rfl (any_of HT_.out (by kernel_rfl)) (fun _ _ _ h => h) (Or.inl ⟨by rfl, ?_⟩) ?_ ?_
                 rotate_left
                 ·
                  intro w'
                  go_simp
                  with_reducible rfl
                 rotate_left
                 ·
                  simp only [Act.put, sa0, sa1, sa2, i64_w, i32_w]
                  rfl
                 refine pure_ (i := 11) (N := some 270) (v := ?_) (a' := ?_) #[true, true, true, true, true, true, true, true, true, false, true, true, false, false, false, false, false] rfl rfl (any_of HT_.out (by kernel_rfl)) (fun _ _ _ h => h) (Or.inl ⟨by rfl, ?_⟩) ?_ ?_
                 rotate_left
                 ·
                  intro w'
                  go_simp
                  with_reducible rfl
                 rotate_left
                 ·
                  simp only [Act.put, sa0, sa1, sa2, i64_w, i32_w]
                  rfl
                 refine pure_ (i := 12) (N := some 271) (v := ?_) (a' := ?_) #[true, true, true, true, true, true, true, true, true, false, true, true, true, false, false, false, false] rfl rfl (any_of HT_.out (by kernel_rfl)) (fun _ _ _ h => h) (Or.inl ⟨by rfl, ?_⟩) ?_ ?_
                 rotate_left
                 ·
                  intro w'
                  go_simp
                  with_reducible rfl
                 rotate_left
                 ·
                  simp only [Act.put, sa0, sa1, sa2, i64_w, i32_w]
                  rfl
                 refine take_ (i := 9) (N := some 268) (v := ?_) (a' := ?_) #[true, true, true, true, true, true, true, true, true, true, true, true, true, false, false, false, false] rfl rfl (take_ofW HT_.out HW_.out (by kernel_rfl)) (fun _ _ _ h => h) (Or.inl ⟨by rfl, ?_⟩) hHeld ?_ ?_
                 rotate_left
                 ·
                  rintro w' ⟨s0, s1⟩
                  go_simp
                  with_reducible rfl
                 rotate_left
                 ·
                  simp only [Act.put, sa0, sa1, sa2, i64_w, i32_w]
                  rfl
                 refine take_ (i := 13) (N := some 272) (v := ?_) (a' := ?_) #[true, true, true, true, true, true, true, true, true, true, true, true, true, true, false, false, false] rfl rfl (take_ofW HT_.out HW_.out (by kernel_rfl)) (fun _ _ _ h => h) (Or.inl ⟨by rfl, ?_⟩) hHeld ?_ ?_
                 rotate_left
                 ·
                  rintro w' ⟨s0, s1⟩
                  go_simp
                  with_reducible rfl
                 rotate_left
                 ·
                  simp only [Act.put, sa0, sa1, sa2, i64_w, i32_w]
                  rfl
                 refine pure_ (i := 14) (N := some 273) (v := ?_) (a' := ?_) #[true, true, true, true, true, true, true, true, true, true, true, true, true, true, true, false, false] rfl rfl (any_of HT_.out (by kernel_rfl)) (fun _ _ _ h => h) (Or.inl ⟨by rfl, ?_⟩) ?_ ?_
                 rotate_left
                 ·
                  intro w'
                  go_simp
                  with_reducible rfl
                 rotate_left
                 ·
                  simp only [Act.put, sa0, sa1, sa2, i64_w, i32_w]
                  rfl
                 refine pure_ (i := 15) (N := some 274) (v := ?_) (a' := ?_) #[true, true, true, true, true, true, true, true, true, true, true, true, true, true, true, true, false] rfl rfl (any_of HT_.out (by kernel_rfl)) (fun _ _ _ h => h) (Or.inl ⟨by rfl, ?_⟩) ?_ ?_
                 rotate_left
                 ·
                  intro w'
                  go_simp
                  with_reducible rfl
                 rotate_left
                 ·
                  simp only [Act.put, sa0, sa1, sa2, i64_w, i32_w]
                  rfl
                 refine pure_ (i := 16) (N := some 8) (v := ?_) (a' := ?_) #[true, true, true, true, true, true, true, true, true, true, true, true, true, true, true, true, true] rfl rfl (any_of HT_.out (by kernel_rfl)) (fun _ _ _ h => h) (Or.inl ⟨by rfl, ?_⟩) ?_ ?_
                 rotate_left
                 ·
                  intro w'
                  go_simp
                  with_reducible rfl
                 rotate_left
                 ·
                  simp only [Act.put, sa0, sa1, sa2, i64_w, i32_w]
                  rfl
                 refine done_ (done_of HT_.out (by kernel_rfl)) ?_
                 try go_wp2
                 go_ret
                 exact ⟨er, by repeat (first | (with_reducible first | exact HB.out | apply below_alloc | apply pw_below_drewN | apply below_drew1 | refine below_set ?_ (IsS27.ge HI469.out) | refine below_set ?_ (IsS27.ge HI470.out)) | exact HB.out)⟩
    ·
     rw [if_neg c14] at H
     have c14b0 : ((l0.length : Int) == (l1.length : Int)) = false := beq_eq_false_iff_ne.mpr c14
     have c14b1 : ((l0.length : Int) != (l1.length : Int)) = true := bne_iff_ne.mpr c14
     have c14b2 : (l0.length == l1.length) = false := by first | simpa using c14 | (simp at c14 ⊢; omega)
     by_cases c89 : t471 = 9221120237041090560
     rotate_left
     ·
      rw [if_neg c89] at H
      have c89b0 : (t471 == 9221120237041090560) = false := beq_eq_false_iff_ne.mpr c89
      have c89b1 : (t471 != 9221120237041090560) = true := bne_iff_ne.mpr c89
      rw [hLW] at H
      exact absurd H (by simp)
     rw [if_pos c89] at H
     have c89b0 : (t471 == 9221120237041090560) = true := beq_iff_eq.mpr c89
     have c89b1 : (t471 != 9221120237041090560) = false := bne_eq_false_iff_eq.mpr c89
     clear c89
     by_cases c90 : t472 = 4
     rotate_left
     ·
      rw [if_neg c90] at H
      have c90b0 : (t472 == 4) = false := beq_eq_false_iff_ne.mpr c90
      have c90b1 : (t472 != 4) = true := bne_iff_ne.mpr c90
      rw [hLW] at H
      exact absurd H (by simp)
     rw [if_pos c90] at H
     have c90b0 : (t472 == 4) = true := beq_iff_eq.mpr c90
     have c90b1 : (t472 != 4) = false := bne_eq_false_iff_eq.mpr c90
     clear c90
     by_cases c91 : t477 = 4
     rotate_left
     ·
      rw [if_neg c91] at H
      have c91b0 : (t477 == 4) = false := beq_eq_false_iff_ne.mpr c91
      have c91b1 : (t477 != 4) = true := bne_iff_ne.mpr c91
      rw [hLW] at H
      exact absurd H (by simp)
     rw [if_pos c91] at H
     have c91b0 : (t477 == 4) = true := beq_iff_eq.mpr c91
     have c91b1 : (t477 != 4) = false := bne_eq_false_iff_eq.mpr c91
     clear c91
     by_cases c92 : t485 = 4
     rotate_left
     ·
      rw [if_neg c92] at H
      have c92b0 : (t485 == 4) = false := beq_eq_false_iff_ne.mpr c92
      have c92b1 : (t485 != 4) = true := bne_iff_ne.mpr c92
      rw [hLW] at H
      exact absurd H (by simp)
     rw [if_pos c92] at H
     have c92b0 : (t485 == 4) = true := beq_iff_eq.mpr c92
     have c92b1 : (t485 != 4) = false := bne_eq_false_iff_eq.mpr c92
     clear c92
     by_cases c93 : (wrap64 ((wrap64 ((t474.length : Int) + (t479.length : Int))) + (t482.length : Int))) = 0
     rotate_left
     ·
      rw [if_neg c93] at H
      have c93b0 : ((wrap64 ((wrap64 ((t474.length : Int) + (t479.length : Int))) + (t482.length : Int))) == 0) = false := beq_eq_false_iff_ne.mpr c93
      have c93b1 : ((wrap64 ((wrap64 ((t474.length : Int) + (t479.length : Int))) + (t482.length : Int))) != 0) = true := bne_iff_ne.mpr c93
      rw [hLW] at H
      exact absurd H (by simp)
     rw [if_pos c93] at H
     have c93b0 : ((wrap64 ((wrap64 ((t474.length : Int) + (t479.length : Int))) + (t482.length : Int))) == 0) = true := beq_iff_eq.mpr c93
     have c93b1 : ((wrap64 ((wrap64 ((t474.length : Int) + (t479.length : Int))) + (t482.length : Int))) != 0) = false := bne_eq_false_iff_eq.mpr c93
     clear c93
     obtain rfl := Option.some.inj H
     go_wp2_with (first | ((with_reducible refine gate_dst (N := 34) rfl ?_); refine gbox (N := 34) (cs := #[.int .u8 0]) (t := 27) ?_; intro gb469 hg w94 hbox hb; refine ax4 (below_step bel hb) ((ge hg : w.heap.size ≤ gb469)) ((ge hg : w.heap.size ≤ gb469)) ((show IsS27 w _ gb469 0 from ⟨hbox, (ge hg : w.heap.size ≤ gb469)⟩)) ?_; clear HB; intro HB GW469 GE469 HI469; clear hb hbox hg) | ((with_reducible refine gate_dst (N := 36) rfl ?_); refine gbox (N := 36) (cs := #[.int .u8 0]) (t := 27) ?_; intro gb470 hg w95 hbox hb; refine ax7 (IsS27.below (by repeat (first | (with_reducible first | exact HI469.out | apply IsS27.alloc | apply IsS27.drewN | apply IsS27.drew | apply IsS27.set_0) | exact HI469.out)) hb) (below_step (by repeat (first | (with_reducible first | exact HB.out | apply below_alloc | apply pw_below_drewN | apply below_drew1 | refine below_set ?_ (IsS27.ge HI469.out)) | exact HB.out)) hb) ((by rw [hg]; exact (below_size (by repeat (first | (with_reducible first | exact HB.out | apply below_alloc | apply pw_below_drewN | apply below_drew1 | refine below_set ?_ (IsS27.ge HI469.out)) | exact HB.out))) : w.heap.size ≤ gb470)) ((by rw [hg]; exact (below_size (by repeat (first | (with_reducible first | exact HB.out | apply below_alloc | apply pw_below_drewN | apply below_drew1 | refine below_set ?_ (IsS27.ge HI469.out)) | exact HB.out))) : w.heap.size ≤ gb470)) ((by rw [hg]; exact Nat.ne_of_lt (IsS27.lt (show IsS27 w _ gb469 0 from by repeat (first | (with_reducible first | exact HI469.out | apply IsS27.alloc | apply IsS27.drewN | apply IsS27.drew | apply IsS27.set_0) | exact HI469.out))) : gb469 ≠ gb470)) ((by rw [hg]; exact Nat.ne_of_gt (IsS27.lt (show IsS27 w _ gb469 0 from by repeat (first | (with_reducible first | exact HI469.out | apply IsS27.alloc | apply IsS27.drewN | apply IsS27.drew | apply IsS27.set_0) | exact HI469.out))) : gb470 ≠ gb469)) ((show IsS27 w _ gb470 0 from ⟨hbox, (by rw [hg]; exact (below_size (by repeat (first | (with_reducible first | exact HB.out | apply below_alloc | apply pw_below_drewN | apply below_drew1 | refine below_set ?_ (IsS27.ge HI469.out)) | exact HB.out))) : w.heap.size ≤ gb470)⟩)) ?_; clear HI469; clear HB; intro HI469 HB GW470 GE470 NB469_470 NB470_469 HI470; clear hb hbox hg) | ((with_reducible refine gate_callee (f := 15) rfl ?_); refine goesL_ (some 41) rfl rfl Try.func15 (by kernel_rfl) rfl #[.pointer (some ⟨gb469, 0, none⟩), .slice A0 l0.length c0, .slice A1 l1.length c1] rfl ga ?_; (with_reducible refine (vec_Dot.calls kj6 gb469 0 _ _ l0 _ _ l1 t471 t472 t473 w _ ?side1 ?side2 ?side3 ?side4 ?side5 ?side6 ?side7 ?side8 A11.out).mono ?_); (case side1 => repeat (first | (with_reducible first | exact HI469.out | apply IsS27.alloc | apply IsS27.drewN | apply IsS27.drew | apply IsS27.set_0 | refine IsS27.far ?_ NB469_470.out _) | exact HI469.out)); (case side2 => repeat (first | (with_reducible first | exact HB.out | apply below_alloc | apply pw_below_drewN | apply below_drew1 | refine below_set ?_ (IsS27.ge HI469.out) | refine below_set ?_ (IsS27.ge HI470.out)) | exact HB.out)); (case side3 => repeat (first | exact (Kd.C_below HR0.out HB.out) | (with_reducible refine Kd.C_alloc ?_ _) | (with_reducible refine Kd.C_drewN ?_ _) | (with_reducible refine Kd.C_drew ?_))); (case side4 => exact HC0.out); (case side5 => exact Kd.far_C 0 HR0.out (IsS27.ge HI469.out)); (case side6 => repeat (first | exact (Kd.C_below HR1.out HB.out) | (with_reducible refine Kd.C_alloc ?_ _) | (with_reducible refine Kd.C_drewN ?_ _) | (with_reducible refine Kd.C_drew ?_))); (case side7 => exact HC1.out); (case side8 => exact Kd.far_C 0 HR1.out (IsS27.ge HI469.out)); rintro e w96 ⟨rfl, hi, hb, hk⟩; refine ⟨_, rfl, ?_⟩; refine ax3 ((show IsS27 w _ gb470 0 from ⟨KeepBut.blk hk (show IsS27 w _ gb470 0 from by repeat (first | (with_reducible first | exact HI470.out | apply IsS27.alloc | apply IsS27.drewN | apply IsS27.drew | apply IsS27.set_0 | refine IsS27.far ?_ NB470_469.out _) | exact HI470.out)).1 NB470_469.out (by simp), (show IsS27 w _ gb470 0 from by repeat (first | (with_reducible first | exact HI470.out | apply IsS27.alloc | apply IsS27.drewN | apply IsS27.drew | apply IsS27.set_0 | refine IsS27.far ?_ NB470_469.out _) | exact HI470.out)).2⟩)) hb hi ?_; clear HI470; clear HB; clear HI469; intro HI470 HB HI469; (try clear hb)) | ((with_reducible refine gate_callee (f := 16) rfl ?_); refine goesL_ (some 49) rfl rfl Try.func16 (by kernel_rfl) rfl #[.pointer (some ⟨gb469, 0, none⟩), .int .u64 a2, .slice A0 l0.length c0, .slice A1 l1.length c1] rfl ga ?_; (with_reducible refine (vec_Axpy.calls kj6 gb469 t473 a2 _ _ l0 _ _ l1 t474 t477 t478 w _ ?side1 ?side2 ?side3 ?side4 ?side5 ?side6 ?side7 ?side8 A12.out).mono ?_); (case side1 => repeat (first | (with_reducible first | exact HI469.out | apply IsS27.alloc | apply IsS27.drewN | apply IsS27.drew | apply IsS27.set_0 | refine IsS27.far ?_ NB469_470.out _) | exact HI469.out)); (case side2 => repeat (first | (with_reducible first | exact HB.out | apply below_alloc | apply pw_below_drewN | apply below_drew1 | refine below_set ?_ (IsS27.ge HI469.out) | refine below_set ?_ (IsS27.ge HI470.out)) | exact HB.out)); (case side3 => repeat (first | exact (Kd.C_below HR0.out HB.out) | (with_reducible refine Kd.C_alloc ?_ _) | (with_reducible refine Kd.C_drewN ?_ _) | (with_reducible refine Kd.C_drew ?_))); (case side4 => exact HC0.out); (case side5 => exact Kd.far_C 0 HR0.out (IsS27.ge HI469.out)); (case side6 => repeat (first | exact (Kd.C_below HR1.out HB.out) | (with_reducible refine Kd.C_alloc ?_ _) | (with_reducible refine Kd.C_drewN ?_ _) | (with_reducible refine Kd.C_drew ?_))); (case side7 => exact HC1.out); (case side8 => exact Kd.far_C 0 HR1.out (IsS27.ge HI469.out)); rintro e w97 ⟨v475, rfl, ho0, hi, hb, hk⟩; refine ⟨_, rfl, ?_⟩; refine ax4 ((show IsS27 w _ gb470 0 from ⟨KeepBut.blk hk (show IsS27 w _ gb470 0 from by repeat (first | (with_reducible first | exact HI470.out | apply IsS27.alloc | apply IsS27.drewN | apply IsS27.drew | apply IsS27.set_0 | refine IsS27.far ?_ NB470_469.out _) | exact HI470.out)).1 NB470_469.out (by simp), (show IsS27 w _ gb470 0 from by repeat (first | (with_reducible first | exact HI470.out | apply IsS27.alloc | apply IsS27.drewN | apply IsS27.drew | apply IsS27.set_0 | refine IsS27.far ?_ NB470_469.out _) | exact HI470.out)).2⟩)) (Kd.R_lower ho0 (below_size (by repeat (first | (with_reducible first | exact HB.out | apply below_alloc | apply pw_below_drewN | apply below_drew1 | refine below_set ?_ (IsS27.ge HI469.out) | refine below_set ?_ (IsS27.ge HI470.out)) | exact HB.out)))) hb hi ?_; clear HI470; clear HB; clear HI469; intro HI470 HO476 HB HI469; (try clear hb); (try clear ho0)) | ((with_reducible refine gate_callee (f := 17) rfl ?_); refine goesL_ (some 58) rfl rfl Try.func17 (by kernel_rfl) rfl #[.pointer (some ⟨gb469, 0, none⟩), .slice A0 l0.length c0, .slice A1 l1.length c1, .int .u64 a2, .int .u64 a3] rfl ga ?_; (with_reducible refine (vec_Rot.calls kj6 gb469 t478 _ _ l0 _ _ l1 a2 a3 t479 t482 t485 t486 w _ ?side1 ?side2 ?side3 ?side4 ?side5 ?side6 ?side7 ?side8 A13.out).mono ?_); (case side1 => repeat (first | (with_reducible first | exact HI469.out | apply IsS27.alloc | apply IsS27.drewN | apply IsS27.drew | apply IsS27.set_0 | refine IsS27.far ?_ NB469_470.out _) | exact HI469.out)); (case side2 => repeat (first | (with_reducible first | exact HB.out | apply below_alloc | apply pw_below_drewN | apply below_drew1 | refine below_set ?_ (IsS27.ge HI469.out) | refine below_set ?_ (IsS27.ge HI470.out)) | exact HB.out)); (case side3 => repeat (first | exact (Kd.C_below HR0.out HB.out) | (with_reducible refine Kd.C_alloc ?_ _) | (with_reducible refine Kd.C_drewN ?_ _) | (with_reducible refine Kd.C_drew ?_))); (case side4 => exact HC0.out); (case side5 => exact Kd.far_C 0 HR0.out (IsS27.ge HI469.out)); (case side6 => repeat (first | exact (Kd.C_below HR1.out HB.out) | (with_reducible refine Kd.C_alloc ?_ _) | (with_reducible refine Kd.C_drewN ?_ _) | (with_reducible refine Kd.C_drew ?_))); (case side7 => exact HC1.out); (case side8 => exact Kd.far_C 0 HR1.out (IsS27.ge HI469.out)); rintro e w98 ⟨v480, v483, rfl, ho0, ho1, hi, hb, hk⟩; refine ⟨_, rfl, ?_⟩; refine ax6 ((show IsS27 w _ gb470 0 from ⟨KeepBut.blk hk (show IsS27 w _ gb470 0 from by repeat (first | (with_reducible first | exact HI470.out | apply IsS27.alloc | apply IsS27.drewN | apply IsS27.drew | apply IsS27.set_0 | refine IsS27.far ?_ NB470_469.out _) | exact HI470.out)).1 NB470_469.out (by simp), (show IsS27 w _ gb470 0 from by repeat (first | (with_reducible first | exact HI470.out | apply IsS27.alloc | apply IsS27.drewN | apply IsS27.drew | apply IsS27.set_0 | refine IsS27.far ?_ NB470_469.out _) | exact HI470.out)).2⟩)) (Kd.R_mono (Kd.R_told (Kd.R_told (Kd.R_oldK (IsS27.apart (show IsS27 w _ gb469 t478 from by repeat (first | (with_reducible first | exact HI469.out | apply IsS27.alloc | apply IsS27.drewN | apply IsS27.drew | apply IsS27.set_0 | refine IsS27.far ?_ NB469_470.out _) | exact HI469.out)) (kr HO476) (by decide)) hk) (Kd.R_base ho0)) (Kd.R_base ho1)) (fun _ h_ => h_.1)) (Kd.R_lower (Kd.R_new' ho0 (Kd.R_lt (kr HO476))) (below_size (by repeat (first | (with_reducible first | exact HB.out | apply below_alloc | apply pw_below_drewN | apply below_drew1 | refine below_set ?_ (IsS27.ge HI469.out) | refine below_set ?_ (IsS27.ge HI470.out)) | exact HB.out)))) (Kd.R_lower (Kd.R_new' ho1 (Kd.R_lt (kr HO476))) (below_size (by repeat (first | (with_reducible first | exact HB.out | apply below_alloc | apply pw_below_drewN | apply below_drew1 | refine below_set ?_ (IsS27.ge HI469.out) | refine below_set ?_ (IsS27.ge HI470.out)) | exact HB.out)))) hb hi ?_; clear HI470; clear HO476; clear HB; clear HI469; intro HI470 HO476 HO481 HO484 HB HI469; (try clear hb); (try clear ho0); (try clear ho1); obtain ⟨Ao99, co99, eo99⟩ := Kd.R_slice HO476.out; subst eo99; obtain ⟨Ao100, co100, eo100⟩ := Kd.R_slice HO481.out; subst eo100; obtain ⟨Ao101, co101, eo101⟩ := Kd.R_slice HO484.out; subst eo101; obtain ⟨HGz102, hgz102⟩ := HI469.out; have hcz102_0 := cellS27_0 HGz102; have hfz102_0 := blk_frozen HGz102 0; clear HGz102 hgz102))
     go_ret
     exact ⟨er, by repeat (first | (with_reducible first | exact HB.out | apply below_alloc | apply pw_below_drewN | apply below_drew1 | refine below_set ?_ (IsS27.ge HI469.out) | refine below_set ?_ (IsS27.ge HI470.out)) | exact HB.out)⟩
/-- THE ONE PURE STATEMENT of gimballaw10_VecSteps: yours. -/
def gimballaw10_VecSteps.Pure : Prop := ∀ (l0 : List Int) (l1 : List Int) (a2 : Int) (a3 : Int), l0.length ≤ maxLen → l0.length * 8 ≤ 140737488351232 → (∀ x ∈ l0, (Lit.int .u64 x).wf = true) → l1.length ≤ maxLen → l1.length * 8 ≤ 140737488351232 → (∀ x ∈ l1, (Lit.int .u64 x).wf = true) → (Lit.int .u64 a2).wf = true → (Lit.int .u64 a3).wf = true → ∃ k, gimballaw10_VecSteps.f k l0 l1 a2 a3 = some true
theorem gimballaw10_VecSteps.walk (P : gimballaw10_VecSteps.Pure) (a0 : Option Addr) (len0 cap0 : Nat) (z0 : List Int) (a1 : Option Addr) (len1 cap1 : Nat) (z1 : List Int) (a2 : Int) (a3 : Int) (w : World) (w0 : (a0 = none ∧ len0 = 0 ∧ cap0 = 0 ∧ z0 = []) ∨ ∃ x, a0 = some x ∧ len0 ≤ cap0 ∧ cap0 ≤ maxLen ∧ z0.length = cap0 ∧ (∀ i, i < z0.length → w.cell? (x.add i) = some (.int .u64 (z0.getD i 0))) ∧ ∀ n ∈ z0, (Lit.int .u64 n).wf = true) (y0 : len0 * 8 ≤ 140737488351232) (w1 : (a1 = none ∧ len1 = 0 ∧ cap1 = 0 ∧ z1 = []) ∨ ∃ x, a1 = some x ∧ len1 ≤ cap1 ∧ cap1 ≤ maxLen ∧ z1.length = cap1 ∧ (∀ i, i < z1.length → w.cell? (x.add i) = some (.int .u64 (z1.getD i 0))) ∧ ∀ n ∈ z1, (Lit.int .u64 n).wf = true) (y1 : len1 * 8 ≤ 140737488351232) (w2 : (Lit.int .u64 a2).wf = true) (w3 : (Lit.int .u64 a3).wf = true) :
  Calls Try.prog 5 #[.slice a0 len0 cap0, .slice a1 len1 cap1, .int .u64 a2, .int .u64 a3] w fun e w' => e = .returned (.bool true) ∧ Below w.heap.size w w' := by
 obtain ⟨l0, rfl, hr0, hm0, hw0, hc0⟩ := ReadsInt.ofRowC w0
 obtain ⟨l1, rfl, hr1, hm1, hw1, hc1⟩ := ReadsInt.ofRowC w1
 obtain ⟨k, h⟩ := P l0 l1 a2 a3 hm0 y0 hw0 hm1 y1 hw1 w2 w3
 refine (gimballaw10_VecSteps.calls k _ _ l0 _ _ l1 a2 a3 true w (Kd.C_of_reads (d := (0 : Int)) (h1 := fun _ => rfl) hr0) hc0 (Kd.C_of_reads (d := (0 : Int)) (h1 := fun _ => rfl) hr1) hc1 rfl h).mono ?_
 rintro e w' ⟨rfl, hd⟩
 exact ⟨rfl, hd⟩

end Go.Proofs.Ytkkfghecmhmdpaa.F
