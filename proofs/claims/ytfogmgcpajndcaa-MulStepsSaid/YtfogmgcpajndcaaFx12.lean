-- Written by a program of this seat's session (mkprint), out of the translation.
import Derived.Test.YtfogmgcpajndcaaShort
import Derived.Test.YtfogmgcpajndcaaFx0
import Derived.Test.YtfogmgcpajndcaaFx2
import Derived.Test.YtfogmgcpajndcaaFx7
import Derived.Test.YtfogmgcpajndcaaFx8
import Derived.Test.YtfogmgcpajndcaaFx9
import Derived.Test.YtfogmgcpajndcaaFx10
import Derived.Test.YtfogmgcpajndcaaFx11
namespace Go.Proofs.Ytfogmgcpajndcaa.F
open Go.RowKit Go.Proofs.YtfogmgcpajndcaaW.PrintWords Go.Proofs.YtfogmgcpajndcaaW.PrintLast Go.Proofs.YtfogmgcpajndcaaW.PrintMore
attribute [local go_sem] max2_int min2_int max_two min_two max_three min_three max_four min_four   -- for this text's walks alone
set_option linter.unusedVariables false
set_option linter.unusedSimpArgs false

/-! ### gimballaw11_MulSteps: function 4 -/
mutual
def gimballaw11_MulSteps.j0 : Nat → Int → Int → Int → List Int → Int → Int → List Int → List Int → List Int → Bool → Int → Int → Int → List Int → Int → Int → Int → List Int → Int → Int → Int → Int → Int → List Int → Int → Int → Int → List Int → Option (Bool)
 | 0, _, _, _, _, _, _, _, _, _, _, _, _, _, _, _, _, _, _, _, _, _, _, _, _, _, _, _, _ => none
 | k + 1, x0, x1, x2, x3, x4, x5, x15, x16, x21, x131, x572000, x572001, x572002, x572003, x579000, x579001, x579002, x579003, x598000, x599000, x608000, x608001, x608002, x608003, x622000, x622001, x622002, x622003 => if x131 = true then (some false) else ((mat_Matrix_Turn.f k x579000 x579001 x579002 x579003).bind fun bt622 => (gimballaw11_MulSteps.l0 k x0 x1 x2 x3 x4 x5 x15 x16 x21 0 x572000 x572001 x572002 x572003 x579000 x579001 x579002 x579003 x598000 x599000 x608000 x608001 x608002 x608003 x622000 x622001 x622002 x622003 bt622.1 bt622.2.1 bt622.2.2.1 bt622.2.2.2))
def gimballaw11_MulSteps.l0 : Nat → Int → Int → Int → List Int → Int → Int → List Int → List Int → List Int → Int → Int → Int → Int → List Int → Int → Int → Int → List Int → Int → Int → Int → Int → Int → List Int → Int → Int → Int → List Int → Int → Int → Int → List Int → Option (Bool)
 | 0, _, _, _, _, _, _, _, _, _, _, _, _, _, _, _, _, _, _, _, _, _, _, _, _, _, _, _, _, _, _, _, _ => none
 | k + 1, x0, x1, x2, x3, x4, x5, x15, x16, x21, x26, x572000, x572001, x572002, x572003, x579000, x579001, x579002, x579003, x598000, x599000, x608000, x608001, x608002, x608003, x622000, x622001, x622002, x622003, x629000, x629001, x629002, x629003 => if x26 < x0 then (gimballaw11_MulSteps.l1 k x0 x1 x2 x3 x4 x5 x15 x16 x21 x26 0 x572000 x572001 x572002 x572003 x579000 x579001 x579002 x579003 x598000 x599000 x608000 x608001 x608002 x608003 x622000 x622001 x622002 x622003 x629000 x629001 x629002 x629003) else (gimballaw11_MulSteps.l2 k x0 x1 x2 x3 x4 x5 x15 x16 x21 0 x572000 x572001 x572002 x572003 x579000 x579001 x579002 x579003 x598000 x599000 x622000 x622001 x622002 x622003)
def gimballaw11_MulSteps.l1 : Nat → Int → Int → Int → List Int → Int → Int → List Int → List Int → List Int → Int → Int → Int → Int → Int → List Int → Int → Int → Int → List Int → Int → Int → Int → Int → Int → List Int → Int → Int → Int → List Int → Int → Int → Int → List Int → Option (Bool)
 | 0, _, _, _, _, _, _, _, _, _, _, _, _, _, _, _, _, _, _, _, _, _, _, _, _, _, _, _, _, _, _, _, _, _ => none
 | k + 1, x0, x1, x2, x3, x4, x5, x15, x16, x21, x26, x27, x572000, x572001, x572002, x572003, x579000, x579001, x579002, x579003, x598000, x599000, x608000, x608001, x608002, x608003, x622000, x622001, x622002, x622003, x629000, x629001, x629002, x629003 => if x27 < x2 then ((gimballaw11_row.f k x572000 x572001 x572002 x572003 x26).bind fun t629 => ((gimballaw11_row.f k x629000 x629001 x629002 x629003 x27).bind fun t632 => ((vec_Dot.f k x599000 t629 t632).bind fun bt635 => ((mat_Matrix_At.f x608000 x608001 x608002 x608003 x26 x27).bind fun t638 => (if t638 = bt635.1 then (gimballaw11_MulSteps.l1 k x0 x1 x2 x3 x4 x5 x15 x16 x21 x26 (wrap64 (x27 + 1)) x572000 x572001 x572002 x572003 x579000 x579001 x579002 x579003 x598000 bt635.2.2 x608000 x608001 x608002 x608003 x622000 x622001 x622002 x622003 x629000 x629001 x629002 x629003) else (some false)))))) else (gimballaw11_MulSteps.l0 k x0 x1 x2 x3 x4 x5 x15 x16 x21 (wrap64 (x26 + 1)) x572000 x572001 x572002 x572003 x579000 x579001 x579002 x579003 x598000 x599000 x608000 x608001 x608002 x608003 x622000 x622001 x622002 x622003 x629000 x629001 x629002 x629003)
def gimballaw11_MulSteps.l2 : Nat → Int → Int → Int → List Int → Int → Int → List Int → List Int → List Int → Int → Int → Int → Int → List Int → Int → Int → Int → List Int → Int → Int → Int → Int → Int → List Int → Option (Bool)
 | 0, _, _, _, _, _, _, _, _, _, _, _, _, _, _, _, _, _, _, _, _, _, _, _, _ => none
 | k + 1, x0, x1, x2, x3, x4, x5, x15, x16, x21, x30, x572000, x572001, x572002, x572003, x579000, x579001, x579002, x579003, x598000, x599000, x622000, x622001, x622002, x622003 => if x30 < x0 then ((gimballaw11_row.f k x572000 x572001 x572002 x572003 x30).bind fun t639 => ((vec_Dot.f k x599000 t639 x15).bind fun bt642 => (if 0 ≤ x30 then (if x30 < (x21.length : Int) then (if (rd x21 x30) = bt642.1 then (gimballaw11_MulSteps.l2 k x0 x1 x2 x3 x4 x5 x15 x16 x21 (wrap64 (x30 + 1)) x572000 x572001 x572002 x572003 x579000 x579001 x579002 x579003 x598000 bt642.2.2 x622000 x622001 x622002 x622003) else (some false)) else (none)) else (none)))) else (gimballaw11_MulSteps.l3 k x0 x1 x2 x3 x4 x5 x15 x16 0 x572000 x572001 x572002 x572003 x579000 x579001 x579002 x579003 x598000 x599000 x622000 x622001 x622002 x622003)
def gimballaw11_MulSteps.l3 : Nat → Int → Int → Int → List Int → Int → Int → List Int → List Int → Int → Int → Int → Int → List Int → Int → Int → Int → List Int → Int → Int → Int → Int → Int → List Int → Option (Bool)
 | 0, _, _, _, _, _, _, _, _, _, _, _, _, _, _, _, _, _, _, _, _, _, _, _ => none
 | k + 1, x0, x1, x2, x3, x4, x5, x15, x16, x33, x572000, x572001, x572002, x572003, x579000, x579001, x579002, x579003, x598000, x599000, x622000, x622001, x622002, x622003 => if x33 < x0 then (if 0 ≤ x33 then (if x33 < (x16.length : Int) then ((soft_Calc_Mul.f k x599000 x4 (rd x16 x33)).bind fun bt647 => (gimballaw11_MulSteps.l4 k x0 x1 x2 x3 x4 x5 x15 x16 x33 bt647.1 0 x572000 x572001 x572002 x572003 x579000 x579001 x579002 x579003 x598000 bt647.2 x622000 x622001 x622002 x622003)) else (none)) else (none)) else (if x598000 = x599000 then ((gimballaw11_made.f k (wrap64 (x1 + 1)) x2 x3 0).bind fun bt656 => ((mul_Gemm.f k x598000 x572000 x572001 x572002 x572003 bt656.1 bt656.2.1 bt656.2.2.1 bt656.2.2.2).bind fun bt662 => ((some (([] : List Int) : List Int)).bind fun y670 => (if y670.length + x15.length < 17592186044416 then ((some (y670 ++ x15 : List Int)).bind fun y673 => ((some (([0] : List Int) : List Int)).bind fun y676 => (if y673.length + y676.length < 17592186044416 then ((mul_Gemv.f k bt662.2.2.2.2.2 x572000 x572001 x572002 x572003 (y673 ++ y676)).bind fun bt682 => ((some (([] : List Int) : List Int)).bind fun y687 => (if y687.length + x15.length < 17592186044416 then ((some (y687 ++ x15 : List Int)).bind fun y690 => ((some (([0] : List Int) : List Int)).bind fun y693 => (if y690.length + y693.length < 17592186044416 then ((mul_Ger.f k bt682.2.2 x572000 x572001 x572002 x572003 x4 x15 (y690 ++ y693)).bind fun bt699 => ((mul_Gemm.f k bt699.2.2.2.2.2 x572000 x572001 (wrap64 ((-1) - (Go.bits .and .i64 x5 7))) x572003 x579000 x579001 x579002 x579003).bind fun bt707 => (if bt662.2.2.2.2.1 = 4 then (if bt682.2.1 = 4 then (if bt699.2.2.2.2.1 = 4 then (if bt707.2.2.2.2.1 = 4 then (some (bt707.2.2.2.2.2 == x599000)) else (some false)) else (some false)) else (some false)) else (some false)))) else (none)))) else (none)))) else (none)))) else (none))))) else (some false))
def gimballaw11_MulSteps.l4 : Nat → Int → Int → Int → List Int → Int → Int → List Int → List Int → Int → Int → Int → Int → Int → Int → List Int → Int → Int → Int → List Int → Int → Int → Int → Int → Int → List Int → Option (Bool)
 | 0, _, _, _, _, _, _, _, _, _, _, _, _, _, _, _, _, _, _, _, _, _, _, _, _, _ => none
 | k + 1, x0, x1, x2, x3, x4, x5, x15, x16, x33, x34, x35, x572000, x572001, x572002, x572003, x579000, x579001, x579002, x579003, x598000, x599000, x622000, x622001, x622002, x622003 => if x35 < x1 then ((mat_Matrix_At.f x622000 x622001 x622002 x622003 x33 x35).bind fun t649 => ((mat_Matrix_At.f x572000 x572001 x572002 x572003 x33 x35).bind fun t650 => (if 0 ≤ x35 then (if x35 < (x15.length : Int) then ((soft_Calc_Mul.f k x599000 x34 (rd x15 x35)).bind fun bt652 => ((soft_Calc_Add.f k bt652.2 t650 bt652.1).bind fun bt654 => (if t649 = bt654.1 then (gimballaw11_MulSteps.l4 k x0 x1 x2 x3 x4 x5 x15 x16 x33 x34 (wrap64 (x35 + 1)) x572000 x572001 x572002 x572003 x579000 x579001 x579002 x579003 x598000 bt654.2 x622000 x622001 x622002 x622003) else (some false)))) else (none)) else (none)))) else (gimballaw11_MulSteps.l3 k x0 x1 x2 x3 x4 x5 x15 x16 (wrap64 (x33 + 1)) x572000 x572001 x572002 x572003 x579000 x579001 x579002 x579003 x598000 x599000 x622000 x622001 x622002 x622003)
end
def gimballaw11_MulSteps.f (k : Nat) (a0 : Int) (a1 : Int) (a2 : Int) (l3 : List Int) (a4 : Int) (a5 : Int) : Option (Bool) := (gimballaw11_head.f k).bind fun t564 => (if t564 = true then (if (l3.length : Int) > 100 then (some true) else ((gimballaw11_made.f k (Go.bits .and .i64 a0 7) (Go.bits .and .i64 a1 7) l3 0).bind fun bt565 => ((gimballaw11_made.f k (Go.bits .and .i64 a1 7) (Go.bits .and .i64 a2 7) l3 3).bind fun bt572 => ((gimballaw11_made.f k 1 (Go.bits .and .i64 a1 7) l3 5).bind fun bt579 => ((gimballaw11_row.f k bt579.1 bt579.2.1 bt579.2.2.1 bt579.2.2.2 0).bind fun t585 => ((gimballaw11_made.f k 1 (Go.bits .and .i64 a0 7) l3 1).bind fun bt588 => ((gimballaw11_row.f k bt588.1 bt588.2.1 bt588.2.2.1 bt588.2.2.2 0).bind fun t594 => ((mul_Gemm.f k 0 bt565.1 bt565.2.1 bt565.2.2.1 bt565.2.2.2 bt572.1 bt572.2.1 bt572.2.2.1 bt572.2.2.2).bind fun bt599 => ((mul_Gemv.f k bt599.2.2.2.2.2 bt565.1 bt565.2.1 bt565.2.2.1 bt565.2.2.2 t585).bind fun bt608 => ((mul_Ger.f k bt608.2.2 bt565.1 bt565.2.1 bt565.2.2.1 bt565.2.2.2 a4 t594 t585).bind fun bt613 => (if bt599.2.2.2.2.1 = 0 then (if bt608.2.1 = 0 then (if bt613.2.2.2.2.1 = 0 then (if bt599.1 = (Go.bits .and .i64 a0 7) then (if bt599.2.1 = (Go.bits .and .i64 a2 7) then (if (bt608.1.length : Int) = (Go.bits .and .i64 a0 7) then (if bt613.1 = (Go.bits .and .i64 a0 7) then (gimballaw11_MulSteps.j0 k (Go.bits .and .i64 a0 7) (Go.bits .and .i64 a1 7) (Go.bits .and .i64 a2 7) l3 a4 a5 t585 t594 bt608.1 (bt613.2.1 != (Go.bits .and .i64 a1 7)) bt565.1 bt565.2.1 bt565.2.2.1 bt565.2.2.2 bt572.1 bt572.2.1 bt572.2.2.1 bt572.2.2.2 bt613.2.2.2.2.2 0 bt599.1 bt599.2.1 bt599.2.2.1 bt599.2.2.2.1 bt613.1 bt613.2.1 bt613.2.2.1 bt613.2.2.2.1) else (gimballaw11_MulSteps.j0 k (Go.bits .and .i64 a0 7) (Go.bits .and .i64 a1 7) (Go.bits .and .i64 a2 7) l3 a4 a5 t585 t594 bt608.1 true bt565.1 bt565.2.1 bt565.2.2.1 bt565.2.2.2 bt572.1 bt572.2.1 bt572.2.2.1 bt572.2.2.2 bt613.2.2.2.2.2 0 bt599.1 bt599.2.1 bt599.2.2.1 bt599.2.2.2.1 bt613.1 bt613.2.1 bt613.2.2.1 bt613.2.2.2.1)) else (gimballaw11_MulSteps.j0 k (Go.bits .and .i64 a0 7) (Go.bits .and .i64 a1 7) (Go.bits .and .i64 a2 7) l3 a4 a5 t585 t594 bt608.1 true bt565.1 bt565.2.1 bt565.2.2.1 bt565.2.2.2 bt572.1 bt572.2.1 bt572.2.2.1 bt572.2.2.2 bt613.2.2.2.2.2 0 bt599.1 bt599.2.1 bt599.2.2.1 bt599.2.2.2.1 bt613.1 bt613.2.1 bt613.2.2.1 bt613.2.2.2.1)) else (gimballaw11_MulSteps.j0 k (Go.bits .and .i64 a0 7) (Go.bits .and .i64 a1 7) (Go.bits .and .i64 a2 7) l3 a4 a5 t585 t594 bt608.1 true bt565.1 bt565.2.1 bt565.2.2.1 bt565.2.2.2 bt572.1 bt572.2.1 bt572.2.2.1 bt572.2.2.2 bt613.2.2.2.2.2 0 bt599.1 bt599.2.1 bt599.2.2.1 bt599.2.2.2.1 bt613.1 bt613.2.1 bt613.2.2.1 bt613.2.2.2.1)) else (gimballaw11_MulSteps.j0 k (Go.bits .and .i64 a0 7) (Go.bits .and .i64 a1 7) (Go.bits .and .i64 a2 7) l3 a4 a5 t585 t594 bt608.1 true bt565.1 bt565.2.1 bt565.2.2.1 bt565.2.2.2 bt572.1 bt572.2.1 bt572.2.2.1 bt572.2.2.2 bt613.2.2.2.2.2 0 bt599.1 bt599.2.1 bt599.2.2.1 bt599.2.2.2.1 bt613.1 bt613.2.1 bt613.2.2.1 bt613.2.2.2.1)) else (gimballaw11_MulSteps.j0 k (Go.bits .and .i64 a0 7) (Go.bits .and .i64 a1 7) (Go.bits .and .i64 a2 7) l3 a4 a5 t585 t594 bt608.1 true bt565.1 bt565.2.1 bt565.2.2.1 bt565.2.2.2 bt572.1 bt572.2.1 bt572.2.2.1 bt572.2.2.2 bt613.2.2.2.2.2 0 bt599.1 bt599.2.1 bt599.2.2.1 bt599.2.2.2.1 bt613.1 bt613.2.1 bt613.2.2.1 bt613.2.2.2.1)) else (gimballaw11_MulSteps.j0 k (Go.bits .and .i64 a0 7) (Go.bits .and .i64 a1 7) (Go.bits .and .i64 a2 7) l3 a4 a5 t585 t594 bt608.1 true bt565.1 bt565.2.1 bt565.2.2.1 bt565.2.2.2 bt572.1 bt572.2.1 bt572.2.2.1 bt572.2.2.2 bt613.2.2.2.2.2 0 bt599.1 bt599.2.1 bt599.2.2.1 bt599.2.2.2.1 bt613.1 bt613.2.1 bt613.2.2.1 bt613.2.2.2.1)) else (gimballaw11_MulSteps.j0 k (Go.bits .and .i64 a0 7) (Go.bits .and .i64 a1 7) (Go.bits .and .i64 a2 7) l3 a4 a5 t585 t594 bt608.1 true bt565.1 bt565.2.1 bt565.2.2.1 bt565.2.2.2 bt572.1 bt572.2.1 bt572.2.2.1 bt572.2.2.2 bt613.2.2.2.2.2 0 bt599.1 bt599.2.1 bt599.2.2.1 bt599.2.2.2.1 bt613.1 bt613.2.1 bt613.2.2.1 bt613.2.2.2.1)))))))))))) else (some false))
theorem gimballaw11_MulSteps.mono_l : ∀ k, (∀ y0 y1 y2 y3 y4 y5 y6 y7 y8 y9 y10 y11 y12 y13 y14 y15 y16 y17 y18 y19 y20 y21 y22 y23 y24 y25 y26 y27, LeO (gimballaw11_MulSteps.j0 k y0 y1 y2 y3 y4 y5 y6 y7 y8 y9 y10 y11 y12 y13 y14 y15 y16 y17 y18 y19 y20 y21 y22 y23 y24 y25 y26 y27) (gimballaw11_MulSteps.j0 (k + 1) y0 y1 y2 y3 y4 y5 y6 y7 y8 y9 y10 y11 y12 y13 y14 y15 y16 y17 y18 y19 y20 y21 y22 y23 y24 y25 y26 y27)) ∧ (∀ y0 y1 y2 y3 y4 y5 y6 y7 y8 y9 y10 y11 y12 y13 y14 y15 y16 y17 y18 y19 y20 y21 y22 y23 y24 y25 y26 y27 y28 y29 y30 y31, LeO (gimballaw11_MulSteps.l0 k y0 y1 y2 y3 y4 y5 y6 y7 y8 y9 y10 y11 y12 y13 y14 y15 y16 y17 y18 y19 y20 y21 y22 y23 y24 y25 y26 y27 y28 y29 y30 y31) (gimballaw11_MulSteps.l0 (k + 1) y0 y1 y2 y3 y4 y5 y6 y7 y8 y9 y10 y11 y12 y13 y14 y15 y16 y17 y18 y19 y20 y21 y22 y23 y24 y25 y26 y27 y28 y29 y30 y31)) ∧ (∀ y0 y1 y2 y3 y4 y5 y6 y7 y8 y9 y10 y11 y12 y13 y14 y15 y16 y17 y18 y19 y20 y21 y22 y23 y24 y25 y26 y27 y28 y29 y30 y31 y32, LeO (gimballaw11_MulSteps.l1 k y0 y1 y2 y3 y4 y5 y6 y7 y8 y9 y10 y11 y12 y13 y14 y15 y16 y17 y18 y19 y20 y21 y22 y23 y24 y25 y26 y27 y28 y29 y30 y31 y32) (gimballaw11_MulSteps.l1 (k + 1) y0 y1 y2 y3 y4 y5 y6 y7 y8 y9 y10 y11 y12 y13 y14 y15 y16 y17 y18 y19 y20 y21 y22 y23 y24 y25 y26 y27 y28 y29 y30 y31 y32)) ∧ (∀ y0 y1 y2 y3 y4 y5 y6 y7 y8 y9 y10 y11 y12 y13 y14 y15 y16 y17 y18 y19 y20 y21 y22 y23, LeO (gimballaw11_MulSteps.l2 k y0 y1 y2 y3 y4 y5 y6 y7 y8 y9 y10 y11 y12 y13 y14 y15 y16 y17 y18 y19 y20 y21 y22 y23) (gimballaw11_MulSteps.l2 (k + 1) y0 y1 y2 y3 y4 y5 y6 y7 y8 y9 y10 y11 y12 y13 y14 y15 y16 y17 y18 y19 y20 y21 y22 y23)) ∧ (∀ y0 y1 y2 y3 y4 y5 y6 y7 y8 y9 y10 y11 y12 y13 y14 y15 y16 y17 y18 y19 y20 y21 y22, LeO (gimballaw11_MulSteps.l3 k y0 y1 y2 y3 y4 y5 y6 y7 y8 y9 y10 y11 y12 y13 y14 y15 y16 y17 y18 y19 y20 y21 y22) (gimballaw11_MulSteps.l3 (k + 1) y0 y1 y2 y3 y4 y5 y6 y7 y8 y9 y10 y11 y12 y13 y14 y15 y16 y17 y18 y19 y20 y21 y22)) ∧ (∀ y0 y1 y2 y3 y4 y5 y6 y7 y8 y9 y10 y11 y12 y13 y14 y15 y16 y17 y18 y19 y20 y21 y22 y23 y24, LeO (gimballaw11_MulSteps.l4 k y0 y1 y2 y3 y4 y5 y6 y7 y8 y9 y10 y11 y12 y13 y14 y15 y16 y17 y18 y19 y20 y21 y22 y23 y24) (gimballaw11_MulSteps.l4 (k + 1) y0 y1 y2 y3 y4 y5 y6 y7 y8 y9 y10 y11 y12 y13 y14 y15 y16 y17 y18 y19 y20 y21 y22 y23 y24))
 | 0 => ⟨fun _ _ _ _ _ _ _ _ _ _ _ _ _ _ _ _ _ _ _ _ _ _ _ _ _ _ _ _ r h => by simp [gimballaw11_MulSteps.j0] at h, fun _ _ _ _ _ _ _ _ _ _ _ _ _ _ _ _ _ _ _ _ _ _ _ _ _ _ _ _ _ _ _ _ r h => by simp [gimballaw11_MulSteps.l0] at h, fun _ _ _ _ _ _ _ _ _ _ _ _ _ _ _ _ _ _ _ _ _ _ _ _ _ _ _ _ _ _ _ _ _ r h => by simp [gimballaw11_MulSteps.l1] at h, fun _ _ _ _ _ _ _ _ _ _ _ _ _ _ _ _ _ _ _ _ _ _ _ _ r h => by simp [gimballaw11_MulSteps.l2] at h, fun _ _ _ _ _ _ _ _ _ _ _ _ _ _ _ _ _ _ _ _ _ _ _ r h => by simp [gimballaw11_MulSteps.l3] at h, fun _ _ _ _ _ _ _ _ _ _ _ _ _ _ _ _ _ _ _ _ _ _ _ _ _ r h => by simp [gimballaw11_MulSteps.l4] at h⟩
 | k + 1 => by
  obtain ⟨ih0, ih1, ih2, ih3, ih4, ih5⟩ := gimballaw11_MulSteps.mono_l k
  refine ⟨?_, ?_, ?_, ?_, ?_, ?_⟩ <;> intros <;> (first | unfold gimballaw11_MulSteps.j0 | unfold gimballaw11_MulSteps.l0 | unfold gimballaw11_MulSteps.l1 | unfold gimballaw11_MulSteps.l2 | unfold gimballaw11_MulSteps.l3 | unfold gimballaw11_MulSteps.l4) <;>
   repeat' with_reducible first | apply ih0 | apply ih1 | apply ih2 | apply ih3 | apply ih4 | apply ih5 | apply gimballaw11_head.mono | apply gimballaw11_made.mono | apply gimballaw11_row.mono | apply mat_Matrix_Turn.mono | apply mul_Gemm.mono | apply mul_Gemv.mono | apply mul_Ger.mono | apply soft_Calc_Add.mono | apply soft_Calc_Mul.mono | apply vec_Dot.mono | exact LeO.refl _ | exact LeO.none _ | refine LeO.ite ?_ ?_ | refine LeO.bind ?_ (fun _ => ?_)
theorem gimballaw11_MulSteps.mono : ∀ a0 a1 a2 a3 a4 a5 k, LeO (gimballaw11_MulSteps.f k a0 a1 a2 a3 a4 a5) (gimballaw11_MulSteps.f (k + 1) a0 a1 a2 a3 a4 a5) := by
 intro a0 a1 a2 a3 a4 a5 k
 obtain ⟨ih0, ih1, ih2, ih3, ih4, ih5⟩ := gimballaw11_MulSteps.mono_l k
 unfold gimballaw11_MulSteps.f
 repeat' with_reducible first | apply ih0 | apply ih1 | apply ih2 | apply ih3 | apply ih4 | apply ih5 | apply gimballaw11_head.mono | apply gimballaw11_made.mono | apply gimballaw11_row.mono | apply mat_Matrix_Turn.mono | apply mul_Gemm.mono | apply mul_Gemv.mono | apply mul_Ger.mono | apply soft_Calc_Add.mono | apply soft_Calc_Mul.mono | apply vec_Dot.mono | exact LeO.refl _ | exact LeO.none _ | refine LeO.ite ?_ ?_ | refine LeO.bind ?_ (fun _ => ?_)
def gimballaw11_MulSteps.T26 : Bool × List (List Nat × List Nat) := (true, [([], []), ([], []), ([], []), ([1, 2], [1, 2]), ([], []), ([], []), ([4, 5, 3], [4, 5]), ([0, 3, 6, 6], [0, 3, 6]), ([7], [7]), ([8], [8]), ([8], [8]), ([9, 7, 0, 1, 2, 3, 4, 5, 6, 7, 8, 9], [9]), ([10, 11, 0, 1, 2, 3, 4, 5, 6, 7, 8, 9, 10, 11], [10])])
def gimballaw11_MulSteps.B26 : List Nat := [0, 0, 0, 6, 0, 0, 62, 127, 255, 511, 511, 1023, 4095]
theorem gimballaw11_MulSteps.tab26 : rtab .any (opsOf Try.f4 26) = gimballaw11_MulSteps.T26 := by kernel_rfl
theorem gimballaw11_MulSteps.bits26 : waitsOk gimballaw11_MulSteps.T26.2 gimballaw11_MulSteps.B26 = true := by kernel_rfl
def gimballaw11_MulSteps.T42 : Bool × List (List Nat × List Nat) := (true, [([], []), ([], []), ([], []), ([0, 1, 2], [0, 1, 2]), ([], []), ([], []), ([], []), ([], []), ([5, 6, 7, 3], [5, 6, 7]), ([], []), ([], []), ([], []), ([], []), ([11, 12], [11, 12]), ([13], [13]), ([9, 10, 14, 8], [9, 10, 14]), ([4, 8, 15, 15], [4, 8, 15]), ([3, 16], [3, 16])])
def gimballaw11_MulSteps.B42 : List Nat := [0, 0, 0, 7, 0, 0, 0, 0, 239, 0, 0, 0, 0, 6144, 14336, 32751, 65535, 131071]
theorem gimballaw11_MulSteps.tab42 : rtab .any (opsOf Try.f4 42) = gimballaw11_MulSteps.T42 := by kernel_rfl
theorem gimballaw11_MulSteps.bits42 : waitsOk gimballaw11_MulSteps.T42.2 gimballaw11_MulSteps.B42 = true := by kernel_rfl
def gimballaw11_MulSteps.T44 : Bool × List (List Nat × List Nat) := (true, [([], []), ([0], [0]), ([1], [1]), ([2], [2]), ([], []), ([4], [4]), ([5], [5]), ([6], [6]), ([3, 7], [3, 7])])
def gimballaw11_MulSteps.B44 : List Nat := [0, 1, 3, 7, 0, 16, 48, 112, 255]
theorem gimballaw11_MulSteps.tab44 : rtab .any (opsOf Try.f4 44) = gimballaw11_MulSteps.T44 := by kernel_rfl
theorem gimballaw11_MulSteps.bits44 : waitsOk gimballaw11_MulSteps.T44.2 gimballaw11_MulSteps.B44 = true := by kernel_rfl
def gimballaw11_MulSteps.T46 : Bool × List (List Nat × List Nat) := (true, [([], []), ([], []), ([], []), ([2], [2]), ([], []), ([], []), ([3, 4, 5], [3, 4, 5]), ([0, 1, 6, 6], [0, 1, 6]), ([7], [7]), ([8], [8]), ([8], [8]), ([10, 7, 0, 1, 2, 3, 4, 5, 6, 7, 8, 9, 10], [10])])
def gimballaw11_MulSteps.B46 : List Nat := [0, 0, 0, 4, 0, 0, 60, 127, 255, 511, 511, 2047]
theorem gimballaw11_MulSteps.tab46 : rtab .any (opsOf Try.f4 46) = gimballaw11_MulSteps.T46 := by kernel_rfl
theorem gimballaw11_MulSteps.bits46 : waitsOk gimballaw11_MulSteps.T46.2 gimballaw11_MulSteps.B46 = true := by kernel_rfl
def gimballaw11_MulSteps.T47 : Bool × List (List Nat × List Nat) := (true, [([], []), ([], []), ([], []), ([], []), ([2, 3], [2, 3]), ([], []), ([4, 5, 4], [4, 5]), ([0, 1, 6, 6], [0, 1, 6]), ([7], [7]), ([8], [8]), ([8], [8]), ([10, 7, 0, 1, 2, 3, 4, 5, 6, 7, 8, 9, 10], [10])])
def gimballaw11_MulSteps.B47 : List Nat := [0, 0, 0, 0, 12, 0, 60, 127, 255, 511, 511, 2047]
theorem gimballaw11_MulSteps.tab47 : rtab .any (opsOf Try.f4 47) = gimballaw11_MulSteps.T47 := by kernel_rfl
theorem gimballaw11_MulSteps.bits47 : waitsOk gimballaw11_MulSteps.T47.2 gimballaw11_MulSteps.B47 = true := by kernel_rfl
def gimballaw11_MulSteps.T48 : Bool × List (List Nat × List Nat) := (true, [([], []), ([], []), ([], []), ([], []), ([], []), ([], []), ([4, 5], [4, 5]), ([], []), ([6, 7, 6], [6, 7]), ([0, 1, 2, 3, 8, 8], [0, 1, 2, 3, 8]), ([9], [9]), ([10], [10]), ([10], [10]), ([12, 9, 0, 1, 2, 3, 4, 5, 6, 7, 8, 9, 10, 11, 12], [12])])
def gimballaw11_MulSteps.B48 : List Nat := [0, 0, 0, 0, 0, 0, 48, 0, 240, 511, 1023, 2047, 2047, 8191]
theorem gimballaw11_MulSteps.tab48 : rtab .any (opsOf Try.f4 48) = gimballaw11_MulSteps.T48 := by kernel_rfl
theorem gimballaw11_MulSteps.bits48 : waitsOk gimballaw11_MulSteps.T48.2 gimballaw11_MulSteps.B48 = true := by kernel_rfl
def gimballaw11_MulSteps.T51 : Bool × List (List Nat × List Nat) := (true, [([], []), ([0], [0]), ([1], [1]), ([2], [2]), ([3, 2], [2, 3]), ([2, 4], [2, 4]), ([5, 2], [5]), ([6], [6]), ([7, 6], [6, 7]), ([6, 8], [6, 8]), ([9, 6], [9]), ([10], [10]), ([11, 10], [10, 11]), ([10, 12], [10, 12]), ([13, 10], [13]), ([14], [14]), ([15, 14], [14, 15]), ([16, 14], [14, 16]), ([17, 14], [14, 17]), ([14], [14]), ([19, 14], [14, 19]), ([20, 14], [14, 20]), ([21, 14], [14, 21]), ([18, 22, 14], [14, 18, 22]), ([14, 23], [14, 23]), ([24, 14, 0, 1, 2, 3, 4, 5, 6, 7, 8, 9, 10, 11, 12, 13, 14, 15, 16, 17, 18, 19, 20, 21, 22, 23, 24], [24])])
def gimballaw11_MulSteps.B51 : List Nat := [0, 1, 3, 7, 15, 31, 63, 127, 255, 511, 1023, 2047, 4095, 8191, 16383, 32767, 65535, 131071, 262143, 32767, 557055, 1605631, 3702783, 8388607, 16777215, 33554431]
theorem gimballaw11_MulSteps.tab51 : rtab .any (opsOf Try.f4 51) = gimballaw11_MulSteps.T51 := by kernel_rfl
theorem gimballaw11_MulSteps.bits51 : waitsOk gimballaw11_MulSteps.T51.2 gimballaw11_MulSteps.B51 = true := by kernel_rfl
set_option maxHeartbeats 8000000 in
set_option maxRecDepth 100000 in
theorem gimballaw11_MulSteps.calls (k : Nat) (a0 : Int) (a1 : Int) (a2 : Int) (A3 : Option Addr) (c3 : Nat) (l3 : List Int) (a4 : Int) (a5 : Int) (r : Bool) (w : World) (hr3 : Kd.C (Kd.int .u64) w A3 l3.length l3) (hc3 : l3.length ≤ c3) (hLW : r = true) (h : gimballaw11_MulSteps.f k a0 a1 a2 l3 a4 a5 = some r) :
  Calls Try.prog 4 #[.int .i64 a0, .int .i64 a1, .int .i64 a2, .slice A3 l3.length c3, .int .u64 a4, .int .i64 a5] w fun e w' => e = .returned (.bool r) ∧ Below w.heap.size w w' := by
 have hu25 := Try.underlying25
 have hu40 := Try.underlying40
 have HR3 := Aside0.mk hr3
 have HC3 := Aside0.mk hc3
 clear hr3 hc3
 have HB := Aside0.mk (Below.refl w.heap.size w)
 have H : ((gimballaw11_head.f k).bind fun t564 => (if t564 = true then (if (l3.length : Int) > 100 then (some true) else ((gimballaw11_made.f k (Go.bits .and .i64 a0 7) (Go.bits .and .i64 a1 7) l3 0).bind fun bt565 => ((gimballaw11_made.f k (Go.bits .and .i64 a1 7) (Go.bits .and .i64 a2 7) l3 3).bind fun bt572 => ((gimballaw11_made.f k 1 (Go.bits .and .i64 a1 7) l3 5).bind fun bt579 => ((gimballaw11_row.f k bt579.1 bt579.2.1 bt579.2.2.1 bt579.2.2.2 0).bind fun t585 => ((gimballaw11_made.f k 1 (Go.bits .and .i64 a0 7) l3 1).bind fun bt588 => ((gimballaw11_row.f k bt588.1 bt588.2.1 bt588.2.2.1 bt588.2.2.2 0).bind fun t594 => ((mul_Gemm.f k 0 bt565.1 bt565.2.1 bt565.2.2.1 bt565.2.2.2 bt572.1 bt572.2.1 bt572.2.2.1 bt572.2.2.2).bind fun bt599 => ((mul_Gemv.f k bt599.2.2.2.2.2 bt565.1 bt565.2.1 bt565.2.2.1 bt565.2.2.2 t585).bind fun bt608 => ((mul_Ger.f k bt608.2.2 bt565.1 bt565.2.1 bt565.2.2.1 bt565.2.2.2 a4 t594 t585).bind fun bt613 => (if bt599.2.2.2.2.1 = 0 then (if bt608.2.1 = 0 then (if bt613.2.2.2.2.1 = 0 then (if bt599.1 = (Go.bits .and .i64 a0 7) then (if bt599.2.1 = (Go.bits .and .i64 a2 7) then (if (bt608.1.length : Int) = (Go.bits .and .i64 a0 7) then (if bt613.1 = (Go.bits .and .i64 a0 7) then (gimballaw11_MulSteps.j0 k (Go.bits .and .i64 a0 7) (Go.bits .and .i64 a1 7) (Go.bits .and .i64 a2 7) l3 a4 a5 t585 t594 bt608.1 (bt613.2.1 != (Go.bits .and .i64 a1 7)) bt565.1 bt565.2.1 bt565.2.2.1 bt565.2.2.2 bt572.1 bt572.2.1 bt572.2.2.1 bt572.2.2.2 bt613.2.2.2.2.2 0 bt599.1 bt599.2.1 bt599.2.2.1 bt599.2.2.2.1 bt613.1 bt613.2.1 bt613.2.2.1 bt613.2.2.2.1) else (gimballaw11_MulSteps.j0 k (Go.bits .and .i64 a0 7) (Go.bits .and .i64 a1 7) (Go.bits .and .i64 a2 7) l3 a4 a5 t585 t594 bt608.1 true bt565.1 bt565.2.1 bt565.2.2.1 bt565.2.2.2 bt572.1 bt572.2.1 bt572.2.2.1 bt572.2.2.2 bt613.2.2.2.2.2 0 bt599.1 bt599.2.1 bt599.2.2.1 bt599.2.2.2.1 bt613.1 bt613.2.1 bt613.2.2.1 bt613.2.2.2.1)) else (gimballaw11_MulSteps.j0 k (Go.bits .and .i64 a0 7) (Go.bits .and .i64 a1 7) (Go.bits .and .i64 a2 7) l3 a4 a5 t585 t594 bt608.1 true bt565.1 bt565.2.1 bt565.2.2.1 bt565.2.2.2 bt572.1 bt572.2.1 bt572.2.2.1 bt572.2.2.2 bt613.2.2.2.2.2 0 bt599.1 bt599.2.1 bt599.2.2.1 bt599.2.2.2.1 bt613.1 bt613.2.1 bt613.2.2.1 bt613.2.2.2.1)) else (gimballaw11_MulSteps.j0 k (Go.bits .and .i64 a0 7) (Go.bits .and .i64 a1 7) (Go.bits .and .i64 a2 7) l3 a4 a5 t585 t594 bt608.1 true bt565.1 bt565.2.1 bt565.2.2.1 bt565.2.2.2 bt572.1 bt572.2.1 bt572.2.2.1 bt572.2.2.2 bt613.2.2.2.2.2 0 bt599.1 bt599.2.1 bt599.2.2.1 bt599.2.2.2.1 bt613.1 bt613.2.1 bt613.2.2.1 bt613.2.2.2.1)) else (gimballaw11_MulSteps.j0 k (Go.bits .and .i64 a0 7) (Go.bits .and .i64 a1 7) (Go.bits .and .i64 a2 7) l3 a4 a5 t585 t594 bt608.1 true bt565.1 bt565.2.1 bt565.2.2.1 bt565.2.2.2 bt572.1 bt572.2.1 bt572.2.2.1 bt572.2.2.2 bt613.2.2.2.2.2 0 bt599.1 bt599.2.1 bt599.2.2.1 bt599.2.2.2.1 bt613.1 bt613.2.1 bt613.2.2.1 bt613.2.2.2.1)) else (gimballaw11_MulSteps.j0 k (Go.bits .and .i64 a0 7) (Go.bits .and .i64 a1 7) (Go.bits .and .i64 a2 7) l3 a4 a5 t585 t594 bt608.1 true bt565.1 bt565.2.1 bt565.2.2.1 bt565.2.2.2 bt572.1 bt572.2.1 bt572.2.2.1 bt572.2.2.2 bt613.2.2.2.2.2 0 bt599.1 bt599.2.1 bt599.2.2.1 bt599.2.2.2.1 bt613.1 bt613.2.1 bt613.2.2.1 bt613.2.2.2.1)) else (gimballaw11_MulSteps.j0 k (Go.bits .and .i64 a0 7) (Go.bits .and .i64 a1 7) (Go.bits .and .i64 a2 7) l3 a4 a5 t585 t594 bt608.1 true bt565.1 bt565.2.1 bt565.2.2.1 bt565.2.2.2 bt572.1 bt572.2.1 bt572.2.2.1 bt572.2.2.2 bt613.2.2.2.2.2 0 bt599.1 bt599.2.1 bt599.2.2.1 bt599.2.2.2.1 bt613.1 bt613.2.1 bt613.2.2.1 bt613.2.2.2.1)) else (gimballaw11_MulSteps.j0 k (Go.bits .and .i64 a0 7) (Go.bits .and .i64 a1 7) (Go.bits .and .i64 a2 7) l3 a4 a5 t585 t594 bt608.1 true bt565.1 bt565.2.1 bt565.2.2.1 bt565.2.2.2 bt572.1 bt572.2.1 bt572.2.2.1 bt572.2.2.2 bt613.2.2.2.2.2 0 bt599.1 bt599.2.1 bt599.2.2.1 bt599.2.2.2.1 bt613.1 bt613.2.1 bt613.2.2.1 bt613.2.2.2.1)))))))))))) else (some false))) = some r := h
 clear h
 obtain ⟨t564, A70, H⟩ := Option.bind_eq_some_iff.mp H
 (try dsimp -simprocs only at H)
 have A7 := Aside0.mk A70
 clear A70
 by_cases c8 : t564 = true
 rotate_left
 ·
  replace c8 := Bool.eq_false_iff.mpr c8
  subst c8
  rw [if_neg (show ¬ (false = true) by decide)] at H
  rw [hLW] at H
  exact absurd H (by simp)

 subst c8
 rw [if_pos rfl] at H
 by_cases c9 : (l3.length : Int) > 100
 ·
  rw [if_pos c9] at H
  have c9b0 : decide (100 < (l3.length : Int)) = true := decide_eq_true c9
  have c9b1 : decide (100 < l3.length) = true := decide_eq_true (by omega)
  clear c9
  obtain rfl := Option.some.inj H
  go_enter Try.func4, Try.ntmps4
  go_wp2_with (first | ((with_reducible refine gate_callee (f := 5) rfl ?_); refine goesL_ (some 38) rfl rfl Try.func5 (by kernel_rfl) rfl #[] rfl ga ?_; (with_reducible refine (gimballaw11_head.calls k  true _ A7.out).mono ?_); rintro e w10 ⟨rfl, hb⟩; refine ⟨_, rfl, ?_⟩; refine ax1 (below_step bel hb) ?_; clear HB; intro HB; (try clear hb)))
  go_ret
  exact ⟨er, bel⟩
 ·
  rw [if_neg c9] at H
  have c9b0 : decide (100 < (l3.length : Int)) = false := decide_eq_false c9
  have c9b1 : decide (100 < l3.length) = false := decide_eq_false (by omega)
  clear c9
  obtain ⟨⟨t565, t566, t567, t568⟩, A110, H⟩ := Option.bind_eq_some_iff.mp H
  (try dsimp -simprocs only at H)
  have A11 := Aside0.mk A110
  clear A110
  obtain ⟨⟨t572, t573, t574, t575⟩, A120, H⟩ := Option.bind_eq_some_iff.mp H
  (try dsimp -simprocs only at H)
  have A12 := Aside0.mk A120
  clear A120
  obtain ⟨⟨t579, t580, t581, t582⟩, A130, H⟩ := Option.bind_eq_some_iff.mp H
  (try dsimp -simprocs only at H)
  have A13 := Aside0.mk A130
  clear A130
  obtain ⟨t585, A140, H⟩ := Option.bind_eq_some_iff.mp H
  (try dsimp -simprocs only at H)
  have A14 := Aside0.mk A140
  clear A140
  obtain ⟨⟨t588, t589, t590, t591⟩, A150, H⟩ := Option.bind_eq_some_iff.mp H
  (try dsimp -simprocs only at H)
  have A15 := Aside0.mk A150
  clear A150
  obtain ⟨t594, A160, H⟩ := Option.bind_eq_some_iff.mp H
  (try dsimp -simprocs only at H)
  have A16 := Aside0.mk A160
  clear A160
  obtain ⟨⟨t599, t600, t601, t602, t605, t606⟩, A170, H⟩ := Option.bind_eq_some_iff.mp H
  (try dsimp -simprocs only at H)
  have A17 := Aside0.mk A170
  clear A170
  obtain ⟨⟨t608, t611, t612⟩, A180, H⟩ := Option.bind_eq_some_iff.mp H
  (try dsimp -simprocs only at H)
  have A18 := Aside0.mk A180
  clear A180
  obtain ⟨⟨t613, t614, t615, t616, t619, t620⟩, A190, H⟩ := Option.bind_eq_some_iff.mp H
  (try dsimp -simprocs only at H)
  have A19 := Aside0.mk A190
  clear A190
  have HC20 := Aside0.mk H
  clear H
  go_enter Try.func4, Try.ntmps4
  go_upto_region 17 with (first | ((with_reducible refine gate_callee (f := 5) rfl ?_); refine goesL_ (some 38) rfl rfl Try.func5 (by kernel_rfl) rfl #[] rfl ga ?_; (with_reducible refine (gimballaw11_head.calls k  true _ A7.out).mono ?_); rintro e w21 ⟨rfl, hb⟩; refine ⟨_, rfl, ?_⟩; refine ax1 (below_step bel hb) ?_; clear HB; intro HB; (try clear hb)) | ((with_reducible refine gate_callee (f := 6) rfl ?_); refine goesL_ (some 52) rfl rfl Try.func6 (by kernel_rfl) rfl #[.int .i64 (Go.bits .and .i64 a0 7), .int .i64 (Go.bits .and .i64 a1 7), .slice A3 l3.length c3, .int .i64 0] rfl ga ?_; (with_reducible refine (gimballaw11_made.calls k (Go.bits .and .i64 a0 7) (Go.bits .and .i64 a1 7) _ _ l3 0 t565 t566 t567 t568 _ ?side1 ?side2 A11.out).mono ?_); (case side1 => repeat (first | exact (Kd.C_below HR3.out HB.out) | (with_reducible refine Kd.C_alloc ?_ _) | (with_reducible refine Kd.C_drewN ?_ _) | (with_reducible refine Kd.C_drew ?_))); (case side2 => exact HC3.out); rintro e w22 ⟨v569, rfl, ho0, hb⟩; refine ⟨_, rfl, ?_⟩; refine ax2 (Kd.R_lower ho0 (below_size bel)) (below_step bel hb) ?_; clear HB; intro HO570 HB; (try clear hb); (try clear ho0)) | ((with_reducible refine gate_dst (N := 13) rfl ?_); refine gbox (N := 13) (cs := #[.int .i64 0, .int .i64 0, .int .i64 0, .slice none 0 0]) (t := 25) ?_; intro gb571 hg w23 hbox hb; refine ax5 (Kd.R_below (kr HO570) hb) (below_step bel hb) hbox ((ge hg : w.heap.size ≤ gb571)) ((ge hg : w.heap.size ≤ gb571)) ?_; clear HO570; clear HB; intro HO570 HB BK571 GW571 GE571; clear hb hbox hg; have hcz24_0 := bc BK571 0 rfl; have hcz24_1 := bc BK571 1 rfl; have hcz24_2 := bc BK571 2 rfl; have hcz24_3 := bc BK571 3 rfl; have hfz24_0 := blk_frozen BK571.out 0; have hfz24_1 := blk_frozen BK571.out 1; have hfz24_2 := blk_frozen BK571.out 2; have hfz24_3 := blk_frozen BK571.out 3; obtain ⟨Ao25, co25, eo25⟩ := Kd.R_slice HO570.out; subst eo25) | ((with_reducible refine gate_callee (f := 6) rfl ?_); refine goesL_ (some 56) rfl rfl Try.func6 (by kernel_rfl) rfl #[.int .i64 (Go.bits .and .i64 a1 7), .int .i64 (Go.bits .and .i64 a2 7), .slice A3 l3.length c3, .int .i64 3] rfl ga ?_; (with_reducible refine (gimballaw11_made.calls k (Go.bits .and .i64 a1 7) (Go.bits .and .i64 a2 7) _ _ l3 3 t572 t573 t574 t575 _ ?side1 ?side2 A12.out).mono ?_); (case side1 => exact Kd.C_below HR3.out bes); (case side2 => exact HC3.out); rintro e w26 ⟨v576, rfl, ho0, hb⟩; refine ⟨_, rfl, ?_⟩; refine ax4 (Kd.R_elder' (by (with_reducible repeat (first | apply Kd.R_alloc | apply Kd.R_drewN | apply Kd.R_drew)); exact (Kd.R_mono (Kd.R_far (p := ⟨gb571, 3, none⟩) (Kd.R_far (p := ⟨gb571, 2, none⟩) (Kd.R_far (p := ⟨gb571, 1, none⟩) (Kd.R_far (p := ⟨gb571, 0, none⟩) (Kd.R_types HO570.out BK571.out (by decide)) (fun _ hk => hk.2) (.int .i64 t565)) (fun _ hk => hk.2) (.int .i64 t566)) (fun _ hk => hk.2) (.int .i64 t567)) (fun _ hk => hk.2) (.slice Ao25 t568.length co25)) (fun _ h_ => h_.1))) (Kd.R_base ho0) hb) (Kd.R_lower (Kd.R_new' ho0 (Kd.R_lt (by (with_reducible repeat (first | apply Kd.R_alloc | apply Kd.R_drewN | apply Kd.R_drew)); exact (Kd.R_mono (Kd.R_far (p := ⟨gb571, 3, none⟩) (Kd.R_far (p := ⟨gb571, 2, none⟩) (Kd.R_far (p := ⟨gb571, 1, none⟩) (Kd.R_far (p := ⟨gb571, 0, none⟩) (Kd.R_types HO570.out BK571.out (by decide)) (fun _ hk => hk.2) (.int .i64 t565)) (fun _ hk => hk.2) (.int .i64 t566)) (fun _ hk => hk.2) (.int .i64 t567)) (fun _ hk => hk.2) (.slice Ao25 t568.length co25)) (fun _ h_ => h_.1))))) (below_size bes)) (blk_below (g := gb571) (o := .cells #[.int .i64 t565, .int .i64 t566, .int .i64 t567, .slice Ao25 t568.length co25] 25 (0, 0)) (bp BK571) hb) (below_step bes hb) ?_; clear HO570; clear BK571; clear HB; intro HO570 HO577 BK571 HB; (try clear hb); (try clear ho0)) | ((with_reducible refine gate_dst (N := 14) rfl ?_); refine gbox (N := 14) (cs := #[.int .i64 0, .int .i64 0, .int .i64 0, .slice none 0 0]) (t := 25) ?_; intro gb578 hg w27 hbox hb; refine ax9 (Kd.R_below (kr HO570) hb) (Kd.R_below (kr HO577) hb) (bb BK571 hb) (below_step bes hb) hbox ((ge hg : w.heap.size ≤ gb578)) ((ge hg : w.heap.size ≤ gb578)) (nl hg BK571) (ng hg BK571) ?_; clear HO570; clear HO577; clear BK571; clear HB; intro HO570 HO577 BK571 HB BK578 GW578 GE578 NB571_578 NB578_571; clear hb hbox hg; have hnb28 := NB578_571.out; have hnc28 := NB571_578.out; have hcz29_0 := bc BK578 0 rfl; have hcz29_1 := bc BK578 1 rfl; have hcz29_2 := bc BK578 2 rfl; have hcz29_3 := bc BK578 3 rfl; have hfz29_0 := blk_frozen BK578.out 0; have hfz29_1 := blk_frozen BK578.out 1; have hfz29_2 := blk_frozen BK578.out 2; have hfz29_3 := blk_frozen BK578.out 3; obtain ⟨Ao30, co30, eo30⟩ := Kd.R_slice HO577.out; subst eo30) | ((with_reducible refine gate_callee (f := 6) rfl ?_); refine goesL_ (some 59) rfl rfl Try.func6 (by kernel_rfl) rfl #[.int .i64 1, .int .i64 (Go.bits .and .i64 a1 7), .slice A3 l3.length c3, .int .i64 5] rfl ga ?_; (with_reducible refine (gimballaw11_made.calls k 1 (Go.bits .and .i64 a1 7) _ _ l3 5 t579 t580 t581 t582 _ ?side1 ?side2 A13.out).mono ?_); (case side1 => exact Kd.C_below HR3.out bes); (case side2 => exact HC3.out); rintro e w31 ⟨v583, rfl, ho0, hb⟩; refine ⟨_, rfl, ?_⟩; refine ax6 (Kd.R_elder' (by (with_reducible repeat (first | apply Kd.R_alloc | apply Kd.R_drewN | apply Kd.R_drew)); exact (Kd.R_mono (Kd.R_far (p := ⟨gb578, 3, none⟩) (Kd.R_far (p := ⟨gb578, 2, none⟩) (Kd.R_far (p := ⟨gb578, 1, none⟩) (Kd.R_far (p := ⟨gb578, 0, none⟩) (Kd.R_types HO570.out BK578.out (by decide)) (fun _ hk => hk.2) (.int .i64 t572)) (fun _ hk => hk.2) (.int .i64 t573)) (fun _ hk => hk.2) (.int .i64 t574)) (fun _ hk => hk.2) (.slice Ao30 t575.length co30)) (fun _ h_ => h_.1))) (Kd.R_base ho0) hb) (Kd.R_elder' (by (with_reducible repeat (first | apply Kd.R_alloc | apply Kd.R_drewN | apply Kd.R_drew)); exact (Kd.R_mono (Kd.R_far (p := ⟨gb578, 3, none⟩) (Kd.R_far (p := ⟨gb578, 2, none⟩) (Kd.R_far (p := ⟨gb578, 1, none⟩) (Kd.R_far (p := ⟨gb578, 0, none⟩) (Kd.R_types HO577.out BK578.out (by decide)) (fun _ hk => hk.2) (.int .i64 t572)) (fun _ hk => hk.2) (.int .i64 t573)) (fun _ hk => hk.2) (.int .i64 t574)) (fun _ hk => hk.2) (.slice Ao30 t575.length co30)) (fun _ h_ => h_.1))) (Kd.R_base ho0) hb) (Kd.R_lower (Kd.R_new' (Kd.R_new' ho0 (Kd.R_lt (by (with_reducible repeat (first | apply Kd.R_alloc | apply Kd.R_drewN | apply Kd.R_drew)); exact (Kd.R_mono (Kd.R_far (p := ⟨gb578, 3, none⟩) (Kd.R_far (p := ⟨gb578, 2, none⟩) (Kd.R_far (p := ⟨gb578, 1, none⟩) (Kd.R_far (p := ⟨gb578, 0, none⟩) (Kd.R_types HO570.out BK578.out (by decide)) (fun _ hk => hk.2) (.int .i64 t572)) (fun _ hk => hk.2) (.int .i64 t573)) (fun _ hk => hk.2) (.int .i64 t574)) (fun _ hk => hk.2) (.slice Ao30 t575.length co30)) (fun _ h_ => h_.1))))) (Kd.R_lt (by (with_reducible repeat (first | apply Kd.R_alloc | apply Kd.R_drewN | apply Kd.R_drew)); exact (Kd.R_mono (Kd.R_far (p := ⟨gb578, 3, none⟩) (Kd.R_far (p := ⟨gb578, 2, none⟩) (Kd.R_far (p := ⟨gb578, 1, none⟩) (Kd.R_far (p := ⟨gb578, 0, none⟩) (Kd.R_types HO577.out BK578.out (by decide)) (fun _ hk => hk.2) (.int .i64 t572)) (fun _ hk => hk.2) (.int .i64 t573)) (fun _ hk => hk.2) (.int .i64 t574)) (fun _ hk => hk.2) (.slice Ao30 t575.length co30)) (fun _ h_ => h_.1))))) (below_size bes)) (blk_below (g := gb571) (o := .cells #[.int .i64 t565, .int .i64 t566, .int .i64 t567, .slice Ao25 t568.length co25] 25 (0, 0)) (bf BK571 NB571_578) hb) (blk_below (g := gb578) (o := .cells #[.int .i64 t572, .int .i64 t573, .int .i64 t574, .slice Ao30 t575.length co30] 25 (0, 0)) (bp BK578) hb) (below_step bes hb) ?_; clear HO570; clear HO577; clear BK571; clear BK578; clear HB; intro HO570 HO577 HO584 BK571 BK578 HB; (try clear hb); (try clear ho0); obtain ⟨Ao32, co32, eo32⟩ := Kd.R_slice HO584.out; subst eo32) | ((with_reducible refine gate_callee (f := 13) rfl ?_); refine goesL_ (some 60) rfl rfl Try.func13 (by kernel_rfl) rfl #[.agg #[.int .i64 t579, .int .i64 t580, .int .i64 t581, .slice Ao32 t582.length co32], .int .i64 0] rfl ga ?_; (with_reducible refine (gimballaw11_row.calls k t579 t580 t581 _ _ t582 0 t585 _ ?side1 ?side2 A14.out).mono ?_); (case side1 => exact ks HO584); (case side2 => exact (Kd.R_reads' HO584.out).2.1); rintro e w33 ⟨v586, rfl, ho0, hb⟩; refine ⟨_, rfl, ?_⟩; refine ax7 (Kd.R_elder' (kr HO570) (Kd.R_base ho0) hb) (Kd.R_elder' (kr HO577) (Kd.R_base ho0) hb) (Kd.R_elder' (kr HO584) (Kd.R_base ho0) hb) (Kd.R_lower (Kd.R_new' (Kd.R_new' (Kd.R_new' ho0 (Kd.R_lt (kr HO570))) (Kd.R_lt (kr HO577))) (Kd.R_lt (kr HO584))) (below_size bes)) (bb BK571 hb) (bb BK578 hb) (below_step bes hb) ?_; clear HO570; clear HO577; clear HO584; clear BK571; clear BK578; clear HB; intro HO570 HO577 HO584 HO587 BK571 BK578 HB; (try clear hb); (try clear ho0)) | ((with_reducible refine gate_callee (f := 6) rfl ?_); refine goesL_ (some 63) rfl rfl Try.func6 (by kernel_rfl) rfl #[.int .i64 1, .int .i64 (Go.bits .and .i64 a0 7), .slice A3 l3.length c3, .int .i64 1] rfl ga ?_; (with_reducible refine (gimballaw11_made.calls k 1 (Go.bits .and .i64 a0 7) _ _ l3 1 t588 t589 t590 t591 _ ?side1 ?side2 A15.out).mono ?_); (case side1 => repeat (first | exact (Kd.C_below HR3.out HB.out) | (with_reducible refine Kd.C_alloc ?_ _) | (with_reducible refine Kd.C_drewN ?_ _) | (with_reducible refine Kd.C_drew ?_))); (case side2 => exact HC3.out); rintro e w34 ⟨v592, rfl, ho0, hb⟩; refine ⟨_, rfl, ?_⟩; refine ax8 (Kd.R_elder' (kr HO570) (Kd.R_base ho0) hb) (Kd.R_elder' (kr HO577) (Kd.R_base ho0) hb) (Kd.R_elder' (kr HO584) (Kd.R_base ho0) hb) (Kd.R_elder' (kr HO587) (Kd.R_base ho0) hb) (Kd.R_lower (Kd.R_new' (Kd.R_new' (Kd.R_new' (Kd.R_new' ho0 (Kd.R_lt (kr HO570))) (Kd.R_lt (kr HO577))) (Kd.R_lt (kr HO584))) (Kd.R_lt (kr HO587))) (below_size bes)) (bb BK571 hb) (bb BK578 hb) (below_step bes hb) ?_; clear HO570; clear HO577; clear HO584; clear HO587; clear BK571; clear BK578; clear HB; intro HO570 HO577 HO584 HO587 HO593 BK571 BK578 HB; (try clear hb); (try clear ho0); obtain ⟨Ao35, co35, eo35⟩ := Kd.R_slice HO593.out; subst eo35) | ((with_reducible refine gate_callee (f := 13) rfl ?_); refine goesL_ (some 64) rfl rfl Try.func13 (by kernel_rfl) rfl #[.agg #[.int .i64 t588, .int .i64 t589, .int .i64 t590, .slice Ao35 t591.length co35], .int .i64 0] rfl ga ?_; (with_reducible refine (gimballaw11_row.calls k t588 t589 t590 _ _ t591 0 t594 _ ?side1 ?side2 A16.out).mono ?_); (case side1 => exact ks HO593); (case side2 => exact (Kd.R_reads' HO593.out).2.1); rintro e w36 ⟨v595, rfl, ho0, hb⟩; refine ⟨_, rfl, ?_⟩; refine ax9 (Kd.R_elder' (kr HO570) (Kd.R_base ho0) hb) (Kd.R_elder' (kr HO577) (Kd.R_base ho0) hb) (Kd.R_elder' (kr HO584) (Kd.R_base ho0) hb) (Kd.R_elder' (kr HO587) (Kd.R_base ho0) hb) (Kd.R_elder' (kr HO593) (Kd.R_base ho0) hb) (Kd.R_lower (Kd.R_new' (Kd.R_new' (Kd.R_new' (Kd.R_new' (Kd.R_new' ho0 (Kd.R_lt (kr HO570))) (Kd.R_lt (kr HO577))) (Kd.R_lt (kr HO584))) (Kd.R_lt (kr HO587))) (Kd.R_lt (kr HO593))) (below_size bes)) (bb BK571 hb) (bb BK578 hb) (below_step bes hb) ?_; clear HO570; clear HO577; clear HO584; clear HO587; clear HO593; clear BK571; clear BK578; clear HB; intro HO570 HO577 HO584 HO587 HO593 HO596 BK571 BK578 HB; (try clear hb); (try clear ho0)) | ((with_reducible refine gate_dst (N := 66) rfl ?_); refine gbox (N := 66) (cs := #[.int .u8 0]) (t := 40) ?_; intro gb597 hg w37 hbox hb; refine ax16 (Kd.R_below (kr HO570) hb) (Kd.R_below (kr HO577) hb) (Kd.R_below (kr HO584) hb) (Kd.R_below (kr HO587) hb) (Kd.R_below (kr HO593) hb) (Kd.R_below (kr HO596) hb) (bb BK571 hb) (bb BK578 hb) (below_step bes hb) ((ge hg : w.heap.size ≤ gb597)) ((ge hg : w.heap.size ≤ gb597)) (nl hg BK571) (ng hg BK571) (nl hg BK578) (ng hg BK578) ((show IsS40 w _ gb597 0 from ⟨hbox, (ge hg : w.heap.size ≤ gb597)⟩)) ?_; clear HO570; clear HO577; clear HO584; clear HO587; clear HO593; clear HO596; clear BK571; clear BK578; clear HB; intro HO570 HO577 HO584 HO587 HO593 HO596 BK571 BK578 HB GW597 GE597 NB571_597 NB597_571 NB578_597 NB597_578 HI597; clear hb hbox hg) | ((with_reducible refine gate_dst (N := 68) rfl ?_); refine gbox (N := 68) (cs := #[.int .u8 0]) (t := 40) ?_; intro gb598 hg w38 hbox hb; refine ax19 (Kd.R_below (kr HO570) hb) (Kd.R_below (kr HO577) hb) (Kd.R_below (kr HO584) hb) (Kd.R_below (kr HO587) hb) (Kd.R_below (kr HO593) hb) (Kd.R_below (kr HO596) hb) (bb BK571 hb) (bb BK578 hb) (IsS40.below (ss40 HI597) hb) (below_step sb40 hb) ((by rw [hg]; exact (below_size sb40) : w.heap.size ≤ gb598)) ((by rw [hg]; exact (below_size sb40) : w.heap.size ≤ gb598)) (nl hg BK571) (ng hg BK571) (nl hg BK578) (ng hg BK578) ((by rw [hg]; exact Nat.ne_of_lt (IsS40.lt (show IsS40 w _ gb597 0 from ss40 HI597)) : gb597 ≠ gb598)) ((by rw [hg]; exact Nat.ne_of_gt (IsS40.lt (show IsS40 w _ gb597 0 from ss40 HI597)) : gb598 ≠ gb597)) ((show IsS40 w _ gb598 0 from ⟨hbox, (by rw [hg]; exact (below_size sb40) : w.heap.size ≤ gb598)⟩)) ?_; clear HO570; clear HO577; clear HO584; clear HO587; clear HO593; clear HO596; clear BK571; clear BK578; clear HI597; clear HB; intro HO570 HO577 HO584 HO587 HO593 HO596 BK571 BK578 HI597 HB GW598 GE598 NB571_598 NB598_571 NB578_598 NB598_578 NB597_598 NB598_597 HI598; clear hb hbox hg; have hnb39 := NB571_597.out; have hnc39 := NB597_571.out; have hnb40 := NB571_598.out; have hnc40 := NB598_571.out; have hcz41_0 := bc BK571 0 rfl; have hcz41_1 := bc BK571 1 rfl; have hcz41_2 := bc BK571 2 rfl; have hcz41_3 := bc BK571 3 rfl; have hfz41_0 := blk_frozen BK571.out 0; have hfz41_1 := blk_frozen BK571.out 1; have hfz41_2 := blk_frozen BK571.out 2; have hfz41_3 := blk_frozen BK571.out 3; have hnb42 := NB578_597.out; have hnc42 := NB597_578.out; have hnb43 := NB578_598.out; have hnc43 := NB598_578.out; have hcz44_0 := bc BK578 0 rfl; have hcz44_1 := bc BK578 1 rfl; have hcz44_2 := bc BK578 2 rfl; have hcz44_3 := bc BK578 3 rfl; have hfz44_0 := blk_frozen BK578.out 0; have hfz44_1 := blk_frozen BK578.out 1; have hfz44_2 := blk_frozen BK578.out 2; have hfz44_3 := blk_frozen BK578.out 3) | ((with_reducible refine gate_callee (f := 8) rfl ?_); refine goesL_ (some 73) rfl rfl Try.func8 (by kernel_rfl) rfl #[.pointer (some ⟨gb597, 0, none⟩), .agg #[.int .i64 t565, .int .i64 t566, .int .i64 t567, .slice Ao25 t568.length co25], .agg #[.int .i64 t572, .int .i64 t573, .int .i64 t574, .slice Ao30 t575.length co30]] rfl ga ?_; (with_reducible refine (mul_Gemm.calls k gb597 0 t565 t566 t567 _ _ t568 t572 t573 t574 _ _ t575 t599 t600 t601 t602 t605 t606 w _ ?side1 ?side2 ?side3 ?side4 ?side5 ?side6 ?side7 ?side8 A17.out).mono ?_); (case side1 => repeat (first | (with_reducible first | exact HI597.out | apply IsS40.alloc | apply IsS40.drewN | apply IsS40.drew | apply IsS40.set_0 | refine IsS40.far ?_ NB597_571.out _ | refine IsS40.far ?_ NB597_578.out _ | refine IsS40.far ?_ NB597_598.out _) | exact HI597.out)); (case side2 => repeat (first | (with_reducible first | exact HB.out | apply below_alloc | apply pw_below_drewN | apply below_drew1 | refine below_set ?_ (IsS40.ge HI597.out) | refine below_set ?_ (IsS40.ge HI598.out) | refine below_set ?_ GE571.out | refine below_set ?_ GE578.out) | exact HB.out)); (case side3 => exact ks HO570); (case side4 => exact (Kd.R_reads' HO570.out).2.1); (case side5 => exact far_slice (IsS40.own_ne HI597.out HO570.out (by decide))); (case side6 => exact ks HO577); (case side7 => exact (Kd.R_reads' HO577.out).2.1); (case side8 => exact far_slice (IsS40.own_ne HI597.out HO577.out (by decide))); rintro e w45 ⟨v603, rfl, ho0, hi, hb, hk⟩; refine ⟨_, rfl, ?_⟩; refine ax12 (Kd.R_mono (Kd.R_told (Kd.R_oldK (IsS40.apart (show IsS40 w _ gb597 0 from ss40 HI597) (kr HO570) (by decide)) hk) (Kd.R_base ho0)) (fun _ h_ => h_.1)) (KeepBut.blk hk (g' := gb571) (o := .cells #[.int .i64 t565, .int .i64 t566, .int .i64 t567, .slice Ao25 t568.length co25] 25 (0, 0)) (kb BK571) NB571_597.out (by simp)) (Kd.R_mono (Kd.R_told (Kd.R_oldK (IsS40.apart (show IsS40 w _ gb597 0 from ss40 HI597) (kr HO577) (by decide)) hk) (Kd.R_base ho0)) (fun _ h_ => h_.1)) (KeepBut.blk hk (g' := gb578) (o := .cells #[.int .i64 t572, .int .i64 t573, .int .i64 t574, .slice Ao30 t575.length co30] 25 (0, 0)) (kb BK578) NB578_597.out (by simp)) (Kd.R_mono (Kd.R_told (Kd.R_oldK (IsS40.apart (show IsS40 w _ gb597 0 from ss40 HI597) (kr HO584) (by decide)) hk) (Kd.R_base ho0)) (fun _ h_ => h_.1)) (Kd.R_mono (Kd.R_told (Kd.R_oldK (IsS40.apart (show IsS40 w _ gb597 0 from ss40 HI597) (kr HO587) (by decide)) hk) (Kd.R_base ho0)) (fun _ h_ => h_.1)) (Kd.R_mono (Kd.R_told (Kd.R_oldK (IsS40.apart (show IsS40 w _ gb597 0 from ss40 HI597) (kr HO593) (by decide)) hk) (Kd.R_base ho0)) (fun _ h_ => h_.1)) (Kd.R_mono (Kd.R_told (Kd.R_oldK (IsS40.apart (show IsS40 w _ gb597 0 from ss40 HI597) (kr HO596) (by decide)) hk) (Kd.R_base ho0)) (fun _ h_ => h_.1)) ((show IsS40 w _ gb598 0 from ⟨KeepBut.blk hk (show IsS40 w _ gb598 0 from ss40 HI598).1 NB598_597.out (by simp), (show IsS40 w _ gb598 0 from ss40 HI598).2⟩)) (Kd.R_lower (Kd.R_new' (Kd.R_new' (Kd.R_new' (Kd.R_new' (Kd.R_new' (Kd.R_new' ho0 (Kd.R_lt (kr HO570))) (Kd.R_lt (kr HO577))) (Kd.R_lt (kr HO584))) (Kd.R_lt (kr HO587))) (Kd.R_lt (kr HO593))) (Kd.R_lt (kr HO596))) (below_size sb40)) hb hi ?_; clear HO570; clear BK571; clear HO577; clear BK578; clear HO584; clear HO587; clear HO593; clear HO596; clear HI598; clear HB; clear HI597; intro HO570 BK571 HO577 BK578 HO584 HO587 HO593 HO596 HI598 HO604 HB HI597; (try clear hb); (try clear ho0)) | ((with_reducible refine gate_dst (N := 19) rfl ?_); refine gbox (N := 19) (cs := #[.int .i64 0, .int .i64 0, .int .i64 0, .slice none 0 0]) (t := 25) ?_; intro gb607 hg w46 hbox hb; refine ax23 (Kd.R_below (kr HO570) hb) (Kd.R_below (kr HO577) hb) (Kd.R_below (kr HO584) hb) (Kd.R_below (kr HO587) hb) (Kd.R_below (kr HO593) hb) (Kd.R_below (kr HO596) hb) (Kd.R_below (kr HO604) hb) (bb BK571 hb) (bb BK578 hb) (IsS40.below (ss40 HI597) hb) (IsS40.below (ss40 HI598) hb) (below_step sb40 hb) hbox ((by rw [hg]; exact (below_size sb40) : w.heap.size ≤ gb607)) ((by rw [hg]; exact (below_size sb40) : w.heap.size ≤ gb607)) (nl hg BK571) (ng hg BK571) (nl hg BK578) (ng hg BK578) ((by rw [hg]; exact Nat.ne_of_lt (IsS40.lt (show IsS40 w _ gb597 t606 from ss40 HI597)) : gb597 ≠ gb607)) ((by rw [hg]; exact Nat.ne_of_gt (IsS40.lt (show IsS40 w _ gb597 t606 from ss40 HI597)) : gb607 ≠ gb597)) ((by rw [hg]; exact Nat.ne_of_lt (IsS40.lt (show IsS40 w _ gb598 0 from ss40 HI598)) : gb598 ≠ gb607)) ((by rw [hg]; exact Nat.ne_of_gt (IsS40.lt (show IsS40 w _ gb598 0 from ss40 HI598)) : gb607 ≠ gb598)) ?_; clear HO570; clear HO577; clear HO584; clear HO587; clear HO593; clear HO596; clear HO604; clear BK571; clear BK578; clear HI597; clear HI598; clear HB; intro HO570 HO577 HO584 HO587 HO593 HO596 HO604 BK571 BK578 HI597 HI598 HB BK607 GW607 GE607 NB571_607 NB607_571 NB578_607 NB607_578 NB597_607 NB607_597 NB598_607 NB607_598; clear hb hbox hg; have hnb47 := NB607_571.out; have hnc47 := NB571_607.out; have hnb48 := NB607_578.out; have hnc48 := NB578_607.out; have hnb49 := NB607_597.out; have hnc49 := NB597_607.out; have hnb50 := NB607_598.out; have hnc50 := NB598_607.out; have hcz51_0 := bc BK607 0 rfl; have hcz51_1 := bc BK607 1 rfl; have hcz51_2 := bc BK607 2 rfl; have hcz51_3 := bc BK607 3 rfl; have hfz51_0 := blk_frozen BK607.out 0; have hfz51_1 := blk_frozen BK607.out 1; have hfz51_2 := blk_frozen BK607.out 2; have hfz51_3 := blk_frozen BK607.out 3; obtain ⟨Ao52, co52, eo52⟩ := Kd.R_slice HO604.out; subst eo52; have hcz53_0 := bc BK571 0 rfl; have hcz53_1 := bc BK571 1 rfl; have hcz53_2 := bc BK571 2 rfl; have hcz53_3 := bc BK571 3 rfl; have hfz53_0 := blk_frozen BK571.out 0; have hfz53_1 := blk_frozen BK571.out 1; have hfz53_2 := blk_frozen BK571.out 2; have hfz53_3 := blk_frozen BK571.out 3; obtain ⟨Ao54, co54, eo54⟩ := Kd.R_slice HO587.out; subst eo54) | ((with_reducible refine gate_callee (f := 14) rfl ?_); refine goesL_ (some 80) rfl rfl Try.func14 (by kernel_rfl) rfl #[.pointer (some ⟨gb597, 0, none⟩), .agg #[.int .i64 t565, .int .i64 t566, .int .i64 t567, .slice Ao25 t568.length co25], .slice Ao54 t585.length co54] rfl ga ?_; (with_reducible refine (mul_Gemv.calls k gb597 t606 t565 t566 t567 _ _ t568 _ _ t585 t608 t611 t612 w _ ?side1 ?side2 ?side3 ?side4 ?side5 ?side6 ?side7 ?side8 A18.out).mono ?_); (case side1 => repeat (first | (with_reducible first | exact HI597.out | apply IsS40.alloc | apply IsS40.drewN | apply IsS40.drew | apply IsS40.set_0 | refine IsS40.far ?_ NB597_571.out _ | refine IsS40.far ?_ NB597_578.out _ | refine IsS40.far ?_ NB597_607.out _ | refine IsS40.far ?_ NB597_598.out _) | exact HI597.out)); (case side2 => repeat (first | (with_reducible first | exact HB.out | apply below_alloc | apply pw_below_drewN | apply below_drew1 | refine below_set ?_ (IsS40.ge HI597.out) | refine below_set ?_ (IsS40.ge HI598.out) | refine below_set ?_ GE571.out | refine below_set ?_ GE578.out | refine below_set ?_ GE607.out) | exact HB.out)); (case side3 => refine (Kd.R_reads' (e := 33) (base := w.heap.size) (ok := fun k_ => ((((((True ∧ some k_ ≠ (.slice Ao30 t575.length co30 : Value).ownBlock) ∧ some k_ ≠ (.slice Ao32 t582.length co32 : Value).ownBlock) ∧ some k_ ≠ (.slice Ao54 t585.length co54 : Value).ownBlock) ∧ some k_ ≠ (.slice Ao35 t591.length co35 : Value).ownBlock) ∧ some k_ ≠ (v595 : Value).ownBlock) ∧ some k_ ≠ (.slice Ao52 t602.length co52 : Value).ownBlock)) (n := t568.length) (c := co25) ?_).2.2; exact (by (with_reducible repeat (first | apply Kd.R_alloc | apply Kd.R_drewN | apply Kd.R_drew)); exact (Kd.R_mono (Kd.R_far (p := ⟨gb607, 3, none⟩) (Kd.R_far (p := ⟨gb607, 2, none⟩) (Kd.R_far (p := ⟨gb607, 1, none⟩) (Kd.R_far (p := ⟨gb607, 0, none⟩) (Kd.R_types HO570.out BK607.out (by decide)) (fun _ hk => hk.2) (.int .i64 t599)) (fun _ hk => hk.2) (.int .i64 t600)) (fun _ hk => hk.2) (.int .i64 t601)) (fun _ hk => hk.2) (.slice Ao52 t602.length co52)) (fun _ h_ => h_.1)))); (case side4 => exact (Kd.R_reads' HO570.out).2.1); (case side5 => exact far_slice (IsS40.own_ne HI597.out HO570.out (by decide))); (case side6 => refine (Kd.R_reads' (e := 33) (base := w.heap.size) (ok := fun k_ => ((((((True ∧ some k_ ≠ (.slice Ao25 t568.length co25 : Value).ownBlock) ∧ some k_ ≠ (.slice Ao30 t575.length co30 : Value).ownBlock) ∧ some k_ ≠ (.slice Ao32 t582.length co32 : Value).ownBlock) ∧ some k_ ≠ (.slice Ao35 t591.length co35 : Value).ownBlock) ∧ some k_ ≠ (v595 : Value).ownBlock) ∧ some k_ ≠ (.slice Ao52 t602.length co52 : Value).ownBlock)) (n := t585.length) (c := co54) ?_).2.2; exact (by (with_reducible repeat (first | apply Kd.R_alloc | apply Kd.R_drewN | apply Kd.R_drew)); exact (Kd.R_mono (Kd.R_far (p := ⟨gb607, 3, none⟩) (Kd.R_far (p := ⟨gb607, 2, none⟩) (Kd.R_far (p := ⟨gb607, 1, none⟩) (Kd.R_far (p := ⟨gb607, 0, none⟩) (Kd.R_types HO587.out BK607.out (by decide)) (fun _ hk => hk.2) (.int .i64 t599)) (fun _ hk => hk.2) (.int .i64 t600)) (fun _ hk => hk.2) (.int .i64 t601)) (fun _ hk => hk.2) (.slice Ao52 t602.length co52)) (fun _ h_ => h_.1)))); (case side7 => exact (Kd.R_reads' HO587.out).2.1); (case side8 => exact far_slice (IsS40.own_ne HI597.out HO587.out (by decide))); rintro e w55 ⟨v609, rfl, ho0, hi, hb, hk⟩; refine ⟨_, rfl, ?_⟩; refine ax14 (Kd.R_mono (Kd.R_told (Kd.R_oldK (IsS40.apart (show IsS40 w _ gb597 t606 from ss40 HI597) (by (with_reducible repeat (first | apply Kd.R_alloc | apply Kd.R_drewN | apply Kd.R_drew)); exact (Kd.R_mono (Kd.R_far (p := ⟨gb607, 3, none⟩) (Kd.R_far (p := ⟨gb607, 2, none⟩) (Kd.R_far (p := ⟨gb607, 1, none⟩) (Kd.R_far (p := ⟨gb607, 0, none⟩) (Kd.R_types HO570.out BK607.out (by decide)) (fun _ hk => hk.2) (.int .i64 t599)) (fun _ hk => hk.2) (.int .i64 t600)) (fun _ hk => hk.2) (.int .i64 t601)) (fun _ hk => hk.2) (.slice Ao52 t602.length co52)) (fun _ h_ => h_.1))) (by decide)) hk) (Kd.R_base ho0)) (fun _ h_ => h_.1)) (KeepBut.blk hk (g' := gb571) (o := .cells #[.int .i64 t565, .int .i64 t566, .int .i64 t567, .slice Ao25 t568.length co25] 25 (0, 0)) (bf BK571 NB571_607) NB571_597.out (by simp)) (Kd.R_mono (Kd.R_told (Kd.R_oldK (IsS40.apart (show IsS40 w _ gb597 t606 from ss40 HI597) (by (with_reducible repeat (first | apply Kd.R_alloc | apply Kd.R_drewN | apply Kd.R_drew)); exact (Kd.R_mono (Kd.R_far (p := ⟨gb607, 3, none⟩) (Kd.R_far (p := ⟨gb607, 2, none⟩) (Kd.R_far (p := ⟨gb607, 1, none⟩) (Kd.R_far (p := ⟨gb607, 0, none⟩) (Kd.R_types HO577.out BK607.out (by decide)) (fun _ hk => hk.2) (.int .i64 t599)) (fun _ hk => hk.2) (.int .i64 t600)) (fun _ hk => hk.2) (.int .i64 t601)) (fun _ hk => hk.2) (.slice Ao52 t602.length co52)) (fun _ h_ => h_.1))) (by decide)) hk) (Kd.R_base ho0)) (fun _ h_ => h_.1)) (KeepBut.blk hk (g' := gb578) (o := .cells #[.int .i64 t572, .int .i64 t573, .int .i64 t574, .slice Ao30 t575.length co30] 25 (0, 0)) (bf BK578 NB578_607) NB578_597.out (by simp)) (Kd.R_mono (Kd.R_told (Kd.R_oldK (IsS40.apart (show IsS40 w _ gb597 t606 from ss40 HI597) (by (with_reducible repeat (first | apply Kd.R_alloc | apply Kd.R_drewN | apply Kd.R_drew)); exact (Kd.R_mono (Kd.R_far (p := ⟨gb607, 3, none⟩) (Kd.R_far (p := ⟨gb607, 2, none⟩) (Kd.R_far (p := ⟨gb607, 1, none⟩) (Kd.R_far (p := ⟨gb607, 0, none⟩) (Kd.R_types HO584.out BK607.out (by decide)) (fun _ hk => hk.2) (.int .i64 t599)) (fun _ hk => hk.2) (.int .i64 t600)) (fun _ hk => hk.2) (.int .i64 t601)) (fun _ hk => hk.2) (.slice Ao52 t602.length co52)) (fun _ h_ => h_.1))) (by decide)) hk) (Kd.R_base ho0)) (fun _ h_ => h_.1)) (Kd.R_mono (Kd.R_told (Kd.R_oldK (IsS40.apart (show IsS40 w _ gb597 t606 from ss40 HI597) (by (with_reducible repeat (first | apply Kd.R_alloc | apply Kd.R_drewN | apply Kd.R_drew)); exact (Kd.R_mono (Kd.R_far (p := ⟨gb607, 3, none⟩) (Kd.R_far (p := ⟨gb607, 2, none⟩) (Kd.R_far (p := ⟨gb607, 1, none⟩) (Kd.R_far (p := ⟨gb607, 0, none⟩) (Kd.R_types HO587.out BK607.out (by decide)) (fun _ hk => hk.2) (.int .i64 t599)) (fun _ hk => hk.2) (.int .i64 t600)) (fun _ hk => hk.2) (.int .i64 t601)) (fun _ hk => hk.2) (.slice Ao52 t602.length co52)) (fun _ h_ => h_.1))) (by decide)) hk) (Kd.R_base ho0)) (fun _ h_ => h_.1)) (Kd.R_mono (Kd.R_told (Kd.R_oldK (IsS40.apart (show IsS40 w _ gb597 t606 from ss40 HI597) (by (with_reducible repeat (first | apply Kd.R_alloc | apply Kd.R_drewN | apply Kd.R_drew)); exact (Kd.R_mono (Kd.R_far (p := ⟨gb607, 3, none⟩) (Kd.R_far (p := ⟨gb607, 2, none⟩) (Kd.R_far (p := ⟨gb607, 1, none⟩) (Kd.R_far (p := ⟨gb607, 0, none⟩) (Kd.R_types HO593.out BK607.out (by decide)) (fun _ hk => hk.2) (.int .i64 t599)) (fun _ hk => hk.2) (.int .i64 t600)) (fun _ hk => hk.2) (.int .i64 t601)) (fun _ hk => hk.2) (.slice Ao52 t602.length co52)) (fun _ h_ => h_.1))) (by decide)) hk) (Kd.R_base ho0)) (fun _ h_ => h_.1)) (Kd.R_mono (Kd.R_told (Kd.R_oldK (IsS40.apart (show IsS40 w _ gb597 t606 from ss40 HI597) (by (with_reducible repeat (first | apply Kd.R_alloc | apply Kd.R_drewN | apply Kd.R_drew)); exact (Kd.R_mono (Kd.R_far (p := ⟨gb607, 3, none⟩) (Kd.R_far (p := ⟨gb607, 2, none⟩) (Kd.R_far (p := ⟨gb607, 1, none⟩) (Kd.R_far (p := ⟨gb607, 0, none⟩) (Kd.R_types HO596.out BK607.out (by decide)) (fun _ hk => hk.2) (.int .i64 t599)) (fun _ hk => hk.2) (.int .i64 t600)) (fun _ hk => hk.2) (.int .i64 t601)) (fun _ hk => hk.2) (.slice Ao52 t602.length co52)) (fun _ h_ => h_.1))) (by decide)) hk) (Kd.R_base ho0)) (fun _ h_ => h_.1)) ((show IsS40 w _ gb598 0 from ⟨KeepBut.blk hk (show IsS40 w _ gb598 0 from ss40 HI598).1 NB598_597.out (by simp), (show IsS40 w _ gb598 0 from ss40 HI598).2⟩)) (Kd.R_mono (Kd.R_told (Kd.R_oldK (IsS40.apart (show IsS40 w _ gb597 t606 from ss40 HI597) (by (with_reducible repeat (first | apply Kd.R_alloc | apply Kd.R_drewN | apply Kd.R_drew)); exact (Kd.R_mono (Kd.R_far (p := ⟨gb607, 3, none⟩) (Kd.R_far (p := ⟨gb607, 2, none⟩) (Kd.R_far (p := ⟨gb607, 1, none⟩) (Kd.R_far (p := ⟨gb607, 0, none⟩) (Kd.R_types HO604.out BK607.out (by decide)) (fun _ hk => hk.2) (.int .i64 t599)) (fun _ hk => hk.2) (.int .i64 t600)) (fun _ hk => hk.2) (.int .i64 t601)) (fun _ hk => hk.2) (.slice Ao52 t602.length co52)) (fun _ h_ => h_.1))) (by decide)) hk) (Kd.R_base ho0)) (fun _ h_ => h_.1)) (KeepBut.blk hk (g' := gb607) (o := .cells #[.int .i64 t599, .int .i64 t600, .int .i64 t601, .slice Ao52 t602.length co52] 25 (0, 0)) (bp BK607) NB607_597.out (by simp)) (Kd.R_lower (Kd.R_new' (Kd.R_new' (Kd.R_new' (Kd.R_new' (Kd.R_new' (Kd.R_new' (Kd.R_new' ho0 (Kd.R_lt (by (with_reducible repeat (first | apply Kd.R_alloc | apply Kd.R_drewN | apply Kd.R_drew)); exact (Kd.R_mono (Kd.R_far (p := ⟨gb607, 3, none⟩) (Kd.R_far (p := ⟨gb607, 2, none⟩) (Kd.R_far (p := ⟨gb607, 1, none⟩) (Kd.R_far (p := ⟨gb607, 0, none⟩) (Kd.R_types HO570.out BK607.out (by decide)) (fun _ hk => hk.2) (.int .i64 t599)) (fun _ hk => hk.2) (.int .i64 t600)) (fun _ hk => hk.2) (.int .i64 t601)) (fun _ hk => hk.2) (.slice Ao52 t602.length co52)) (fun _ h_ => h_.1))))) (Kd.R_lt (by (with_reducible repeat (first | apply Kd.R_alloc | apply Kd.R_drewN | apply Kd.R_drew)); exact (Kd.R_mono (Kd.R_far (p := ⟨gb607, 3, none⟩) (Kd.R_far (p := ⟨gb607, 2, none⟩) (Kd.R_far (p := ⟨gb607, 1, none⟩) (Kd.R_far (p := ⟨gb607, 0, none⟩) (Kd.R_types HO577.out BK607.out (by decide)) (fun _ hk => hk.2) (.int .i64 t599)) (fun _ hk => hk.2) (.int .i64 t600)) (fun _ hk => hk.2) (.int .i64 t601)) (fun _ hk => hk.2) (.slice Ao52 t602.length co52)) (fun _ h_ => h_.1))))) (Kd.R_lt (by (with_reducible repeat (first | apply Kd.R_alloc | apply Kd.R_drewN | apply Kd.R_drew)); exact (Kd.R_mono (Kd.R_far (p := ⟨gb607, 3, none⟩) (Kd.R_far (p := ⟨gb607, 2, none⟩) (Kd.R_far (p := ⟨gb607, 1, none⟩) (Kd.R_far (p := ⟨gb607, 0, none⟩) (Kd.R_types HO584.out BK607.out (by decide)) (fun _ hk => hk.2) (.int .i64 t599)) (fun _ hk => hk.2) (.int .i64 t600)) (fun _ hk => hk.2) (.int .i64 t601)) (fun _ hk => hk.2) (.slice Ao52 t602.length co52)) (fun _ h_ => h_.1))))) (Kd.R_lt (by (with_reducible repeat (first | apply Kd.R_alloc | apply Kd.R_drewN | apply Kd.R_drew)); exact (Kd.R_mono (Kd.R_far (p := ⟨gb607, 3, none⟩) (Kd.R_far (p := ⟨gb607, 2, none⟩) (Kd.R_far (p := ⟨gb607, 1, none⟩) (Kd.R_far (p := ⟨gb607, 0, none⟩) (Kd.R_types HO587.out BK607.out (by decide)) (fun _ hk => hk.2) (.int .i64 t599)) (fun _ hk => hk.2) (.int .i64 t600)) (fun _ hk => hk.2) (.int .i64 t601)) (fun _ hk => hk.2) (.slice Ao52 t602.length co52)) (fun _ h_ => h_.1))))) (Kd.R_lt (by (with_reducible repeat (first | apply Kd.R_alloc | apply Kd.R_drewN | apply Kd.R_drew)); exact (Kd.R_mono (Kd.R_far (p := ⟨gb607, 3, none⟩) (Kd.R_far (p := ⟨gb607, 2, none⟩) (Kd.R_far (p := ⟨gb607, 1, none⟩) (Kd.R_far (p := ⟨gb607, 0, none⟩) (Kd.R_types HO593.out BK607.out (by decide)) (fun _ hk => hk.2) (.int .i64 t599)) (fun _ hk => hk.2) (.int .i64 t600)) (fun _ hk => hk.2) (.int .i64 t601)) (fun _ hk => hk.2) (.slice Ao52 t602.length co52)) (fun _ h_ => h_.1))))) (Kd.R_lt (by (with_reducible repeat (first | apply Kd.R_alloc | apply Kd.R_drewN | apply Kd.R_drew)); exact (Kd.R_mono (Kd.R_far (p := ⟨gb607, 3, none⟩) (Kd.R_far (p := ⟨gb607, 2, none⟩) (Kd.R_far (p := ⟨gb607, 1, none⟩) (Kd.R_far (p := ⟨gb607, 0, none⟩) (Kd.R_types HO596.out BK607.out (by decide)) (fun _ hk => hk.2) (.int .i64 t599)) (fun _ hk => hk.2) (.int .i64 t600)) (fun _ hk => hk.2) (.int .i64 t601)) (fun _ hk => hk.2) (.slice Ao52 t602.length co52)) (fun _ h_ => h_.1))))) (Kd.R_lt (by (with_reducible repeat (first | apply Kd.R_alloc | apply Kd.R_drewN | apply Kd.R_drew)); exact (Kd.R_mono (Kd.R_far (p := ⟨gb607, 3, none⟩) (Kd.R_far (p := ⟨gb607, 2, none⟩) (Kd.R_far (p := ⟨gb607, 1, none⟩) (Kd.R_far (p := ⟨gb607, 0, none⟩) (Kd.R_types HO604.out BK607.out (by decide)) (fun _ hk => hk.2) (.int .i64 t599)) (fun _ hk => hk.2) (.int .i64 t600)) (fun _ hk => hk.2) (.int .i64 t601)) (fun _ hk => hk.2) (.slice Ao52 t602.length co52)) (fun _ h_ => h_.1))))) (below_size sb40)) hb hi ?_; clear HO570; clear BK571; clear HO577; clear BK578; clear HO584; clear HO587; clear HO593; clear HO596; clear HI598; clear HO604; clear BK607; clear HB; clear HI597; intro HO570 BK571 HO577 BK578 HO584 HO587 HO593 HO596 HI598 HO604 BK607 HO610 HB HI597; (try clear hb); (try clear ho0); have hcz56_0 := bc BK571 0 rfl; have hcz56_1 := bc BK571 1 rfl; have hcz56_2 := bc BK571 2 rfl; have hcz56_3 := bc BK571 3 rfl; have hfz56_0 := blk_frozen BK571.out 0; have hfz56_1 := blk_frozen BK571.out 1; have hfz56_2 := blk_frozen BK571.out 2; have hfz56_3 := blk_frozen BK571.out 3; obtain ⟨Ao57, co57, eo57⟩ := Kd.R_slice HO596.out; subst eo57) | ((with_reducible refine gate_callee (f := 15) rfl ?_); refine goesL_ (some 89) rfl rfl Try.func15 (by kernel_rfl) rfl #[.pointer (some ⟨gb597, 0, none⟩), .agg #[.int .i64 t565, .int .i64 t566, .int .i64 t567, .slice Ao25 t568.length co25], .int .u64 a4, .slice Ao57 t594.length co57, .slice Ao54 t585.length co54] rfl ga ?_; (with_reducible refine (mul_Ger.calls k gb597 t612 t565 t566 t567 _ _ t568 a4 _ _ t594 _ _ t585 t613 t614 t615 t616 t619 t620 w _ ?side1 ?side2 ?side3 ?side4 ?side5 ?side6 ?side7 ?side8 ?side9 ?side10 ?side11 A19.out).mono ?_); (case side1 => repeat (first | (with_reducible first | exact HI597.out | apply IsS40.alloc | apply IsS40.drewN | apply IsS40.drew | apply IsS40.set_0 | refine IsS40.far ?_ NB597_571.out _ | refine IsS40.far ?_ NB597_578.out _ | refine IsS40.far ?_ NB597_607.out _ | refine IsS40.far ?_ NB597_598.out _) | exact HI597.out)); (case side2 => repeat (first | (with_reducible first | exact HB.out | apply below_alloc | apply pw_below_drewN | apply below_drew1 | refine below_set ?_ (IsS40.ge HI597.out) | refine below_set ?_ (IsS40.ge HI598.out) | refine below_set ?_ GE571.out | refine below_set ?_ GE578.out | refine below_set ?_ GE607.out) | exact HB.out)); (case side3 => exact ks HO570); (case side4 => exact (Kd.R_reads' HO570.out).2.1); (case side5 => exact far_slice (IsS40.own_ne HI597.out HO570.out (by decide))); (case side6 => exact ks HO596); (case side7 => exact (Kd.R_reads' HO596.out).2.1); (case side8 => exact far_slice (IsS40.own_ne HI597.out HO596.out (by decide))); (case side9 => exact ks HO587); (case side10 => exact (Kd.R_reads' HO587.out).2.1); (case side11 => exact far_slice (IsS40.own_ne HI597.out HO587.out (by decide))); rintro e w58 ⟨v617, rfl, ho0, hi, hb, hk⟩; refine ⟨_, rfl, ?_⟩; refine ax15 (Kd.R_mono (Kd.R_told (Kd.R_oldK (IsS40.apart (show IsS40 w _ gb597 t612 from ss40 HI597) (kr HO570) (by decide)) hk) (Kd.R_base ho0)) (fun _ h_ => h_.1)) (KeepBut.blk hk (g' := gb571) (o := .cells #[.int .i64 t565, .int .i64 t566, .int .i64 t567, .slice Ao25 t568.length co25] 25 (0, 0)) (kb BK571) NB571_597.out (by simp)) (Kd.R_mono (Kd.R_told (Kd.R_oldK (IsS40.apart (show IsS40 w _ gb597 t612 from ss40 HI597) (kr HO577) (by decide)) hk) (Kd.R_base ho0)) (fun _ h_ => h_.1)) (KeepBut.blk hk (g' := gb578) (o := .cells #[.int .i64 t572, .int .i64 t573, .int .i64 t574, .slice Ao30 t575.length co30] 25 (0, 0)) (kb BK578) NB578_597.out (by simp)) (Kd.R_mono (Kd.R_told (Kd.R_oldK (IsS40.apart (show IsS40 w _ gb597 t612 from ss40 HI597) (kr HO584) (by decide)) hk) (Kd.R_base ho0)) (fun _ h_ => h_.1)) (Kd.R_mono (Kd.R_told (Kd.R_oldK (IsS40.apart (show IsS40 w _ gb597 t612 from ss40 HI597) (kr HO587) (by decide)) hk) (Kd.R_base ho0)) (fun _ h_ => h_.1)) (Kd.R_mono (Kd.R_told (Kd.R_oldK (IsS40.apart (show IsS40 w _ gb597 t612 from ss40 HI597) (kr HO593) (by decide)) hk) (Kd.R_base ho0)) (fun _ h_ => h_.1)) (Kd.R_mono (Kd.R_told (Kd.R_oldK (IsS40.apart (show IsS40 w _ gb597 t612 from ss40 HI597) (kr HO596) (by decide)) hk) (Kd.R_base ho0)) (fun _ h_ => h_.1)) ((show IsS40 w _ gb598 0 from ⟨KeepBut.blk hk (show IsS40 w _ gb598 0 from ss40 HI598).1 NB598_597.out (by simp), (show IsS40 w _ gb598 0 from ss40 HI598).2⟩)) (Kd.R_mono (Kd.R_told (Kd.R_oldK (IsS40.apart (show IsS40 w _ gb597 t612 from ss40 HI597) (kr HO604) (by decide)) hk) (Kd.R_base ho0)) (fun _ h_ => h_.1)) (KeepBut.blk hk (g' := gb607) (o := .cells #[.int .i64 t599, .int .i64 t600, .int .i64 t601, .slice Ao52 t602.length co52] 25 (0, 0)) (kb BK607) NB607_597.out (by simp)) (Kd.R_mono (Kd.R_told (Kd.R_oldK (IsS40.apart (show IsS40 w _ gb597 t612 from ss40 HI597) (kr HO610) (by decide)) hk) (Kd.R_base ho0)) (fun _ h_ => h_.1)) (Kd.R_lower (Kd.R_new' (Kd.R_new' (Kd.R_new' (Kd.R_new' (Kd.R_new' (Kd.R_new' (Kd.R_new' (Kd.R_new' ho0 (Kd.R_lt (kr HO570))) (Kd.R_lt (kr HO577))) (Kd.R_lt (kr HO584))) (Kd.R_lt (kr HO587))) (Kd.R_lt (kr HO593))) (Kd.R_lt (kr HO596))) (Kd.R_lt (kr HO604))) (Kd.R_lt (kr HO610))) (below_size sb40)) hb hi ?_; clear HO570; clear BK571; clear HO577; clear BK578; clear HO584; clear HO587; clear HO593; clear HO596; clear HI598; clear HO604; clear BK607; clear HO610; clear HB; clear HI597; intro HO570 BK571 HO577 BK578 HO584 HO587 HO593 HO596 HI598 HO604 BK607 HO610 HO618 HB HI597; (try clear hb); (try clear ho0)) | ((with_reducible refine gate_dst (N := 23) rfl ?_); refine gbox (N := 23) (cs := #[.int .i64 0, .int .i64 0, .int .i64 0, .slice none 0 0]) (t := 25) ?_; intro gb621 hg w59 hbox hb; refine ax28 (Kd.R_below (kr HO570) hb) (Kd.R_below (kr HO577) hb) (Kd.R_below (kr HO584) hb) (Kd.R_below (kr HO587) hb) (Kd.R_below (kr HO593) hb) (Kd.R_below (kr HO596) hb) (Kd.R_below (kr HO604) hb) (Kd.R_below (kr HO610) hb) (Kd.R_below (kr HO618) hb) (bb BK571 hb) (bb BK578 hb) (IsS40.below (ss40 HI597) hb) (IsS40.below (ss40 HI598) hb) (bb BK607 hb) (below_step sb40 hb) hbox ((by rw [hg]; exact (below_size sb40) : w.heap.size ≤ gb621)) ((by rw [hg]; exact (below_size sb40) : w.heap.size ≤ gb621)) (nl hg BK571) (ng hg BK571) (nl hg BK578) (ng hg BK578) (nl hg BK607) (ng hg BK607) ((by rw [hg]; exact Nat.ne_of_lt (IsS40.lt (show IsS40 w _ gb597 t620 from ss40 HI597)) : gb597 ≠ gb621)) ((by rw [hg]; exact Nat.ne_of_gt (IsS40.lt (show IsS40 w _ gb597 t620 from ss40 HI597)) : gb621 ≠ gb597)) ((by rw [hg]; exact Nat.ne_of_lt (IsS40.lt (show IsS40 w _ gb598 0 from ss40 HI598)) : gb598 ≠ gb621)) ((by rw [hg]; exact Nat.ne_of_gt (IsS40.lt (show IsS40 w _ gb598 0 from ss40 HI598)) : gb621 ≠ gb598)) ?_; clear HO570; clear HO577; clear HO584; clear HO587; clear HO593; clear HO596; clear HO604; clear HO610; clear HO618; clear BK571; clear BK578; clear HI597; clear HI598; clear BK607; clear HB; intro HO570 HO577 HO584 HO587 HO593 HO596 HO604 HO610 HO618 BK571 BK578 HI597 HI598 BK607 HB BK621 GW621 GE621 NB571_621 NB621_571 NB578_621 NB621_578 NB607_621 NB621_607 NB597_621 NB621_597 NB598_621 NB621_598; clear hb hbox hg; have hnb60 := NB621_571.out; have hnc60 := NB571_621.out; have hnb61 := NB621_578.out; have hnc61 := NB578_621.out; have hnb62 := NB621_607.out; have hnc62 := NB607_621.out; have hnb63 := NB621_597.out; have hnc63 := NB597_621.out; have hnb64 := NB621_598.out; have hnc64 := NB598_621.out; have hcz65_0 := bc BK621 0 rfl; have hcz65_1 := bc BK621 1 rfl; have hcz65_2 := bc BK621 2 rfl; have hcz65_3 := bc BK621 3 rfl; have hfz65_0 := blk_frozen BK621.out 0; have hfz65_1 := blk_frozen BK621.out 1; have hfz65_2 := blk_frozen BK621.out 2; have hfz65_3 := blk_frozen BK621.out 3; obtain ⟨Ao66, co66, eo66⟩ := Kd.R_slice HO618.out; subst eo66))
  (try simp only [Act.put, sa0, sa1, sa2])
  go_cut [131] (fun v131 wc => ∃ (kq : Nat) (x131_19 : Bool), v131 = .bool x131_19 ∧ Aside0 (gimballaw11_MulSteps.j0 kq (Go.bits .and .i64 a0 7) (Go.bits .and .i64 a1 7) (Go.bits .and .i64 a2 7) l3 a4 a5 t585 t594 t608 x131_19 t565 t566 t567 t568 t572 t573 t574 t575 t620 0 t599 t600 t601 t602 t613 t614 t615 t616 = some r) ∧ Aside0 (kq ≤ k) ∧ Aside0 (Kd.R (Kd.int .u64) 33 wc w.heap.size (fun k_ => some k_ ≠ ((.slice Ao57 t594.length co57) : Value).ownBlock ∧ some k_ ≠ (v609 : Value).ownBlock ∧ some k_ ≠ ((.slice Ao25 t568.length co25) : Value).ownBlock ∧ some k_ ≠ ((.slice Ao30 t575.length co30) : Value).ownBlock ∧ some k_ ≠ ((.slice Ao52 t602.length co52) : Value).ownBlock ∧ some k_ ≠ ((.slice Ao66 t616.length co66) : Value).ownBlock) (.slice Ao54 t585.length co54) t585) ∧ Aside0 (Kd.R (Kd.int .u64) 33 wc w.heap.size (fun k_ => some k_ ≠ ((.slice Ao54 t585.length co54) : Value).ownBlock ∧ some k_ ≠ (v609 : Value).ownBlock ∧ some k_ ≠ ((.slice Ao25 t568.length co25) : Value).ownBlock ∧ some k_ ≠ ((.slice Ao30 t575.length co30) : Value).ownBlock ∧ some k_ ≠ ((.slice Ao52 t602.length co52) : Value).ownBlock ∧ some k_ ≠ ((.slice Ao66 t616.length co66) : Value).ownBlock) (.slice Ao57 t594.length co57) t594) ∧ Aside0 (Kd.R (Kd.int .u64) 33 wc w.heap.size (fun k_ => some k_ ≠ ((.slice Ao54 t585.length co54) : Value).ownBlock ∧ some k_ ≠ ((.slice Ao57 t594.length co57) : Value).ownBlock ∧ some k_ ≠ ((.slice Ao25 t568.length co25) : Value).ownBlock ∧ some k_ ≠ ((.slice Ao30 t575.length co30) : Value).ownBlock ∧ some k_ ≠ ((.slice Ao52 t602.length co52) : Value).ownBlock ∧ some k_ ≠ ((.slice Ao66 t616.length co66) : Value).ownBlock) v609 t608) ∧ Aside0 (Kd.R (Kd.int .u64) 33 wc w.heap.size (fun k_ => some k_ ≠ ((.slice Ao54 t585.length co54) : Value).ownBlock ∧ some k_ ≠ ((.slice Ao57 t594.length co57) : Value).ownBlock ∧ some k_ ≠ (v609 : Value).ownBlock ∧ some k_ ≠ ((.slice Ao30 t575.length co30) : Value).ownBlock ∧ some k_ ≠ ((.slice Ao52 t602.length co52) : Value).ownBlock ∧ some k_ ≠ ((.slice Ao66 t616.length co66) : Value).ownBlock) (.slice Ao25 t568.length co25) t568) ∧ Aside0 (Kd.R (Kd.int .u64) 33 wc w.heap.size (fun k_ => some k_ ≠ ((.slice Ao54 t585.length co54) : Value).ownBlock ∧ some k_ ≠ ((.slice Ao57 t594.length co57) : Value).ownBlock ∧ some k_ ≠ (v609 : Value).ownBlock ∧ some k_ ≠ ((.slice Ao25 t568.length co25) : Value).ownBlock ∧ some k_ ≠ ((.slice Ao52 t602.length co52) : Value).ownBlock ∧ some k_ ≠ ((.slice Ao66 t616.length co66) : Value).ownBlock) (.slice Ao30 t575.length co30) t575) ∧ Aside0 (Kd.R (Kd.int .u64) 33 wc w.heap.size (fun k_ => some k_ ≠ ((.slice Ao54 t585.length co54) : Value).ownBlock ∧ some k_ ≠ ((.slice Ao57 t594.length co57) : Value).ownBlock ∧ some k_ ≠ (v609 : Value).ownBlock ∧ some k_ ≠ ((.slice Ao25 t568.length co25) : Value).ownBlock ∧ some k_ ≠ ((.slice Ao30 t575.length co30) : Value).ownBlock ∧ some k_ ≠ ((.slice Ao66 t616.length co66) : Value).ownBlock) (.slice Ao52 t602.length co52) t602) ∧ Aside0 (Kd.R (Kd.int .u64) 33 wc w.heap.size (fun k_ => some k_ ≠ ((.slice Ao54 t585.length co54) : Value).ownBlock ∧ some k_ ≠ ((.slice Ao57 t594.length co57) : Value).ownBlock ∧ some k_ ≠ (v609 : Value).ownBlock ∧ some k_ ≠ ((.slice Ao25 t568.length co25) : Value).ownBlock ∧ some k_ ≠ ((.slice Ao30 t575.length co30) : Value).ownBlock ∧ some k_ ≠ ((.slice Ao52 t602.length co52) : Value).ownBlock) (.slice Ao66 t616.length co66) t616) ∧ Aside0 (wc.heap[gb571]? = some (.cells #[.int .i64 t565, .int .i64 t566, .int .i64 t567, (.slice Ao25 t568.length co25)] 25 (0, 0))) ∧ Aside0 (wc.heap[gb578]? = some (.cells #[.int .i64 t572, .int .i64 t573, .int .i64 t574, (.slice Ao30 t575.length co30)] 25 (0, 0))) ∧ Aside0 (wc.heap[gb607]? = some (.cells #[.int .i64 t599, .int .i64 t600, .int .i64 t601, (.slice Ao52 t602.length co52)] 25 (0, 0))) ∧ Aside0 (wc.heap[gb621]? = some (.cells #[.int .i64 t613, .int .i64 t614, .int .i64 t615, (.slice Ao66 t616.length co66)] 25 (0, 0))) ∧ Aside0 (IsS40 w wc gb597 t620) ∧ Aside0 (IsS40 w wc gb598 0) ∧ Aside0 (Below w.heap.size w wc))
  case first => as_aux_lemma =>
   have H := HC20.out
   clear HC20
   by_cases c67 : t605 = 0
   rotate_left
   ·
    rw [if_neg c67] at H
    have c67b0 : (t605 == 0) = false := beq_eq_false_iff_ne.mpr c67
    have c67b1 : (t605 != 0) = true := bne_iff_ne.mpr c67
    (first | rw [c67b0] | (simp only [i64_w, i32_w]; rw [c67b0]) | skip)
    rw [hLW] at H
    exact absurd H (by cases k <;> simp [gimballaw11_MulSteps.j0])
   rw [if_pos c67] at H
   have c67b0 : (t605 == 0) = true := beq_iff_eq.mpr c67
   have c67b1 : (t605 != 0) = false := bne_eq_false_iff_eq.mpr c67
   clear c67
   (first | rw [c67b0] | (simp only [i64_w, i32_w]; rw [c67b0]) | skip)
   by_cases c68 : t611 = 0
   rotate_left
   ·
    rw [if_neg c68] at H
    have c68b0 : (t611 == 0) = false := beq_eq_false_iff_ne.mpr c68
    have c68b1 : (t611 != 0) = true := bne_iff_ne.mpr c68
    rw [hLW] at H
    exact absurd H (by cases k <;> simp [gimballaw11_MulSteps.j0])
   rw [if_pos c68] at H
   have c68b0 : (t611 == 0) = true := beq_iff_eq.mpr c68
   have c68b1 : (t611 != 0) = false := bne_eq_false_iff_eq.mpr c68
   clear c68
   by_cases c69 : t619 = 0
   rotate_left
   ·
    rw [if_neg c69] at H
    have c69b0 : (t619 == 0) = false := beq_eq_false_iff_ne.mpr c69
    have c69b1 : (t619 != 0) = true := bne_iff_ne.mpr c69
    rw [hLW] at H
    exact absurd H (by cases k <;> simp [gimballaw11_MulSteps.j0])
   rw [if_pos c69] at H
   have c69b0 : (t619 == 0) = true := beq_iff_eq.mpr c69
   have c69b1 : (t619 != 0) = false := bne_eq_false_iff_eq.mpr c69
   clear c69
   by_cases c70 : t599 = (Go.bits .and .i64 a0 7)
   rotate_left
   ·
    rw [if_neg c70] at H
    have c70b0 : (t599 == (Go.bits .and .i64 a0 7)) = false := beq_eq_false_iff_ne.mpr c70
    have c70b1 : (t599 != (Go.bits .and .i64 a0 7)) = true := bne_iff_ne.mpr c70
    rw [hLW] at H
    exact absurd H (by cases k <;> simp [gimballaw11_MulSteps.j0])
   rw [if_pos c70] at H
   have c70b0 : (t599 == (Go.bits .and .i64 a0 7)) = true := beq_iff_eq.mpr c70
   have c70b1 : (t599 != (Go.bits .and .i64 a0 7)) = false := bne_eq_false_iff_eq.mpr c70
   clear c70
   by_cases c71 : t600 = (Go.bits .and .i64 a2 7)
   rotate_left
   ·
    rw [if_neg c71] at H
    have c71b0 : (t600 == (Go.bits .and .i64 a2 7)) = false := beq_eq_false_iff_ne.mpr c71
    have c71b1 : (t600 != (Go.bits .and .i64 a2 7)) = true := bne_iff_ne.mpr c71
    rw [hLW] at H
    exact absurd H (by cases k <;> simp [gimballaw11_MulSteps.j0])
   rw [if_pos c71] at H
   have c71b0 : (t600 == (Go.bits .and .i64 a2 7)) = true := beq_iff_eq.mpr c71
   have c71b1 : (t600 != (Go.bits .and .i64 a2 7)) = false := bne_eq_false_iff_eq.mpr c71
   clear c71
   by_cases c72 : (t608.length : Int) = (Go.bits .and .i64 a0 7)
   rotate_left
   ·
    rw [if_neg c72] at H
    have c72b0 : ((t608.length : Int) == (Go.bits .and .i64 a0 7)) = false := beq_eq_false_iff_ne.mpr c72
    have c72b1 : ((t608.length : Int) != (Go.bits .and .i64 a0 7)) = true := bne_iff_ne.mpr c72
    rw [hLW] at H
    exact absurd H (by cases k <;> simp [gimballaw11_MulSteps.j0])
   rw [if_pos c72] at H
   have c72b0 : ((t608.length : Int) == (Go.bits .and .i64 a0 7)) = true := beq_iff_eq.mpr c72
   have c72b1 : ((t608.length : Int) != (Go.bits .and .i64 a0 7)) = false := bne_eq_false_iff_eq.mpr c72
   clear c72
   by_cases c73 : t613 = (Go.bits .and .i64 a0 7)
   rotate_left
   ·
    rw [if_neg c73] at H
    have c73b0 : (t613 == (Go.bits .and .i64 a0 7)) = false := beq_eq_false_iff_ne.mpr c73
    have c73b1 : (t613 != (Go.bits .and .i64 a0 7)) = true := bne_iff_ne.mpr c73
    rw [hLW] at H
    exact absurd H (by cases k <;> simp [gimballaw11_MulSteps.j0])
   rw [if_pos c73] at H
   have c73b0 : (t613 == (Go.bits .and .i64 a0 7)) = true := beq_iff_eq.mpr c73
   have c73b1 : (t613 != (Go.bits .and .i64 a0 7)) = false := bne_eq_false_iff_eq.mpr c73
   clear c73
   have H' := Aside0.mk H
   clear H
   have hnb74 := NB607_571.out
   have hnc74 := NB571_607.out
   have hnb75 := NB607_578.out
   have hnc75 := NB578_607.out
   have hnb76 := NB607_621.out
   have hnc76 := NB621_607.out
   have hnb77 := NB607_597.out
   have hnc77 := NB597_607.out
   have hnb78 := NB607_598.out
   have hnc78 := NB598_607.out
   have hcz79_0 := bc BK607 0 rfl
   have hcz79_1 := bc BK607 1 rfl
   have hcz79_2 := bc BK607 2 rfl
   have hcz79_3 := bc BK607 3 rfl
   have hfz79_0 := blk_frozen BK607.out 0
   have hfz79_1 := blk_frozen BK607.out 1
   have hfz79_2 := blk_frozen BK607.out 2
   have hfz79_3 := blk_frozen BK607.out 3
   obtain ⟨Ao80, co80, eo80⟩ := Kd.R_slice HO610.out
   subst eo80
   have hnb81 := NB621_571.out
   have hnc81 := NB571_621.out
   have hnb82 := NB621_578.out
   have hnc82 := NB578_621.out
   have hnb83 := NB621_597.out
   have hnc83 := NB597_621.out
   have hnb84 := NB621_598.out
   have hnc84 := NB598_621.out
   have hcz85_0 := bc BK621 0 rfl
   have hcz85_1 := bc BK621 1 rfl
   have hcz85_2 := bc BK621 2 rfl
   have hcz85_3 := bc BK621 3 rfl
   have hfz85_0 := blk_frozen BK621.out 0
   have hfz85_1 := blk_frozen BK621.out 1
   have hfz85_2 := blk_frozen BK621.out 2
   have hfz85_3 := blk_frozen BK621.out 3
   go_wp2
   go_meet
   case rel => exact ⟨_, ((t614 != (Go.bits .and .i64 a1 7))), (by first | rfl | (simp; done) | (simp [*]; done)), H', ⟨by first | omega | exact Nat.le_refl _⟩, ⟨by (with_reducible repeat (first | apply Kd.R_alloc | apply Kd.R_drewN | apply Kd.R_drew)); exact Kd.R_mono (Kd.R_far (p := ⟨gb621, 3, none⟩) (Kd.R_far (p := ⟨gb621, 2, none⟩) (Kd.R_far (p := ⟨gb621, 1, none⟩) (Kd.R_far (p := ⟨gb621, 0, none⟩) (Kd.R_types HO587.out BK621.out (by decide)) (fun _ hk => hk.2) (.int .i64 t613)) (fun _ hk => hk.2) (.int .i64 t614)) (fun _ hk => hk.2) (.int .i64 t615)) (fun _ hk => hk.2) (.slice Ao66 t616.length co66)) (fun _ hk => ⟨hk.1.1.1.1.2, ⟨hk.1.1.2, ⟨hk.1.1.1.1.1.1.1.1.2, ⟨hk.1.1.1.1.1.1.1.2, ⟨hk.1.1.1.2, hk.1.2⟩⟩⟩⟩⟩)⟩, ⟨by (with_reducible repeat (first | apply Kd.R_alloc | apply Kd.R_drewN | apply Kd.R_drew)); exact Kd.R_mono (Kd.R_far (p := ⟨gb621, 3, none⟩) (Kd.R_far (p := ⟨gb621, 2, none⟩) (Kd.R_far (p := ⟨gb621, 1, none⟩) (Kd.R_far (p := ⟨gb621, 0, none⟩) (Kd.R_types HO596.out BK621.out (by decide)) (fun _ hk => hk.2) (.int .i64 t613)) (fun _ hk => hk.2) (.int .i64 t614)) (fun _ hk => hk.2) (.int .i64 t615)) (fun _ hk => hk.2) (.slice Ao66 t616.length co66)) (fun _ hk => ⟨hk.1.1.1.1.1.2, ⟨hk.1.1.2, ⟨hk.1.1.1.1.1.1.1.1.2, ⟨hk.1.1.1.1.1.1.1.2, ⟨hk.1.1.1.2, hk.1.2⟩⟩⟩⟩⟩)⟩, ⟨by (with_reducible repeat (first | apply Kd.R_alloc | apply Kd.R_drewN | apply Kd.R_drew)); exact Kd.R_mono (Kd.R_far (p := ⟨gb621, 3, none⟩) (Kd.R_far (p := ⟨gb621, 2, none⟩) (Kd.R_far (p := ⟨gb621, 1, none⟩) (Kd.R_far (p := ⟨gb621, 0, none⟩) (Kd.R_types HO610.out BK621.out (by decide)) (fun _ hk => hk.2) (.int .i64 t613)) (fun _ hk => hk.2) (.int .i64 t614)) (fun _ hk => hk.2) (.int .i64 t615)) (fun _ hk => hk.2) (.slice Ao66 t616.length co66)) (fun _ hk => ⟨hk.1.1.1.1.1.2, ⟨hk.1.1.1.2, ⟨hk.1.1.1.1.1.1.1.1.2, ⟨hk.1.1.1.1.1.1.1.2, ⟨hk.1.1.2, hk.1.2⟩⟩⟩⟩⟩)⟩, ⟨by (with_reducible repeat (first | apply Kd.R_alloc | apply Kd.R_drewN | apply Kd.R_drew)); exact Kd.R_mono (Kd.R_far (p := ⟨gb621, 3, none⟩) (Kd.R_far (p := ⟨gb621, 2, none⟩) (Kd.R_far (p := ⟨gb621, 1, none⟩) (Kd.R_far (p := ⟨gb621, 0, none⟩) (Kd.R_types HO570.out BK621.out (by decide)) (fun _ hk => hk.2) (.int .i64 t613)) (fun _ hk => hk.2) (.int .i64 t614)) (fun _ hk => hk.2) (.int .i64 t615)) (fun _ hk => hk.2) (.slice Ao66 t616.length co66)) (fun _ hk => ⟨hk.1.1.1.1.1.1.2, ⟨hk.1.1.1.1.2, ⟨hk.1.1.2, ⟨hk.1.1.1.1.1.1.1.1.2, ⟨hk.1.1.1.2, hk.1.2⟩⟩⟩⟩⟩)⟩, ⟨by (with_reducible repeat (first | apply Kd.R_alloc | apply Kd.R_drewN | apply Kd.R_drew)); exact Kd.R_mono (Kd.R_far (p := ⟨gb621, 3, none⟩) (Kd.R_far (p := ⟨gb621, 2, none⟩) (Kd.R_far (p := ⟨gb621, 1, none⟩) (Kd.R_far (p := ⟨gb621, 0, none⟩) (Kd.R_types HO577.out BK621.out (by decide)) (fun _ hk => hk.2) (.int .i64 t613)) (fun _ hk => hk.2) (.int .i64 t614)) (fun _ hk => hk.2) (.int .i64 t615)) (fun _ hk => hk.2) (.slice Ao66 t616.length co66)) (fun _ hk => ⟨hk.1.1.1.1.1.1.2, ⟨hk.1.1.1.1.2, ⟨hk.1.1.2, ⟨hk.1.1.1.1.1.1.1.1.2, ⟨hk.1.1.1.2, hk.1.2⟩⟩⟩⟩⟩)⟩, ⟨by (with_reducible repeat (first | apply Kd.R_alloc | apply Kd.R_drewN | apply Kd.R_drew)); exact Kd.R_mono (Kd.R_far (p := ⟨gb621, 3, none⟩) (Kd.R_far (p := ⟨gb621, 2, none⟩) (Kd.R_far (p := ⟨gb621, 1, none⟩) (Kd.R_far (p := ⟨gb621, 0, none⟩) (Kd.R_types HO604.out BK621.out (by decide)) (fun _ hk => hk.2) (.int .i64 t613)) (fun _ hk => hk.2) (.int .i64 t614)) (fun _ hk => hk.2) (.int .i64 t615)) (fun _ hk => hk.2) (.slice Ao66 t616.length co66)) (fun _ hk => ⟨hk.1.1.1.1.1.2, ⟨hk.1.1.1.2, ⟨hk.1.1.2, ⟨hk.1.1.1.1.1.1.1.1.2, ⟨hk.1.1.1.1.1.1.1.2, hk.1.2⟩⟩⟩⟩⟩)⟩, ⟨by (with_reducible repeat (first | apply Kd.R_alloc | apply Kd.R_drewN | apply Kd.R_drew)); exact Kd.R_mono (Kd.R_far (p := ⟨gb621, 3, none⟩) (Kd.R_far (p := ⟨gb621, 2, none⟩) (Kd.R_far (p := ⟨gb621, 1, none⟩) (Kd.R_far (p := ⟨gb621, 0, none⟩) (Kd.R_types HO618.out BK621.out (by decide)) (fun _ hk => hk.2) (.int .i64 t613)) (fun _ hk => hk.2) (.int .i64 t614)) (fun _ hk => hk.2) (.int .i64 t615)) (fun _ hk => hk.2) (.slice Ao66 t616.length co66)) (fun _ hk => ⟨hk.1.1.1.1.1.2, ⟨hk.1.1.1.2, ⟨hk.1.2, ⟨hk.1.1.1.1.1.1.1.1.2, ⟨hk.1.1.1.1.1.1.1.2, hk.1.1.2⟩⟩⟩⟩⟩)⟩, ⟨bf BK571 NB571_621⟩, ⟨bf BK578 NB578_621⟩, ⟨bf BK607 NB607_621⟩, ⟨bp BK621⟩, ⟨ss40 HI597⟩, ⟨ss40 HI598⟩, ⟨sb40⟩⟩
  case rest => as_aux_lemma =>
   clear HC20
   obtain ⟨kq, x131_19, rfl, HA, HJ19, HO_15, HO_16, HO_21, HO_572003, HO_579003, HO_608003, HO_622003, BK571, BK578, BK607, BK621, HI597, HI598, HB⟩ := hcut
   cases kq with
   | zero => exact absurd HA.out (by simp [gimballaw11_MulSteps.j0])
   | succ kj19 =>
    have H := HA.out
    clear HA
    simp only [gimballaw11_MulSteps.j0] at H
    by_cases c86 : x131_19 = true
    ·
     subst c86
     rw [if_pos rfl] at H
     rw [hLW] at H
     exact absurd H (by simp)
    ·
     replace c86 := Bool.eq_false_iff.mpr c86
     subst c86
     rw [if_neg (show ¬ (false = true) by decide)] at H
     obtain ⟨⟨t622, t623, t624, t625⟩, A870, H⟩ := Option.bind_eq_some_iff.mp H
     (try dsimp -simprocs only at H)
     have A87 := Aside0.mk A870
     clear A870
     have H' := Aside0.mk H
     clear H
     have hnb88 := NB578_571.out
     have hnc88 := NB571_578.out
     have hnb89 := NB578_607.out
     have hnc89 := NB607_578.out
     have hnb90 := NB578_621.out
     have hnc90 := NB621_578.out
     have hnb91 := NB578_597.out
     have hnc91 := NB597_578.out
     have hnb92 := NB578_598.out
     have hnc92 := NB598_578.out
     have hcz93_0 := bc BK578 0 rfl
     have hcz93_1 := bc BK578 1 rfl
     have hcz93_2 := bc BK578 2 rfl
     have hcz93_3 := bc BK578 3 rfl
     have hfz93_0 := blk_frozen BK578.out 0
     have hfz93_1 := blk_frozen BK578.out 1
     have hfz93_2 := blk_frozen BK578.out 2
     have hfz93_3 := blk_frozen BK578.out 3
     go_wp2_with (first | ((with_reducible refine gate_callee (f := 10) rfl ?_); refine goesL_ (some 133) rfl rfl Try.func10 (by kernel_rfl) rfl #[.agg #[.int .i64 t572, .int .i64 t573, .int .i64 t574, .slice Ao30 t575.length co30]] rfl ga ?_; (with_reducible refine (mat_Matrix_Turn.calls kj19 t572 t573 t574 _ _ t575 t622 t623 t624 t625 _ ?side1 ?side2 A87.out).mono ?_); (case side1 => exact ks HO_579003); (case side2 => exact (Kd.R_reads' HO_579003.out).2.1); rintro e w94 ⟨v626, rfl, ho0, hb⟩; refine ⟨_, rfl, ?_⟩; refine ax15 (Kd.R_elder' (kr HO_15) (Kd.R_base ho0) hb) (Kd.R_elder' (kr HO_16) (Kd.R_base ho0) hb) (Kd.R_elder' (kr HO_21) (Kd.R_base ho0) hb) (Kd.R_elder' (kr HO_572003) (Kd.R_base ho0) hb) (Kd.R_elder' (kr HO_579003) (Kd.R_base ho0) hb) (Kd.R_elder' (kr HO_608003) (Kd.R_base ho0) hb) (Kd.R_elder' (kr HO_622003) (Kd.R_base ho0) hb) (Kd.R_lower (Kd.R_new' (Kd.R_new' (Kd.R_new' (Kd.R_new' (Kd.R_new' (Kd.R_new' (Kd.R_new' ho0 (Kd.R_lt (kr HO_15))) (Kd.R_lt (kr HO_16))) (Kd.R_lt (kr HO_21))) (Kd.R_lt (kr HO_572003))) (Kd.R_lt (kr HO_579003))) (Kd.R_lt (kr HO_608003))) (Kd.R_lt (kr HO_622003))) (below_size sb40)) (bb BK571 hb) (bb BK578 hb) (bb BK607 hb) (bb BK621 hb) (IsS40.below (ss40 HI597) hb) (IsS40.below (ss40 HI598) hb) (below_step sb40 hb) ?_; clear HO_15; clear HO_16; clear HO_21; clear HO_572003; clear HO_579003; clear HO_608003; clear HO_622003; clear BK571; clear BK578; clear BK607; clear BK621; clear HI597; clear HI598; clear HB; intro HO_15 HO_16 HO_21 HO_572003 HO_579003 HO_608003 HO_622003 HO627 BK571 BK578 BK607 BK621 HI597 HI598 HB; (try clear hb); (try clear ho0)) | ((with_reducible refine gate_dst (N := 25) rfl ?_); refine gbox (N := 25) (cs := #[.int .i64 0, .int .i64 0, .int .i64 0, .slice none 0 0]) (t := 25) ?_; intro gb628 hg w95 hbox hb; refine ax30 (Kd.R_below (kr HO_15) hb) (Kd.R_below (kr HO_16) hb) (Kd.R_below (kr HO_21) hb) (Kd.R_below (kr HO_572003) hb) (Kd.R_below (kr HO_579003) hb) (Kd.R_below (kr HO_608003) hb) (Kd.R_below (kr HO_622003) hb) (Kd.R_below (kr HO627) hb) (bb BK571 hb) (bb BK578 hb) (bb BK607 hb) (bb BK621 hb) (IsS40.below (ss40 HI597) hb) (IsS40.below (ss40 HI598) hb) (below_step sb40 hb) hbox ((by rw [hg]; exact (below_size sb40) : w.heap.size ≤ gb628)) ((by rw [hg]; exact (below_size sb40) : w.heap.size ≤ gb628)) (nl hg BK571) (ng hg BK571) (nl hg BK578) (ng hg BK578) (nl hg BK607) (ng hg BK607) (nl hg BK621) (ng hg BK621) ((by rw [hg]; exact Nat.ne_of_lt (IsS40.lt (show IsS40 w _ gb597 t620 from ss40 HI597)) : gb597 ≠ gb628)) ((by rw [hg]; exact Nat.ne_of_gt (IsS40.lt (show IsS40 w _ gb597 t620 from ss40 HI597)) : gb628 ≠ gb597)) ((by rw [hg]; exact Nat.ne_of_lt (IsS40.lt (show IsS40 w _ gb598 0 from ss40 HI598)) : gb598 ≠ gb628)) ((by rw [hg]; exact Nat.ne_of_gt (IsS40.lt (show IsS40 w _ gb598 0 from ss40 HI598)) : gb628 ≠ gb598)) ?_; clear HO_15; clear HO_16; clear HO_21; clear HO_572003; clear HO_579003; clear HO_608003; clear HO_622003; clear HO627; clear BK571; clear BK578; clear BK607; clear BK621; clear HI597; clear HI598; clear HB; intro HO_15 HO_16 HO_21 HO_572003 HO_579003 HO_608003 HO_622003 HO627 BK571 BK578 BK607 BK621 HI597 HI598 HB BK628 GW628 GE628 NB571_628 NB628_571 NB578_628 NB628_578 NB607_628 NB628_607 NB621_628 NB628_621 NB597_628 NB628_597 NB598_628 NB628_598; clear hb hbox hg; have hnb96 := NB628_571.out; have hnc96 := NB571_628.out; have hnb97 := NB628_578.out; have hnc97 := NB578_628.out; have hnb98 := NB628_607.out; have hnc98 := NB607_628.out; have hnb99 := NB628_621.out; have hnc99 := NB621_628.out; have hnb100 := NB628_597.out; have hnc100 := NB597_628.out; have hnb101 := NB628_598.out; have hnc101 := NB598_628.out; have hcz102_0 := bc BK628 0 rfl; have hcz102_1 := bc BK628 1 rfl; have hcz102_2 := bc BK628 2 rfl; have hcz102_3 := bc BK628 3 rfl; have hfz102_0 := blk_frozen BK628.out 0; have hfz102_1 := blk_frozen BK628.out 1; have hfz102_2 := blk_frozen BK628.out 2; have hfz102_3 := blk_frozen BK628.out 3; obtain ⟨Ao103, co103, eo103⟩ := Kd.R_slice HO627.out; subst eo103))
     go_loopg [26] kj19 (fun kq v26 w' => ∃ (x26_2 : Int) (x599000_2 : Int), v26 = .int .i64 x26_2 ∧ Aside0 (gimballaw11_MulSteps.l0 kq (Go.bits .and .i64 a0 7) (Go.bits .and .i64 a1 7) (Go.bits .and .i64 a2 7) l3 a4 a5 t585 t594 t608 x26_2 t565 t566 t567 t568 t572 t573 t574 t575 t620 x599000_2 t599 t600 t601 t602 t613 t614 t615 t616 t622 t623 t624 t625 = some r) ∧ Aside0 (kq ≤ kj19) ∧ Aside0 (Kd.R (Kd.int .u64) 33 w' w.heap.size (fun k_ => some k_ ≠ ((.slice Ao57 t594.length co57) : Value).ownBlock ∧ some k_ ≠ (v609 : Value).ownBlock ∧ some k_ ≠ ((.slice Ao25 t568.length co25) : Value).ownBlock ∧ some k_ ≠ ((.slice Ao30 t575.length co30) : Value).ownBlock ∧ some k_ ≠ ((.slice Ao52 t602.length co52) : Value).ownBlock ∧ some k_ ≠ ((.slice Ao66 t616.length co66) : Value).ownBlock ∧ some k_ ≠ ((.slice Ao103 t625.length co103) : Value).ownBlock) (.slice Ao54 t585.length co54) t585) ∧ Aside0 (Kd.R (Kd.int .u64) 33 w' w.heap.size (fun k_ => some k_ ≠ ((.slice Ao54 t585.length co54) : Value).ownBlock ∧ some k_ ≠ (v609 : Value).ownBlock ∧ some k_ ≠ ((.slice Ao25 t568.length co25) : Value).ownBlock ∧ some k_ ≠ ((.slice Ao30 t575.length co30) : Value).ownBlock ∧ some k_ ≠ ((.slice Ao52 t602.length co52) : Value).ownBlock ∧ some k_ ≠ ((.slice Ao66 t616.length co66) : Value).ownBlock ∧ some k_ ≠ ((.slice Ao103 t625.length co103) : Value).ownBlock) (.slice Ao57 t594.length co57) t594) ∧ Aside0 (Kd.R (Kd.int .u64) 33 w' w.heap.size (fun k_ => some k_ ≠ ((.slice Ao54 t585.length co54) : Value).ownBlock ∧ some k_ ≠ ((.slice Ao57 t594.length co57) : Value).ownBlock ∧ some k_ ≠ ((.slice Ao25 t568.length co25) : Value).ownBlock ∧ some k_ ≠ ((.slice Ao30 t575.length co30) : Value).ownBlock ∧ some k_ ≠ ((.slice Ao52 t602.length co52) : Value).ownBlock ∧ some k_ ≠ ((.slice Ao66 t616.length co66) : Value).ownBlock ∧ some k_ ≠ ((.slice Ao103 t625.length co103) : Value).ownBlock) v609 t608) ∧ Aside0 (Kd.R (Kd.int .u64) 33 w' w.heap.size (fun k_ => some k_ ≠ ((.slice Ao54 t585.length co54) : Value).ownBlock ∧ some k_ ≠ ((.slice Ao57 t594.length co57) : Value).ownBlock ∧ some k_ ≠ (v609 : Value).ownBlock ∧ some k_ ≠ ((.slice Ao30 t575.length co30) : Value).ownBlock ∧ some k_ ≠ ((.slice Ao52 t602.length co52) : Value).ownBlock ∧ some k_ ≠ ((.slice Ao66 t616.length co66) : Value).ownBlock ∧ some k_ ≠ ((.slice Ao103 t625.length co103) : Value).ownBlock) (.slice Ao25 t568.length co25) t568) ∧ Aside0 (Kd.R (Kd.int .u64) 33 w' w.heap.size (fun k_ => some k_ ≠ ((.slice Ao54 t585.length co54) : Value).ownBlock ∧ some k_ ≠ ((.slice Ao57 t594.length co57) : Value).ownBlock ∧ some k_ ≠ (v609 : Value).ownBlock ∧ some k_ ≠ ((.slice Ao25 t568.length co25) : Value).ownBlock ∧ some k_ ≠ ((.slice Ao52 t602.length co52) : Value).ownBlock ∧ some k_ ≠ ((.slice Ao66 t616.length co66) : Value).ownBlock ∧ some k_ ≠ ((.slice Ao103 t625.length co103) : Value).ownBlock) (.slice Ao30 t575.length co30) t575) ∧ Aside0 (Kd.R (Kd.int .u64) 33 w' w.heap.size (fun k_ => some k_ ≠ ((.slice Ao54 t585.length co54) : Value).ownBlock ∧ some k_ ≠ ((.slice Ao57 t594.length co57) : Value).ownBlock ∧ some k_ ≠ (v609 : Value).ownBlock ∧ some k_ ≠ ((.slice Ao25 t568.length co25) : Value).ownBlock ∧ some k_ ≠ ((.slice Ao30 t575.length co30) : Value).ownBlock ∧ some k_ ≠ ((.slice Ao66 t616.length co66) : Value).ownBlock ∧ some k_ ≠ ((.slice Ao103 t625.length co103) : Value).ownBlock) (.slice Ao52 t602.length co52) t602) ∧ Aside0 (Kd.R (Kd.int .u64) 33 w' w.heap.size (fun k_ => some k_ ≠ ((.slice Ao54 t585.length co54) : Value).ownBlock ∧ some k_ ≠ ((.slice Ao57 t594.length co57) : Value).ownBlock ∧ some k_ ≠ (v609 : Value).ownBlock ∧ some k_ ≠ ((.slice Ao25 t568.length co25) : Value).ownBlock ∧ some k_ ≠ ((.slice Ao30 t575.length co30) : Value).ownBlock ∧ some k_ ≠ ((.slice Ao52 t602.length co52) : Value).ownBlock ∧ some k_ ≠ ((.slice Ao103 t625.length co103) : Value).ownBlock) (.slice Ao66 t616.length co66) t616) ∧ Aside0 (Kd.R (Kd.int .u64) 33 w' w.heap.size (fun k_ => some k_ ≠ ((.slice Ao54 t585.length co54) : Value).ownBlock ∧ some k_ ≠ ((.slice Ao57 t594.length co57) : Value).ownBlock ∧ some k_ ≠ (v609 : Value).ownBlock ∧ some k_ ≠ ((.slice Ao25 t568.length co25) : Value).ownBlock ∧ some k_ ≠ ((.slice Ao30 t575.length co30) : Value).ownBlock ∧ some k_ ≠ ((.slice Ao52 t602.length co52) : Value).ownBlock ∧ some k_ ≠ ((.slice Ao66 t616.length co66) : Value).ownBlock) (.slice Ao103 t625.length co103) t625) ∧ Aside0 (w'.heap[gb571]? = some (.cells #[.int .i64 t565, .int .i64 t566, .int .i64 t567, (.slice Ao25 t568.length co25)] 25 (0, 0))) ∧ Aside0 (w'.heap[gb578]? = some (.cells #[.int .i64 t572, .int .i64 t573, .int .i64 t574, (.slice Ao30 t575.length co30)] 25 (0, 0))) ∧ Aside0 (w'.heap[gb607]? = some (.cells #[.int .i64 t599, .int .i64 t600, .int .i64 t601, (.slice Ao52 t602.length co52)] 25 (0, 0))) ∧ Aside0 (w'.heap[gb621]? = some (.cells #[.int .i64 t613, .int .i64 t614, .int .i64 t615, (.slice Ao66 t616.length co66)] 25 (0, 0))) ∧ Aside0 (w'.heap[gb628]? = some (.cells #[.int .i64 t622, .int .i64 t623, .int .i64 t624, (.slice Ao103 t625.length co103)] 25 (0, 0))) ∧ Aside0 (IsS40 w w' gb597 t620) ∧ Aside0 (IsS40 w w' gb598 x599000_2) ∧ Aside0 (Below w.heap.size w w'))
     case atStart => exact ⟨(0), (0), (by first | rfl | (simp; done) | (simp [*]; done)), H', ⟨Nat.le_refl _⟩, ⟨by (with_reducible repeat (first | apply Kd.R_alloc | apply Kd.R_drewN | apply Kd.R_drew)); exact Kd.R_mono (Kd.R_far (p := ⟨gb628, 3, none⟩) (Kd.R_far (p := ⟨gb628, 2, none⟩) (Kd.R_far (p := ⟨gb628, 1, none⟩) (Kd.R_far (p := ⟨gb628, 0, none⟩) (Kd.R_types HO_15.out BK628.out (by decide)) (fun _ hk => hk.2) (.int .i64 t622)) (fun _ hk => hk.2) (.int .i64 t623)) (fun _ hk => hk.2) (.int .i64 t624)) (fun _ hk => hk.2) (.slice Ao103 t625.length co103)) (fun _ hk => ⟨hk.1.1.1, ⟨hk.1.1.2.1, ⟨hk.1.1.2.2.1, ⟨hk.1.1.2.2.2.1, ⟨hk.1.1.2.2.2.2.1, ⟨hk.1.1.2.2.2.2.2, hk.1.2⟩⟩⟩⟩⟩⟩)⟩, ⟨by (with_reducible repeat (first | apply Kd.R_alloc | apply Kd.R_drewN | apply Kd.R_drew)); exact Kd.R_mono (Kd.R_far (p := ⟨gb628, 3, none⟩) (Kd.R_far (p := ⟨gb628, 2, none⟩) (Kd.R_far (p := ⟨gb628, 1, none⟩) (Kd.R_far (p := ⟨gb628, 0, none⟩) (Kd.R_types HO_16.out BK628.out (by decide)) (fun _ hk => hk.2) (.int .i64 t622)) (fun _ hk => hk.2) (.int .i64 t623)) (fun _ hk => hk.2) (.int .i64 t624)) (fun _ hk => hk.2) (.slice Ao103 t625.length co103)) (fun _ hk => ⟨hk.1.1.1, ⟨hk.1.1.2.1, ⟨hk.1.1.2.2.1, ⟨hk.1.1.2.2.2.1, ⟨hk.1.1.2.2.2.2.1, ⟨hk.1.1.2.2.2.2.2, hk.1.2⟩⟩⟩⟩⟩⟩)⟩, ⟨by (with_reducible repeat (first | apply Kd.R_alloc | apply Kd.R_drewN | apply Kd.R_drew)); exact Kd.R_mono (Kd.R_far (p := ⟨gb628, 3, none⟩) (Kd.R_far (p := ⟨gb628, 2, none⟩) (Kd.R_far (p := ⟨gb628, 1, none⟩) (Kd.R_far (p := ⟨gb628, 0, none⟩) (Kd.R_types HO_21.out BK628.out (by decide)) (fun _ hk => hk.2) (.int .i64 t622)) (fun _ hk => hk.2) (.int .i64 t623)) (fun _ hk => hk.2) (.int .i64 t624)) (fun _ hk => hk.2) (.slice Ao103 t625.length co103)) (fun _ hk => ⟨hk.1.1.1, ⟨hk.1.1.2.1, ⟨hk.1.1.2.2.1, ⟨hk.1.1.2.2.2.1, ⟨hk.1.1.2.2.2.2.1, ⟨hk.1.1.2.2.2.2.2, hk.1.2⟩⟩⟩⟩⟩⟩)⟩, ⟨by (with_reducible repeat (first | apply Kd.R_alloc | apply Kd.R_drewN | apply Kd.R_drew)); exact Kd.R_mono (Kd.R_far (p := ⟨gb628, 3, none⟩) (Kd.R_far (p := ⟨gb628, 2, none⟩) (Kd.R_far (p := ⟨gb628, 1, none⟩) (Kd.R_far (p := ⟨gb628, 0, none⟩) (Kd.R_types HO_572003.out BK628.out (by decide)) (fun _ hk => hk.2) (.int .i64 t622)) (fun _ hk => hk.2) (.int .i64 t623)) (fun _ hk => hk.2) (.int .i64 t624)) (fun _ hk => hk.2) (.slice Ao103 t625.length co103)) (fun _ hk => ⟨hk.1.1.1, ⟨hk.1.1.2.1, ⟨hk.1.1.2.2.1, ⟨hk.1.1.2.2.2.1, ⟨hk.1.1.2.2.2.2.1, ⟨hk.1.1.2.2.2.2.2, hk.1.2⟩⟩⟩⟩⟩⟩)⟩, ⟨by (with_reducible repeat (first | apply Kd.R_alloc | apply Kd.R_drewN | apply Kd.R_drew)); exact Kd.R_mono (Kd.R_far (p := ⟨gb628, 3, none⟩) (Kd.R_far (p := ⟨gb628, 2, none⟩) (Kd.R_far (p := ⟨gb628, 1, none⟩) (Kd.R_far (p := ⟨gb628, 0, none⟩) (Kd.R_types HO_579003.out BK628.out (by decide)) (fun _ hk => hk.2) (.int .i64 t622)) (fun _ hk => hk.2) (.int .i64 t623)) (fun _ hk => hk.2) (.int .i64 t624)) (fun _ hk => hk.2) (.slice Ao103 t625.length co103)) (fun _ hk => ⟨hk.1.1.1, ⟨hk.1.1.2.1, ⟨hk.1.1.2.2.1, ⟨hk.1.1.2.2.2.1, ⟨hk.1.1.2.2.2.2.1, ⟨hk.1.1.2.2.2.2.2, hk.1.2⟩⟩⟩⟩⟩⟩)⟩, ⟨by (with_reducible repeat (first | apply Kd.R_alloc | apply Kd.R_drewN | apply Kd.R_drew)); exact Kd.R_mono (Kd.R_far (p := ⟨gb628, 3, none⟩) (Kd.R_far (p := ⟨gb628, 2, none⟩) (Kd.R_far (p := ⟨gb628, 1, none⟩) (Kd.R_far (p := ⟨gb628, 0, none⟩) (Kd.R_types HO_608003.out BK628.out (by decide)) (fun _ hk => hk.2) (.int .i64 t622)) (fun _ hk => hk.2) (.int .i64 t623)) (fun _ hk => hk.2) (.int .i64 t624)) (fun _ hk => hk.2) (.slice Ao103 t625.length co103)) (fun _ hk => ⟨hk.1.1.1, ⟨hk.1.1.2.1, ⟨hk.1.1.2.2.1, ⟨hk.1.1.2.2.2.1, ⟨hk.1.1.2.2.2.2.1, ⟨hk.1.1.2.2.2.2.2, hk.1.2⟩⟩⟩⟩⟩⟩)⟩, ⟨by (with_reducible repeat (first | apply Kd.R_alloc | apply Kd.R_drewN | apply Kd.R_drew)); exact Kd.R_mono (Kd.R_far (p := ⟨gb628, 3, none⟩) (Kd.R_far (p := ⟨gb628, 2, none⟩) (Kd.R_far (p := ⟨gb628, 1, none⟩) (Kd.R_far (p := ⟨gb628, 0, none⟩) (Kd.R_types HO_622003.out BK628.out (by decide)) (fun _ hk => hk.2) (.int .i64 t622)) (fun _ hk => hk.2) (.int .i64 t623)) (fun _ hk => hk.2) (.int .i64 t624)) (fun _ hk => hk.2) (.slice Ao103 t625.length co103)) (fun _ hk => ⟨hk.1.1.1, ⟨hk.1.1.2.1, ⟨hk.1.1.2.2.1, ⟨hk.1.1.2.2.2.1, ⟨hk.1.1.2.2.2.2.1, ⟨hk.1.1.2.2.2.2.2, hk.1.2⟩⟩⟩⟩⟩⟩)⟩, ⟨by (with_reducible repeat (first | apply Kd.R_alloc | apply Kd.R_drewN | apply Kd.R_drew)); exact Kd.R_mono (Kd.R_far (p := ⟨gb628, 3, none⟩) (Kd.R_far (p := ⟨gb628, 2, none⟩) (Kd.R_far (p := ⟨gb628, 1, none⟩) (Kd.R_far (p := ⟨gb628, 0, none⟩) (Kd.R_types HO627.out BK628.out (by decide)) (fun _ hk => hk.2) (.int .i64 t622)) (fun _ hk => hk.2) (.int .i64 t623)) (fun _ hk => hk.2) (.int .i64 t624)) (fun _ hk => hk.2) (.slice Ao103 t625.length co103)) (fun _ hk => ⟨hk.1.1.1.1.1.1.1.2, ⟨hk.1.1.1.1.1.1.2, ⟨hk.1.1.1.1.1.2, ⟨hk.1.1.1.1.2, ⟨hk.1.1.1.2, ⟨hk.1.1.2, hk.1.2⟩⟩⟩⟩⟩⟩)⟩, ⟨bf BK571 NB571_628⟩, ⟨bf BK578 NB578_628⟩, ⟨bf BK607 NB607_628⟩, ⟨bf BK621 NB621_628⟩, ⟨bp BK628⟩, ⟨ss40 HI597⟩, ⟨ss40 HI598⟩, ⟨sb40⟩⟩
     case round =>
      clear H'
      obtain ⟨x26_2, x599000_2, rfl, HA, HK2, HO_15, HO_16, HO_21, HO_572003, HO_579003, HO_608003, HO_622003, HO_629003, BK571, BK578, BK607, BK621, BK628, HI597, HI598, HB⟩ := hrel
      cases gk with
      | zero => exact absurd HA.out (by simp [gimballaw11_MulSteps.l0])
      | succ k2 =>
       have H := HA.out
       clear HA
       simp only [gimballaw11_MulSteps.l0] at H
       by_cases c104 : x26_2 < (Go.bits .and .i64 a0 7)
       ·
        rw [if_pos c104] at H
        have c104b0 : decide (x26_2 < (Go.bits .and .i64 a0 7)) = true := decide_eq_true c104
        clear c104
        have H' := Aside0.mk H
        clear H
        go_wp2
        go_loopg [27] k2 (fun kq v27 w' => ∃ (x27_3 : Int) (x599000_3 : Int), v27 = .int .i64 x27_3 ∧ Aside0 (gimballaw11_MulSteps.l1 kq (Go.bits .and .i64 a0 7) (Go.bits .and .i64 a1 7) (Go.bits .and .i64 a2 7) l3 a4 a5 t585 t594 t608 x26_2 x27_3 t565 t566 t567 t568 t572 t573 t574 t575 t620 x599000_3 t599 t600 t601 t602 t613 t614 t615 t616 t622 t623 t624 t625 = some r) ∧ Aside0 (kq ≤ k2) ∧ Aside0 (Kd.R (Kd.int .u64) 33 w' w.heap.size (fun k_ => some k_ ≠ ((.slice Ao57 t594.length co57) : Value).ownBlock ∧ some k_ ≠ (v609 : Value).ownBlock ∧ some k_ ≠ ((.slice Ao25 t568.length co25) : Value).ownBlock ∧ some k_ ≠ ((.slice Ao30 t575.length co30) : Value).ownBlock ∧ some k_ ≠ ((.slice Ao52 t602.length co52) : Value).ownBlock ∧ some k_ ≠ ((.slice Ao66 t616.length co66) : Value).ownBlock ∧ some k_ ≠ ((.slice Ao103 t625.length co103) : Value).ownBlock) (.slice Ao54 t585.length co54) t585) ∧ Aside0 (Kd.R (Kd.int .u64) 33 w' w.heap.size (fun k_ => some k_ ≠ ((.slice Ao54 t585.length co54) : Value).ownBlock ∧ some k_ ≠ (v609 : Value).ownBlock ∧ some k_ ≠ ((.slice Ao25 t568.length co25) : Value).ownBlock ∧ some k_ ≠ ((.slice Ao30 t575.length co30) : Value).ownBlock ∧ some k_ ≠ ((.slice Ao52 t602.length co52) : Value).ownBlock ∧ some k_ ≠ ((.slice Ao66 t616.length co66) : Value).ownBlock ∧ some k_ ≠ ((.slice Ao103 t625.length co103) : Value).ownBlock) (.slice Ao57 t594.length co57) t594) ∧ Aside0 (Kd.R (Kd.int .u64) 33 w' w.heap.size (fun k_ => some k_ ≠ ((.slice Ao54 t585.length co54) : Value).ownBlock ∧ some k_ ≠ ((.slice Ao57 t594.length co57) : Value).ownBlock ∧ some k_ ≠ ((.slice Ao25 t568.length co25) : Value).ownBlock ∧ some k_ ≠ ((.slice Ao30 t575.length co30) : Value).ownBlock ∧ some k_ ≠ ((.slice Ao52 t602.length co52) : Value).ownBlock ∧ some k_ ≠ ((.slice Ao66 t616.length co66) : Value).ownBlock ∧ some k_ ≠ ((.slice Ao103 t625.length co103) : Value).ownBlock) v609 t608) ∧ Aside0 (Kd.R (Kd.int .u64) 33 w' w.heap.size (fun k_ => some k_ ≠ ((.slice Ao54 t585.length co54) : Value).ownBlock ∧ some k_ ≠ ((.slice Ao57 t594.length co57) : Value).ownBlock ∧ some k_ ≠ (v609 : Value).ownBlock ∧ some k_ ≠ ((.slice Ao30 t575.length co30) : Value).ownBlock ∧ some k_ ≠ ((.slice Ao52 t602.length co52) : Value).ownBlock ∧ some k_ ≠ ((.slice Ao66 t616.length co66) : Value).ownBlock ∧ some k_ ≠ ((.slice Ao103 t625.length co103) : Value).ownBlock) (.slice Ao25 t568.length co25) t568) ∧ Aside0 (Kd.R (Kd.int .u64) 33 w' w.heap.size (fun k_ => some k_ ≠ ((.slice Ao54 t585.length co54) : Value).ownBlock ∧ some k_ ≠ ((.slice Ao57 t594.length co57) : Value).ownBlock ∧ some k_ ≠ (v609 : Value).ownBlock ∧ some k_ ≠ ((.slice Ao25 t568.length co25) : Value).ownBlock ∧ some k_ ≠ ((.slice Ao52 t602.length co52) : Value).ownBlock ∧ some k_ ≠ ((.slice Ao66 t616.length co66) : Value).ownBlock ∧ some k_ ≠ ((.slice Ao103 t625.length co103) : Value).ownBlock) (.slice Ao30 t575.length co30) t575) ∧ Aside0 (Kd.R (Kd.int .u64) 33 w' w.heap.size (fun k_ => some k_ ≠ ((.slice Ao54 t585.length co54) : Value).ownBlock ∧ some k_ ≠ ((.slice Ao57 t594.length co57) : Value).ownBlock ∧ some k_ ≠ (v609 : Value).ownBlock ∧ some k_ ≠ ((.slice Ao25 t568.length co25) : Value).ownBlock ∧ some k_ ≠ ((.slice Ao30 t575.length co30) : Value).ownBlock ∧ some k_ ≠ ((.slice Ao66 t616.length co66) : Value).ownBlock ∧ some k_ ≠ ((.slice Ao103 t625.length co103) : Value).ownBlock) (.slice Ao52 t602.length co52) t602) ∧ Aside0 (Kd.R (Kd.int .u64) 33 w' w.heap.size (fun k_ => some k_ ≠ ((.slice Ao54 t585.length co54) : Value).ownBlock ∧ some k_ ≠ ((.slice Ao57 t594.length co57) : Value).ownBlock ∧ some k_ ≠ (v609 : Value).ownBlock ∧ some k_ ≠ ((.slice Ao25 t568.length co25) : Value).ownBlock ∧ some k_ ≠ ((.slice Ao30 t575.length co30) : Value).ownBlock ∧ some k_ ≠ ((.slice Ao52 t602.length co52) : Value).ownBlock ∧ some k_ ≠ ((.slice Ao103 t625.length co103) : Value).ownBlock) (.slice Ao66 t616.length co66) t616) ∧ Aside0 (Kd.R (Kd.int .u64) 33 w' w.heap.size (fun k_ => some k_ ≠ ((.slice Ao54 t585.length co54) : Value).ownBlock ∧ some k_ ≠ ((.slice Ao57 t594.length co57) : Value).ownBlock ∧ some k_ ≠ (v609 : Value).ownBlock ∧ some k_ ≠ ((.slice Ao25 t568.length co25) : Value).ownBlock ∧ some k_ ≠ ((.slice Ao30 t575.length co30) : Value).ownBlock ∧ some k_ ≠ ((.slice Ao52 t602.length co52) : Value).ownBlock ∧ some k_ ≠ ((.slice Ao66 t616.length co66) : Value).ownBlock) (.slice Ao103 t625.length co103) t625) ∧ Aside0 (w'.heap[gb571]? = some (.cells #[.int .i64 t565, .int .i64 t566, .int .i64 t567, (.slice Ao25 t568.length co25)] 25 (0, 0))) ∧ Aside0 (w'.heap[gb578]? = some (.cells #[.int .i64 t572, .int .i64 t573, .int .i64 t574, (.slice Ao30 t575.length co30)] 25 (0, 0))) ∧ Aside0 (w'.heap[gb607]? = some (.cells #[.int .i64 t599, .int .i64 t600, .int .i64 t601, (.slice Ao52 t602.length co52)] 25 (0, 0))) ∧ Aside0 (w'.heap[gb621]? = some (.cells #[.int .i64 t613, .int .i64 t614, .int .i64 t615, (.slice Ao66 t616.length co66)] 25 (0, 0))) ∧ Aside0 (w'.heap[gb628]? = some (.cells #[.int .i64 t622, .int .i64 t623, .int .i64 t624, (.slice Ao103 t625.length co103)] 25 (0, 0))) ∧ Aside0 (IsS40 w w' gb597 t620) ∧ Aside0 (IsS40 w w' gb598 x599000_3) ∧ Aside0 (Below w.heap.size w w'))
        case atStart => exact ⟨(0), (x599000_2), (by first | rfl | (simp; done) | (simp [*]; done)), H', ⟨Nat.le_refl _⟩, ⟨kr HO_15⟩, ⟨kr HO_16⟩, ⟨kr HO_21⟩, ⟨kr HO_572003⟩, ⟨kr HO_579003⟩, ⟨kr HO_608003⟩, ⟨kr HO_622003⟩, ⟨kr HO_629003⟩, ⟨kb BK571⟩, ⟨kb BK578⟩, ⟨kb BK607⟩, ⟨kb BK621⟩, ⟨kb BK628⟩, ⟨ss40 HI597⟩, ⟨ss40 HI598⟩, ⟨sb40⟩⟩
        case round =>
         clear H'
         obtain ⟨x27_3, x599000_3, rfl, HA, HK3, HO_15, HO_16, HO_21, HO_572003, HO_579003, HO_608003, HO_622003, HO_629003, BK571, BK578, BK607, BK621, BK628, HI597, HI598, HB⟩ := hrel
         cases gk with
         | zero => exact absurd HA.out (by simp [gimballaw11_MulSteps.l1])
         | succ k3 =>
          have H := HA.out
          clear HA
          simp only [gimballaw11_MulSteps.l1] at H
          by_cases c105 : x27_3 < (Go.bits .and .i64 a2 7)
          rotate_left
          ·
           rw [if_neg c105] at H
           have c105b0 : decide (x27_3 < (Go.bits .and .i64 a2 7)) = false := decide_eq_false c105
           clear c105
           have H' := Aside0.mk H
           clear H
           go_wp2
           go_roundg k3
           case measure => have := HJ19.out; have := HK2.out; have := HK3.out; omega
           case rel => exact ⟨(wrap64 (x26_2 + 1)), (x599000_3), (by first | rfl | (simp; done) | (simp [*]; done)), H', ⟨by have := HJ19.out; have := HK2.out; have := HK3.out; omega⟩, ⟨kr HO_15⟩, ⟨kr HO_16⟩, ⟨kr HO_21⟩, ⟨kr HO_572003⟩, ⟨kr HO_579003⟩, ⟨kr HO_608003⟩, ⟨kr HO_622003⟩, ⟨kr HO_629003⟩, ⟨kb BK571⟩, ⟨kb BK578⟩, ⟨kb BK607⟩, ⟨kb BK621⟩, ⟨kb BK628⟩, ⟨ss40 HI597⟩, ⟨ss40 HI598⟩, ⟨sb40⟩⟩
          rw [if_pos c105] at H
          have c105b0 : decide (x27_3 < (Go.bits .and .i64 a2 7)) = true := decide_eq_true c105
          clear c105
          obtain ⟨t629, A1060, H⟩ := Option.bind_eq_some_iff.mp H
          (try dsimp -simprocs only at H)
          have A106 := Aside0.mk A1060
          clear A1060
          obtain ⟨t632, A1070, H⟩ := Option.bind_eq_some_iff.mp H
          (try dsimp -simprocs only at H)
          have A107 := Aside0.mk A1070
          clear A1070
          obtain ⟨⟨t635, t636, t637⟩, A1080, H⟩ := Option.bind_eq_some_iff.mp H
          (try dsimp -simprocs only at H)
          have A108 := Aside0.mk A1080
          clear A1080
          obtain ⟨t638, A1090, H⟩ := Option.bind_eq_some_iff.mp H
          (try dsimp -simprocs only at H)
          have A109 := Aside0.mk A1090
          clear A1090
          by_cases c110 : t638 = t635
          rotate_left
          ·
           rw [if_neg c110] at H
           have c110b0 : (t638 == t635) = false := beq_eq_false_iff_ne.mpr c110
           have c110b1 : (t638 != t635) = true := bne_iff_ne.mpr c110
           rw [hLW] at H
           exact absurd H (by simp)
          rw [if_pos c110] at H
          have c110b0 : (t638 == t635) = true := beq_iff_eq.mpr c110
          have c110b1 : (t638 != t635) = false := bne_eq_false_iff_eq.mpr c110
          clear c110
          have H' := Aside0.mk H
          clear H
          try go_wp2
          refine ax16 (Kd.R_drew HO_15.out) (Kd.R_drew HO_16.out) (Kd.R_drew HO_21.out) (Kd.R_drew HO_572003.out) (Kd.R_drew HO_579003.out) (Kd.R_drew HO_608003.out) (Kd.R_drew HO_622003.out) (Kd.R_drew HO_629003.out) (blk_drew BK571.out) (blk_drew BK578.out) (blk_drew BK607.out) (blk_drew BK621.out) (blk_drew BK628.out) (IsS40.drew HI597.out) (IsS40.drew HI598.out) (below_drew1 HB.out) ?_
          clear HO_15 HO_16 HO_21 HO_572003 HO_579003 HO_608003 HO_622003 HO_629003 BK571 BK578 BK607 BK621 BK628 HI597 HI598 HB
          intro HO_15 HO_16 HO_21 HO_572003 HO_579003 HO_608003 HO_622003 HO_629003 BK571 BK578 BK607 BK621 BK628 HI597 HI598 HB
          refine start_ (n := 13) (S := fun w' => w'.cell? ⟨gb571, 0, none⟩ = some (.int .i64 t565) ∧ w'.cell? ⟨gb571, 1, none⟩ = some (.int .i64 t566) ∧ w'.cell? ⟨gb571, 2, none⟩ = some (.int .i64 t567) ∧ w'.cell? ⟨gb571, 3, none⟩ = some (.slice Ao25 t568.length co25) ∧ w'.cell? ⟨gb628, 0, none⟩ = some (.int .i64 t622) ∧ w'.cell? ⟨gb628, 1, none⟩ = some (.int .i64 t623) ∧ w'.cell? ⟨gb628, 2, none⟩ = some (.int .i64 t624) ∧ w'.cell? ⟨gb628, 3, none⟩ = some (.slice Ao103 t625.length co103)) (ds := []) #[false, false, false, false, false, false, false, false, false, false, false, false, false] (by kernel_rfl) rfl rfl ⟨bk BK571 0, bk BK571 1, bk BK571 2, bk BK571 3, bk BK628 0, bk BK628 1, bk BK628 2, bk BK628 3⟩ (fun hHeld => ?_); refine with_tabW gimballaw11_MulSteps.tab26 gimballaw11_MulSteps.bits26 (fun HT_ HW_ => ?_)
          generalize wr.drew = w111 at HO_15 HO_16 HO_21 HO_572003 HO_579003 HO_608003 HO_622003 HO_629003 BK571 BK578 BK607 BK621 BK628 HI597 HI598 HB hHeld ⊢
          refine pu 0 145 (lm 13 1) HT_ ?_
          refine pu 2 147 (lm 13 5) HT_ ?_
          refine pu 5 150 (lm 13 37) HT_ ?_
          refine ta 1 146 (lm 13 39) HT_ HW_ hHeld ?_
          refine ta 4 149 (lm 13 55) HT_ HW_ hHeld ?_
          refine on 3 (some 148) (lm 13 63) HT_ (fun K hK => ?_)
          refine goes_ Try.func13 (by kernel_rfl) rfl #[.agg #[.int .i64 t565, .int .i64 t566, .int .i64 t567, .slice Ao25 t568.length co25], .int .i64 x26_2] (by rfl) rfl rfl ga ?_
          with_reducible refine (gimballaw11_row.calls k3 t565 t566 t567 _ _ t568 x26_2 t629 _ ?side1 ?side2 A106.out).mono ?_
          (case side1 => exact ks HO_572003)
          (case side2 => exact (Kd.R_reads' HO_572003.out).2.1)
          rintro e w112 ⟨v630, rfl, ho0, hb⟩
          refine ⟨_, rfl, ?_⟩
          refine ax17 (Kd.R_elder' (kr HO_15) (Kd.R_base ho0) hb) (Kd.R_elder' (kr HO_16) (Kd.R_base ho0) hb) (Kd.R_elder' (kr HO_21) (Kd.R_base ho0) hb) (Kd.R_elder' (kr HO_572003) (Kd.R_base ho0) hb) (Kd.R_elder' (kr HO_579003) (Kd.R_base ho0) hb) (Kd.R_elder' (kr HO_608003) (Kd.R_base ho0) hb) (Kd.R_elder' (kr HO_622003) (Kd.R_base ho0) hb) (Kd.R_elder' (kr HO_629003) (Kd.R_base ho0) hb) (Kd.R_lower (Kd.R_new' (Kd.R_new' (Kd.R_new' (Kd.R_new' (Kd.R_new' (Kd.R_new' (Kd.R_new' (Kd.R_new' ho0 (Kd.R_lt (kr HO_15))) (Kd.R_lt (kr HO_16))) (Kd.R_lt (kr HO_21))) (Kd.R_lt (kr HO_572003))) (Kd.R_lt (kr HO_579003))) (Kd.R_lt (kr HO_608003))) (Kd.R_lt (kr HO_622003))) (Kd.R_lt (kr HO_629003))) (below_size sb40)) (bb BK571 hb) (bb BK578 hb) (bb BK607 hb) (bb BK621 hb) (bb BK628 hb) (IsS40.below (ss40 HI597) hb) (IsS40.below (ss40 HI598) hb) (below_step sb40 hb) ?_
          clear HO_15 HO_16 HO_21 HO_572003 HO_579003 HO_608003 HO_622003 HO_629003 BK571 BK578 BK607 BK621 BK628 HI597 HI598 HB
          intro HO_15 HO_16 HO_21 HO_572003 HO_579003 HO_608003 HO_622003 HO_629003 HO631 BK571 BK578 BK607 BK621 BK628 HI597 HI598 HB
          (try clear hb)
          (try clear hb2)
          (try clear hk)
          (try clear hi)
          (try clear ho0)
          refine hK.out _ _ ⟨bk BK571 0, bk BK571 1, bk BK571 2, bk BK571 3, bk BK628 0, bk BK628 1, bk BK628 2, bk BK628 3⟩ (fun hHeld => ?_)
          clear hK K
          refine no 148 ?_
          refine on 6 (some 151) (lm 13 127) HT_ (fun K hK => ?_)
          refine goes_ Try.func13 (by kernel_rfl) rfl #[.agg #[.int .i64 t622, .int .i64 t623, .int .i64 t624, .slice Ao103 t625.length co103], .int .i64 x27_3] (by rfl) rfl rfl ga ?_
          with_reducible refine (gimballaw11_row.calls k3 t622 t623 t624 _ _ t625 x27_3 t632 _ ?side1 ?side2 A107.out).mono ?_
          (case side1 => exact ks HO_629003)
          (case side2 => exact (Kd.R_reads' HO_629003.out).2.1)
          rintro e w113 ⟨v633, rfl, ho0, hb⟩
          refine ⟨_, rfl, ?_⟩
          refine ax18 (Kd.R_elder' (kr HO_15) (Kd.R_base ho0) hb) (Kd.R_elder' (kr HO_16) (Kd.R_base ho0) hb) (Kd.R_elder' (kr HO_21) (Kd.R_base ho0) hb) (Kd.R_elder' (kr HO_572003) (Kd.R_base ho0) hb) (Kd.R_elder' (kr HO_579003) (Kd.R_base ho0) hb) (Kd.R_elder' (kr HO_608003) (Kd.R_base ho0) hb) (Kd.R_elder' (kr HO_622003) (Kd.R_base ho0) hb) (Kd.R_elder' (kr HO_629003) (Kd.R_base ho0) hb) (Kd.R_elder' (kr HO631) (Kd.R_base ho0) hb) (Kd.R_lower (Kd.R_new' (Kd.R_new' (Kd.R_new' (Kd.R_new' (Kd.R_new' (Kd.R_new' (Kd.R_new' (Kd.R_new' (Kd.R_new' ho0 (Kd.R_lt (kr HO_15))) (Kd.R_lt (kr HO_16))) (Kd.R_lt (kr HO_21))) (Kd.R_lt (kr HO_572003))) (Kd.R_lt (kr HO_579003))) (Kd.R_lt (kr HO_608003))) (Kd.R_lt (kr HO_622003))) (Kd.R_lt (kr HO_629003))) (Kd.R_lt (kr HO631))) (below_size sb40)) (bb BK571 hb) (bb BK578 hb) (bb BK607 hb) (bb BK621 hb) (bb BK628 hb) (IsS40.below (ss40 HI597) hb) (IsS40.below (ss40 HI598) hb) (below_step sb40 hb) ?_
          clear HO_15 HO_16 HO_21 HO_572003 HO_579003 HO_608003 HO_622003 HO_629003 HO631 BK571 BK578 BK607 BK621 BK628 HI597 HI598 HB
          intro HO_15 HO_16 HO_21 HO_572003 HO_579003 HO_608003 HO_622003 HO_629003 HO631 HO634 BK571 BK578 BK607 BK621 BK628 HI597 HI598 HB
          (try clear hb)
          (try clear hb2)
          (try clear hk)
          (try clear hi)
          (try clear ho0)
          obtain ⟨Ao114, co114, eo114⟩ := Kd.R_slice HO631.out
          (first | subst eo114 | (injection eo114 with f1_ f2_ f3_; have f4_ := f1_.symm; have f5_ := f3_.symm; clear f1_ f2_ f3_; subst f4_; subst f5_))
          obtain ⟨Ao115, co115, eo115⟩ := Kd.R_slice HO634.out
          (first | subst eo115 | (injection eo115 with f1_ f2_ f3_; have f4_ := f1_.symm; have f5_ := f3_.symm; clear f1_ f2_ f3_; subst f4_; subst f5_))
          refine hK.out _ _ ⟨bk BK571 0, bk BK571 1, bk BK571 2, bk BK571 3, bk BK628 0, bk BK628 1, bk BK628 2, bk BK628 3⟩ (fun hHeld => ?_)
          clear hK K
          refine no 151 ?_
          refine on 7 (some 152) (lm 13 255) HT_ (fun K hK => ?_)
          refine goes_ Try.func16 (by kernel_rfl) rfl #[.pointer (some ⟨gb598, 0, none⟩), .slice Ao114 t629.length co114, .slice Ao115 t632.length co115] (by rfl) rfl rfl ga ?_
          with_reducible refine (vec_Dot.calls k3 gb598 x599000_3 _ _ t629 _ _ t632 t635 t636 t637 w _ ?side1 ?side2 ?side3 ?side4 ?side5 ?side6 ?side7 ?side8 A108.out).mono ?_
          (case side1 => repeat (first | (with_reducible first | exact HI598.out | apply IsS40.alloc | apply IsS40.drewN | apply IsS40.drew | apply IsS40.set_0 | refine IsS40.far ?_ NB598_571.out _ | refine IsS40.far ?_ NB598_578.out _ | refine IsS40.far ?_ NB598_607.out _ | refine IsS40.far ?_ NB598_621.out _ | refine IsS40.far ?_ NB598_628.out _ | refine IsS40.far ?_ NB598_597.out _) | exact HI598.out))
          (case side2 => repeat (first | (with_reducible first | exact HB.out | apply below_alloc | apply pw_below_drewN | apply below_drew1 | refine below_set ?_ (IsS40.ge HI597.out) | refine below_set ?_ (IsS40.ge HI598.out) | refine below_set ?_ GE571.out | refine below_set ?_ GE578.out | refine below_set ?_ GE607.out | refine below_set ?_ GE621.out | refine below_set ?_ GE628.out) | exact HB.out))
          (case side3 => exact ks HO631)
          (case side4 => exact (Kd.R_reads' HO631.out).2.1)
          (case side5 => exact far_slice (IsS40.own_ne HI598.out HO631.out (by decide)))
          (case side6 => exact ks HO634)
          (case side7 => exact (Kd.R_reads' HO634.out).2.1)
          (case side8 => exact far_slice (IsS40.own_ne HI598.out HO634.out (by decide)))
          rintro e w116 ⟨rfl, hi, hb, hk⟩
          refine ⟨_, rfl, ?_⟩
          refine ax18 (Kd.R_mono (Kd.R_keep (IsS40.apart (show IsS40 w _ gb598 x599000_3 from ss40 HI598) (kr HO_15) (by decide)) hk (fun _ h => h.2)) (fun _ h => h.1)) (Kd.R_mono (Kd.R_keep (IsS40.apart (show IsS40 w _ gb598 x599000_3 from ss40 HI598) (kr HO_16) (by decide)) hk (fun _ h => h.2)) (fun _ h => h.1)) (Kd.R_mono (Kd.R_keep (IsS40.apart (show IsS40 w _ gb598 x599000_3 from ss40 HI598) (kr HO_21) (by decide)) hk (fun _ h => h.2)) (fun _ h => h.1)) (Kd.R_mono (Kd.R_keep (IsS40.apart (show IsS40 w _ gb598 x599000_3 from ss40 HI598) (kr HO_572003) (by decide)) hk (fun _ h => h.2)) (fun _ h => h.1)) (Kd.R_mono (Kd.R_keep (IsS40.apart (show IsS40 w _ gb598 x599000_3 from ss40 HI598) (kr HO_579003) (by decide)) hk (fun _ h => h.2)) (fun _ h => h.1)) (Kd.R_mono (Kd.R_keep (IsS40.apart (show IsS40 w _ gb598 x599000_3 from ss40 HI598) (kr HO_608003) (by decide)) hk (fun _ h => h.2)) (fun _ h => h.1)) (Kd.R_mono (Kd.R_keep (IsS40.apart (show IsS40 w _ gb598 x599000_3 from ss40 HI598) (kr HO_622003) (by decide)) hk (fun _ h => h.2)) (fun _ h => h.1)) (Kd.R_mono (Kd.R_keep (IsS40.apart (show IsS40 w _ gb598 x599000_3 from ss40 HI598) (kr HO_629003) (by decide)) hk (fun _ h => h.2)) (fun _ h => h.1)) (KeepBut.blk hk (g' := gb571) (o := .cells #[.int .i64 t565, .int .i64 t566, .int .i64 t567, .slice Ao25 t568.length co25] 25 (0, 0)) (kb BK571) NB571_598.out (by simp)) (KeepBut.blk hk (g' := gb578) (o := .cells #[.int .i64 t572, .int .i64 t573, .int .i64 t574, .slice Ao30 t575.length co30] 25 (0, 0)) (kb BK578) NB578_598.out (by simp)) (KeepBut.blk hk (g' := gb607) (o := .cells #[.int .i64 t599, .int .i64 t600, .int .i64 t601, .slice Ao52 t602.length co52] 25 (0, 0)) (kb BK607) NB607_598.out (by simp)) (KeepBut.blk hk (g' := gb621) (o := .cells #[.int .i64 t613, .int .i64 t614, .int .i64 t615, .slice Ao66 t616.length co66] 25 (0, 0)) (kb BK621) NB621_598.out (by simp)) (KeepBut.blk hk (g' := gb628) (o := .cells #[.int .i64 t622, .int .i64 t623, .int .i64 t624, .slice Ao103 t625.length co103] 25 (0, 0)) (kb BK628) NB628_598.out (by simp)) ((show IsS40 w _ gb597 t620 from ⟨KeepBut.blk hk (show IsS40 w _ gb597 t620 from ss40 HI597).1 NB597_598.out (by simp), (show IsS40 w _ gb597 t620 from ss40 HI597).2⟩)) (Kd.R_mono (Kd.R_keep (IsS40.apart (show IsS40 w _ gb598 x599000_3 from ss40 HI598) (kr HO631) (by decide)) hk (fun _ h => h.2)) (fun _ h => h.1)) (Kd.R_mono (Kd.R_keep (IsS40.apart (show IsS40 w _ gb598 x599000_3 from ss40 HI598) (kr HO634) (by decide)) hk (fun _ h => h.2)) (fun _ h => h.1)) hb hi ?_
          clear HO_15 HO_16 HO_21 HO_572003 HO_579003 HO_608003 HO_622003 HO_629003 BK571 BK578 BK607 BK621 BK628 HI597 HO631 HO634 HB HI598
          intro HO_15 HO_16 HO_21 HO_572003 HO_579003 HO_608003 HO_622003 HO_629003 BK571 BK578 BK607 BK621 BK628 HI597 HO631 HO634 HB HI598
          (try clear hb)
          (try clear hb2)
          (try clear hk)
          (try clear hi)
          refine hK.out _ _ ⟨bk BK571 0, bk BK571 1, bk BK571 2, bk BK571 3, bk BK628 0, bk BK628 1, bk BK628 2, bk BK628 3⟩ (fun hHeld => ?_)
          clear hK K
          refine no 152 ?_
          refine pu 8 144 (lm 13 511) HT_ ?_
          refine pu 9 153 (lm 13 1023) HT_ ?_
          refine pu 10 154 (lm 13 2047) HT_ ?_
          refine pu 11 28 (lm 13 4095) HT_ ?_
          refine pu 12 29 (lm 13 8191) HT_ ?_
          refine done_ (done_of HT_.out (by kernel_rfl)) ?_
          have hnb117 := NB607_571.out
          have hnc117 := NB571_607.out
          have hnb118 := NB607_578.out
          have hnc118 := NB578_607.out
          have hnb119 := NB607_621.out
          have hnc119 := NB621_607.out
          have hnb120 := NB607_628.out
          have hnc120 := NB628_607.out
          have hnb121 := NB607_597.out
          have hnc121 := NB597_607.out
          have hnb122 := NB607_598.out
          have hnc122 := NB598_607.out
          have hcz123_0 := bc BK607 0 rfl
          have hcz123_1 := bc BK607 1 rfl
          have hcz123_2 := bc BK607 2 rfl
          have hcz123_3 := bc BK607 3 rfl
          have hfz123_0 := blk_frozen BK607.out 0
          have hfz123_1 := blk_frozen BK607.out 1
          have hfz123_2 := blk_frozen BK607.out 2
          have hfz123_3 := blk_frozen BK607.out 3
          try go_wp2_with (first | ((with_reducible refine gate_callee (f := 17) rfl ?_); refine goesL_ (some 158) rfl rfl Try.func17 (by kernel_rfl) rfl #[.agg #[.int .i64 t599, .int .i64 t600, .int .i64 t601, .slice Ao52 t602.length co52], .int .i64 x26_2, .int .i64 x27_3] rfl ga ?_; (with_reducible refine (mat_Matrix_At.calls t599 t600 t601 _ _ t602 x26_2 x27_3 t638 _ ?side1 ?side2 A109.out).mono ?_); (case side1 => exact ks HO_608003); (case side2 => exact (Kd.R_reads' HO_608003.out).2.1); rintro e w124 ⟨rfl, hb⟩; refine ⟨_, rfl, ?_⟩; refine ax18 (Kd.R_below (kr HO_15) hb) (Kd.R_below (kr HO_16) hb) (Kd.R_below (kr HO_21) hb) (Kd.R_below (kr HO_572003) hb) (Kd.R_below (kr HO_579003) hb) (Kd.R_below (kr HO_608003) hb) (Kd.R_below (kr HO_622003) hb) (Kd.R_below (kr HO_629003) hb) (Kd.R_below (kr HO631) hb) (Kd.R_below (kr HO634) hb) (bb BK571 hb) (bb BK578 hb) (bb BK607 hb) (bb BK621 hb) (bb BK628 hb) (IsS40.below (ss40 HI597) hb) (IsS40.below (ss40 HI598) hb) (below_step sb40 hb) ?_; clear HO_15; clear HO_16; clear HO_21; clear HO_572003; clear HO_579003; clear HO_608003; clear HO_622003; clear HO_629003; clear HO631; clear HO634; clear BK571; clear BK578; clear BK607; clear BK621; clear BK628; clear HI597; clear HI598; clear HB; intro HO_15 HO_16 HO_21 HO_572003 HO_579003 HO_608003 HO_622003 HO_629003 HO631 HO634 BK571 BK578 BK607 BK621 BK628 HI597 HI598 HB; (try clear hb)))
          go_roundg k3
          case measure => have := HJ19.out; have := HK2.out; have := HK3.out; omega
          case rel => exact ⟨(wrap64 (x27_3 + 1)), (t637), (by first | rfl | (simp; done) | (simp [*]; done)), H', ⟨by have := HJ19.out; have := HK2.out; have := HK3.out; omega⟩, ⟨by (with_reducible repeat (first | apply Kd.R_alloc | apply Kd.R_drewN | apply Kd.R_drew)); exact Kd.R_mono HO_15.out (fun _ hk => ⟨hk.1.1.1, ⟨hk.1.1.2.1, ⟨hk.1.1.2.2.1, ⟨hk.1.1.2.2.2.1, ⟨hk.1.1.2.2.2.2.1, ⟨hk.1.1.2.2.2.2.2.1, hk.1.1.2.2.2.2.2.2⟩⟩⟩⟩⟩⟩)⟩, ⟨by (with_reducible repeat (first | apply Kd.R_alloc | apply Kd.R_drewN | apply Kd.R_drew)); exact Kd.R_mono HO_16.out (fun _ hk => ⟨hk.1.1.1, ⟨hk.1.1.2.1, ⟨hk.1.1.2.2.1, ⟨hk.1.1.2.2.2.1, ⟨hk.1.1.2.2.2.2.1, ⟨hk.1.1.2.2.2.2.2.1, hk.1.1.2.2.2.2.2.2⟩⟩⟩⟩⟩⟩)⟩, ⟨by (with_reducible repeat (first | apply Kd.R_alloc | apply Kd.R_drewN | apply Kd.R_drew)); exact Kd.R_mono HO_21.out (fun _ hk => ⟨hk.1.1.1, ⟨hk.1.1.2.1, ⟨hk.1.1.2.2.1, ⟨hk.1.1.2.2.2.1, ⟨hk.1.1.2.2.2.2.1, ⟨hk.1.1.2.2.2.2.2.1, hk.1.1.2.2.2.2.2.2⟩⟩⟩⟩⟩⟩)⟩, ⟨by (with_reducible repeat (first | apply Kd.R_alloc | apply Kd.R_drewN | apply Kd.R_drew)); exact Kd.R_mono HO_572003.out (fun _ hk => ⟨hk.1.1.1, ⟨hk.1.1.2.1, ⟨hk.1.1.2.2.1, ⟨hk.1.1.2.2.2.1, ⟨hk.1.1.2.2.2.2.1, ⟨hk.1.1.2.2.2.2.2.1, hk.1.1.2.2.2.2.2.2⟩⟩⟩⟩⟩⟩)⟩, ⟨by (with_reducible repeat (first | apply Kd.R_alloc | apply Kd.R_drewN | apply Kd.R_drew)); exact Kd.R_mono HO_579003.out (fun _ hk => ⟨hk.1.1.1, ⟨hk.1.1.2.1, ⟨hk.1.1.2.2.1, ⟨hk.1.1.2.2.2.1, ⟨hk.1.1.2.2.2.2.1, ⟨hk.1.1.2.2.2.2.2.1, hk.1.1.2.2.2.2.2.2⟩⟩⟩⟩⟩⟩)⟩, ⟨by (with_reducible repeat (first | apply Kd.R_alloc | apply Kd.R_drewN | apply Kd.R_drew)); exact Kd.R_mono HO_608003.out (fun _ hk => ⟨hk.1.1.1, ⟨hk.1.1.2.1, ⟨hk.1.1.2.2.1, ⟨hk.1.1.2.2.2.1, ⟨hk.1.1.2.2.2.2.1, ⟨hk.1.1.2.2.2.2.2.1, hk.1.1.2.2.2.2.2.2⟩⟩⟩⟩⟩⟩)⟩, ⟨by (with_reducible repeat (first | apply Kd.R_alloc | apply Kd.R_drewN | apply Kd.R_drew)); exact Kd.R_mono HO_622003.out (fun _ hk => ⟨hk.1.1.1, ⟨hk.1.1.2.1, ⟨hk.1.1.2.2.1, ⟨hk.1.1.2.2.2.1, ⟨hk.1.1.2.2.2.2.1, ⟨hk.1.1.2.2.2.2.2.1, hk.1.1.2.2.2.2.2.2⟩⟩⟩⟩⟩⟩)⟩, ⟨by (with_reducible repeat (first | apply Kd.R_alloc | apply Kd.R_drewN | apply Kd.R_drew)); exact Kd.R_mono HO_629003.out (fun _ hk => ⟨hk.1.1.1, ⟨hk.1.1.2.1, ⟨hk.1.1.2.2.1, ⟨hk.1.1.2.2.2.1, ⟨hk.1.1.2.2.2.2.1, ⟨hk.1.1.2.2.2.2.2.1, hk.1.1.2.2.2.2.2.2⟩⟩⟩⟩⟩⟩)⟩, ⟨kb BK571⟩, ⟨kb BK578⟩, ⟨kb BK607⟩, ⟨kb BK621⟩, ⟨kb BK628⟩, ⟨ss40 HI597⟩, ⟨ss40 HI598⟩, ⟨sb40⟩⟩
       ·
        rw [if_neg c104] at H
        have c104b0 : decide (x26_2 < (Go.bits .and .i64 a0 7)) = false := decide_eq_false c104
        clear c104
        have H' := Aside0.mk H
        clear H
        go_wp2
        go_loopg [30] k2 (fun kq v30 w' => ∃ (x30_3 : Int) (x599000_3 : Int), v30 = .int .i64 x30_3 ∧ Aside0 (gimballaw11_MulSteps.l2 kq (Go.bits .and .i64 a0 7) (Go.bits .and .i64 a1 7) (Go.bits .and .i64 a2 7) l3 a4 a5 t585 t594 t608 x30_3 t565 t566 t567 t568 t572 t573 t574 t575 t620 x599000_3 t613 t614 t615 t616 = some r) ∧ Aside0 (kq ≤ k2) ∧ Aside0 (Kd.R (Kd.int .u64) 33 w' w.heap.size (fun k_ => some k_ ≠ ((.slice Ao57 t594.length co57) : Value).ownBlock ∧ some k_ ≠ (v609 : Value).ownBlock ∧ some k_ ≠ ((.slice Ao25 t568.length co25) : Value).ownBlock ∧ some k_ ≠ ((.slice Ao30 t575.length co30) : Value).ownBlock ∧ some k_ ≠ ((.slice Ao52 t602.length co52) : Value).ownBlock ∧ some k_ ≠ ((.slice Ao66 t616.length co66) : Value).ownBlock ∧ some k_ ≠ ((.slice Ao103 t625.length co103) : Value).ownBlock) (.slice Ao54 t585.length co54) t585) ∧ Aside0 (Kd.R (Kd.int .u64) 33 w' w.heap.size (fun k_ => some k_ ≠ ((.slice Ao54 t585.length co54) : Value).ownBlock ∧ some k_ ≠ (v609 : Value).ownBlock ∧ some k_ ≠ ((.slice Ao25 t568.length co25) : Value).ownBlock ∧ some k_ ≠ ((.slice Ao30 t575.length co30) : Value).ownBlock ∧ some k_ ≠ ((.slice Ao52 t602.length co52) : Value).ownBlock ∧ some k_ ≠ ((.slice Ao66 t616.length co66) : Value).ownBlock ∧ some k_ ≠ ((.slice Ao103 t625.length co103) : Value).ownBlock) (.slice Ao57 t594.length co57) t594) ∧ Aside0 (Kd.R (Kd.int .u64) 33 w' w.heap.size (fun k_ => some k_ ≠ ((.slice Ao54 t585.length co54) : Value).ownBlock ∧ some k_ ≠ ((.slice Ao57 t594.length co57) : Value).ownBlock ∧ some k_ ≠ ((.slice Ao25 t568.length co25) : Value).ownBlock ∧ some k_ ≠ ((.slice Ao30 t575.length co30) : Value).ownBlock ∧ some k_ ≠ ((.slice Ao52 t602.length co52) : Value).ownBlock ∧ some k_ ≠ ((.slice Ao66 t616.length co66) : Value).ownBlock ∧ some k_ ≠ ((.slice Ao103 t625.length co103) : Value).ownBlock) v609 t608) ∧ Aside0 (Kd.R (Kd.int .u64) 33 w' w.heap.size (fun k_ => some k_ ≠ ((.slice Ao54 t585.length co54) : Value).ownBlock ∧ some k_ ≠ ((.slice Ao57 t594.length co57) : Value).ownBlock ∧ some k_ ≠ (v609 : Value).ownBlock ∧ some k_ ≠ ((.slice Ao30 t575.length co30) : Value).ownBlock ∧ some k_ ≠ ((.slice Ao52 t602.length co52) : Value).ownBlock ∧ some k_ ≠ ((.slice Ao66 t616.length co66) : Value).ownBlock ∧ some k_ ≠ ((.slice Ao103 t625.length co103) : Value).ownBlock) (.slice Ao25 t568.length co25) t568) ∧ Aside0 (Kd.R (Kd.int .u64) 33 w' w.heap.size (fun k_ => some k_ ≠ ((.slice Ao54 t585.length co54) : Value).ownBlock ∧ some k_ ≠ ((.slice Ao57 t594.length co57) : Value).ownBlock ∧ some k_ ≠ (v609 : Value).ownBlock ∧ some k_ ≠ ((.slice Ao25 t568.length co25) : Value).ownBlock ∧ some k_ ≠ ((.slice Ao52 t602.length co52) : Value).ownBlock ∧ some k_ ≠ ((.slice Ao66 t616.length co66) : Value).ownBlock ∧ some k_ ≠ ((.slice Ao103 t625.length co103) : Value).ownBlock) (.slice Ao30 t575.length co30) t575) ∧ Aside0 (Kd.R (Kd.int .u64) 33 w' w.heap.size (fun k_ => some k_ ≠ ((.slice Ao54 t585.length co54) : Value).ownBlock ∧ some k_ ≠ ((.slice Ao57 t594.length co57) : Value).ownBlock ∧ some k_ ≠ (v609 : Value).ownBlock ∧ some k_ ≠ ((.slice Ao25 t568.length co25) : Value).ownBlock ∧ some k_ ≠ ((.slice Ao30 t575.length co30) : Value).ownBlock ∧ some k_ ≠ ((.slice Ao66 t616.length co66) : Value).ownBlock ∧ some k_ ≠ ((.slice Ao103 t625.length co103) : Value).ownBlock) (.slice Ao52 t602.length co52) t602) ∧ Aside0 (Kd.R (Kd.int .u64) 33 w' w.heap.size (fun k_ => some k_ ≠ ((.slice Ao54 t585.length co54) : Value).ownBlock ∧ some k_ ≠ ((.slice Ao57 t594.length co57) : Value).ownBlock ∧ some k_ ≠ (v609 : Value).ownBlock ∧ some k_ ≠ ((.slice Ao25 t568.length co25) : Value).ownBlock ∧ some k_ ≠ ((.slice Ao30 t575.length co30) : Value).ownBlock ∧ some k_ ≠ ((.slice Ao52 t602.length co52) : Value).ownBlock ∧ some k_ ≠ ((.slice Ao103 t625.length co103) : Value).ownBlock) (.slice Ao66 t616.length co66) t616) ∧ Aside0 (Kd.R (Kd.int .u64) 33 w' w.heap.size (fun k_ => some k_ ≠ ((.slice Ao54 t585.length co54) : Value).ownBlock ∧ some k_ ≠ ((.slice Ao57 t594.length co57) : Value).ownBlock ∧ some k_ ≠ (v609 : Value).ownBlock ∧ some k_ ≠ ((.slice Ao25 t568.length co25) : Value).ownBlock ∧ some k_ ≠ ((.slice Ao30 t575.length co30) : Value).ownBlock ∧ some k_ ≠ ((.slice Ao52 t602.length co52) : Value).ownBlock ∧ some k_ ≠ ((.slice Ao66 t616.length co66) : Value).ownBlock) (.slice Ao103 t625.length co103) t625) ∧ Aside0 (w'.heap[gb571]? = some (.cells #[.int .i64 t565, .int .i64 t566, .int .i64 t567, (.slice Ao25 t568.length co25)] 25 (0, 0))) ∧ Aside0 (w'.heap[gb578]? = some (.cells #[.int .i64 t572, .int .i64 t573, .int .i64 t574, (.slice Ao30 t575.length co30)] 25 (0, 0))) ∧ Aside0 (w'.heap[gb607]? = some (.cells #[.int .i64 t599, .int .i64 t600, .int .i64 t601, (.slice Ao52 t602.length co52)] 25 (0, 0))) ∧ Aside0 (w'.heap[gb621]? = some (.cells #[.int .i64 t613, .int .i64 t614, .int .i64 t615, (.slice Ao66 t616.length co66)] 25 (0, 0))) ∧ Aside0 (w'.heap[gb628]? = some (.cells #[.int .i64 t622, .int .i64 t623, .int .i64 t624, (.slice Ao103 t625.length co103)] 25 (0, 0))) ∧ Aside0 (IsS40 w w' gb597 t620) ∧ Aside0 (IsS40 w w' gb598 x599000_3) ∧ Aside0 (Below w.heap.size w w'))
        case atStart => exact ⟨(0), (x599000_2), (by first | rfl | (simp; done) | (simp [*]; done)), H', ⟨Nat.le_refl _⟩, ⟨kr HO_15⟩, ⟨kr HO_16⟩, ⟨kr HO_21⟩, ⟨kr HO_572003⟩, ⟨kr HO_579003⟩, ⟨kr HO_608003⟩, ⟨kr HO_622003⟩, ⟨kr HO_629003⟩, ⟨kb BK571⟩, ⟨kb BK578⟩, ⟨kb BK607⟩, ⟨kb BK621⟩, ⟨kb BK628⟩, ⟨ss40 HI597⟩, ⟨ss40 HI598⟩, ⟨sb40⟩⟩
        case round =>
         clear H'
         obtain ⟨x30_3, x599000_3, rfl, HA, HK3, HO_15, HO_16, HO_21, HO_572003, HO_579003, HO_608003, HO_622003, HO_629003, BK571, BK578, BK607, BK621, BK628, HI597, HI598, HB⟩ := hrel
         cases gk with
         | zero => exact absurd HA.out (by simp [gimballaw11_MulSteps.l2])
         | succ k3 =>
          have H := HA.out
          clear HA
          simp only [gimballaw11_MulSteps.l2] at H
          by_cases c125 : x30_3 < (Go.bits .and .i64 a0 7)
          ·
           rw [if_pos c125] at H
           have c125b0 : decide (x30_3 < (Go.bits .and .i64 a0 7)) = true := decide_eq_true c125
           clear c125
           obtain ⟨t639, A1260, H⟩ := Option.bind_eq_some_iff.mp H
           (try dsimp -simprocs only at H)
           have A126 := Aside0.mk A1260
           clear A1260
           obtain ⟨⟨t642, t643, t644⟩, A1270, H⟩ := Option.bind_eq_some_iff.mp H
           (try dsimp -simprocs only at H)
           have A127 := Aside0.mk A1270
           clear A1270
           by_cases c128 : 0 ≤ x30_3
           rotate_left
           ·
            rw [if_neg c128] at H
            exact absurd H (by simp)
           rw [if_pos c128] at H
           have c128b0 : decide (0 ≤ x30_3) = true := decide_eq_true c128
           clear c128
           by_cases c129 : x30_3 < (t608.length : Int)
           rotate_left
           ·
            rw [if_neg c129] at H
            exact absurd H (by simp)
           rw [if_pos c129] at H
           have c129b0 : decide (x30_3 < (t608.length : Int)) = true := decide_eq_true c129
           clear c129
           by_cases c130 : (rd t608 x30_3) = t642
           rotate_left
           ·
            rw [if_neg c130] at H
            have c130b0 : ((rd t608 x30_3) == t642) = false := beq_eq_false_iff_ne.mpr c130
            have c130b1 : ((rd t608 x30_3) != t642) = true := bne_iff_ne.mpr c130
            rw [hLW] at H
            exact absurd H (by simp)
           rw [if_pos c130] at H
           have c130b0 : ((rd t608 x30_3) == t642) = true := beq_iff_eq.mpr c130
           have c130b1 : ((rd t608 x30_3) != t642) = false := bne_eq_false_iff_eq.mpr c130
           clear c130
           have H' := Aside0.mk H
           clear H
           have hnb131 := NB571_578.out
           have hnc131 := NB578_571.out
           have hnb132 := NB571_607.out
           have hnc132 := NB607_571.out
           have hnb133 := NB571_621.out
           have hnc133 := NB621_571.out
           have hnb134 := NB571_628.out
           have hnc134 := NB628_571.out
           have hnb135 := NB571_597.out
           have hnc135 := NB597_571.out
           have hnb136 := NB571_598.out
           have hnc136 := NB598_571.out
           have hcz137_0 := bc BK571 0 rfl
           have hcz137_1 := bc BK571 1 rfl
           have hcz137_2 := bc BK571 2 rfl
           have hcz137_3 := bc BK571 3 rfl
           have hfz137_0 := blk_frozen BK571.out 0
           have hfz137_1 := blk_frozen BK571.out 1
           have hfz137_2 := blk_frozen BK571.out 2
           have hfz137_3 := blk_frozen BK571.out 3
           go_wp2_with (first | ((with_reducible refine gate_callee (f := 13) rfl ?_); refine goesL_ (some 170) rfl rfl Try.func13 (by kernel_rfl) rfl #[.agg #[.int .i64 t565, .int .i64 t566, .int .i64 t567, .slice Ao25 t568.length co25], .int .i64 x30_3] rfl ga ?_; (with_reducible refine (gimballaw11_row.calls k3 t565 t566 t567 _ _ t568 x30_3 t639 _ ?side1 ?side2 A126.out).mono ?_); (case side1 => exact ks HO_572003); (case side2 => exact (Kd.R_reads' HO_572003.out).2.1); rintro e w138 ⟨v640, rfl, ho0, hb⟩; refine ⟨_, rfl, ?_⟩; refine ax17 (Kd.R_elder' (kr HO_15) (Kd.R_base ho0) hb) (Kd.R_elder' (kr HO_16) (Kd.R_base ho0) hb) (Kd.R_elder' (kr HO_21) (Kd.R_base ho0) hb) (Kd.R_elder' (kr HO_572003) (Kd.R_base ho0) hb) (Kd.R_elder' (kr HO_579003) (Kd.R_base ho0) hb) (Kd.R_elder' (kr HO_608003) (Kd.R_base ho0) hb) (Kd.R_elder' (kr HO_622003) (Kd.R_base ho0) hb) (Kd.R_elder' (kr HO_629003) (Kd.R_base ho0) hb) (Kd.R_lower (Kd.R_new' (Kd.R_new' (Kd.R_new' (Kd.R_new' (Kd.R_new' (Kd.R_new' (Kd.R_new' (Kd.R_new' ho0 (Kd.R_lt (kr HO_15))) (Kd.R_lt (kr HO_16))) (Kd.R_lt (kr HO_21))) (Kd.R_lt (kr HO_572003))) (Kd.R_lt (kr HO_579003))) (Kd.R_lt (kr HO_608003))) (Kd.R_lt (kr HO_622003))) (Kd.R_lt (kr HO_629003))) (below_size sb40)) (bb BK571 hb) (bb BK578 hb) (bb BK607 hb) (bb BK621 hb) (bb BK628 hb) (IsS40.below (ss40 HI597) hb) (IsS40.below (ss40 HI598) hb) (below_step sb40 hb) ?_; clear HO_15; clear HO_16; clear HO_21; clear HO_572003; clear HO_579003; clear HO_608003; clear HO_622003; clear HO_629003; clear BK571; clear BK578; clear BK607; clear BK621; clear BK628; clear HI597; clear HI598; clear HB; intro HO_15 HO_16 HO_21 HO_572003 HO_579003 HO_608003 HO_622003 HO_629003 HO641 BK571 BK578 BK607 BK621 BK628 HI597 HI598 HB; (try clear hb); (try clear ho0); obtain ⟨Ao139, co139, eo139⟩ := Kd.R_slice HO641.out; subst eo139) | ((with_reducible refine gate_callee (f := 16) rfl ?_); refine goesL_ (some 172) rfl rfl Try.func16 (by kernel_rfl) rfl #[.pointer (some ⟨gb598, 0, none⟩), .slice Ao139 t639.length co139, .slice Ao54 t585.length co54] rfl ga ?_; (with_reducible refine (vec_Dot.calls k3 gb598 x599000_3 _ _ t639 _ _ t585 t642 t643 t644 w _ ?side1 ?side2 ?side3 ?side4 ?side5 ?side6 ?side7 ?side8 A127.out).mono ?_); (case side1 => repeat (first | (with_reducible first | exact HI598.out | apply IsS40.alloc | apply IsS40.drewN | apply IsS40.drew | apply IsS40.set_0 | refine IsS40.far ?_ NB598_571.out _ | refine IsS40.far ?_ NB598_578.out _ | refine IsS40.far ?_ NB598_607.out _ | refine IsS40.far ?_ NB598_621.out _ | refine IsS40.far ?_ NB598_628.out _ | refine IsS40.far ?_ NB598_597.out _) | exact HI598.out)); (case side2 => repeat (first | (with_reducible first | exact HB.out | apply below_alloc | apply pw_below_drewN | apply below_drew1 | refine below_set ?_ (IsS40.ge HI597.out) | refine below_set ?_ (IsS40.ge HI598.out) | refine below_set ?_ GE571.out | refine below_set ?_ GE578.out | refine below_set ?_ GE607.out | refine below_set ?_ GE621.out | refine below_set ?_ GE628.out) | exact HB.out)); (case side3 => exact ks HO641); (case side4 => exact (Kd.R_reads' HO641.out).2.1); (case side5 => exact far_slice (IsS40.own_ne HI598.out HO641.out (by decide))); (case side6 => exact ks HO_15); (case side7 => exact (Kd.R_reads' HO_15.out).2.1); (case side8 => exact far_slice (IsS40.own_ne HI598.out HO_15.out (by decide))); rintro e w140 ⟨rfl, hi, hb, hk⟩; refine ⟨_, rfl, ?_⟩; refine ax17 (Kd.R_mono (Kd.R_keep (IsS40.apart (show IsS40 w _ gb598 x599000_3 from ss40 HI598) (kr HO_15) (by decide)) hk (fun _ h => h.2)) (fun _ h => h.1)) (Kd.R_mono (Kd.R_keep (IsS40.apart (show IsS40 w _ gb598 x599000_3 from ss40 HI598) (kr HO_16) (by decide)) hk (fun _ h => h.2)) (fun _ h => h.1)) (Kd.R_mono (Kd.R_keep (IsS40.apart (show IsS40 w _ gb598 x599000_3 from ss40 HI598) (kr HO_21) (by decide)) hk (fun _ h => h.2)) (fun _ h => h.1)) (Kd.R_mono (Kd.R_keep (IsS40.apart (show IsS40 w _ gb598 x599000_3 from ss40 HI598) (kr HO_572003) (by decide)) hk (fun _ h => h.2)) (fun _ h => h.1)) (Kd.R_mono (Kd.R_keep (IsS40.apart (show IsS40 w _ gb598 x599000_3 from ss40 HI598) (kr HO_579003) (by decide)) hk (fun _ h => h.2)) (fun _ h => h.1)) (Kd.R_mono (Kd.R_keep (IsS40.apart (show IsS40 w _ gb598 x599000_3 from ss40 HI598) (kr HO_608003) (by decide)) hk (fun _ h => h.2)) (fun _ h => h.1)) (Kd.R_mono (Kd.R_keep (IsS40.apart (show IsS40 w _ gb598 x599000_3 from ss40 HI598) (kr HO_622003) (by decide)) hk (fun _ h => h.2)) (fun _ h => h.1)) (Kd.R_mono (Kd.R_keep (IsS40.apart (show IsS40 w _ gb598 x599000_3 from ss40 HI598) (kr HO_629003) (by decide)) hk (fun _ h => h.2)) (fun _ h => h.1)) (KeepBut.blk hk (g' := gb571) (o := .cells #[.int .i64 t565, .int .i64 t566, .int .i64 t567, .slice Ao25 t568.length co25] 25 (0, 0)) (kb BK571) NB571_598.out (by simp)) (KeepBut.blk hk (g' := gb578) (o := .cells #[.int .i64 t572, .int .i64 t573, .int .i64 t574, .slice Ao30 t575.length co30] 25 (0, 0)) (kb BK578) NB578_598.out (by simp)) (KeepBut.blk hk (g' := gb607) (o := .cells #[.int .i64 t599, .int .i64 t600, .int .i64 t601, .slice Ao52 t602.length co52] 25 (0, 0)) (kb BK607) NB607_598.out (by simp)) (KeepBut.blk hk (g' := gb621) (o := .cells #[.int .i64 t613, .int .i64 t614, .int .i64 t615, .slice Ao66 t616.length co66] 25 (0, 0)) (kb BK621) NB621_598.out (by simp)) (KeepBut.blk hk (g' := gb628) (o := .cells #[.int .i64 t622, .int .i64 t623, .int .i64 t624, .slice Ao103 t625.length co103] 25 (0, 0)) (kb BK628) NB628_598.out (by simp)) ((show IsS40 w _ gb597 t620 from ⟨KeepBut.blk hk (show IsS40 w _ gb597 t620 from ss40 HI597).1 NB597_598.out (by simp), (show IsS40 w _ gb597 t620 from ss40 HI597).2⟩)) (Kd.R_mono (Kd.R_keep (IsS40.apart (show IsS40 w _ gb598 x599000_3 from ss40 HI598) (kr HO641) (by decide)) hk (fun _ h => h.2)) (fun _ h => h.1)) hb hi ?_; clear HO_15; clear HO_16; clear HO_21; clear HO_572003; clear HO_579003; clear HO_608003; clear HO_622003; clear HO_629003; clear BK571; clear BK578; clear BK607; clear BK621; clear BK628; clear HI597; clear HO641; clear HB; clear HI598; intro HO_15 HO_16 HO_21 HO_572003 HO_579003 HO_608003 HO_622003 HO_629003 BK571 BK578 BK607 BK621 BK628 HI597 HO641 HB HI598; (try clear hb); obtain ⟨Ao141, co141, eo141⟩ := Kd.R_slice HO_21.out; subst eo141; have p645 : 0 ≤ (x30_3 : Int) := of_decide_eq_true (by first | (with_reducible assumption) | assumption); have q645 : x30_3 < (t608.length : Int) := of_decide_eq_true (by first | (with_reducible assumption) | assumption); obtain ⟨ad645, e645, hx645_0⟩ := Kd.at_int (Kd.R_reads' HO_21.out).2.2 x30_3 p645 q645; cases e645; replace p645 := eq_true p645; replace q645 := eq_true q645))
           go_roundg k3
           case measure => have := HJ19.out; have := HK2.out; have := HK3.out; omega
           case rel => exact ⟨(wrap64 (x30_3 + 1)), (t644), (by first | rfl | (simp; done) | (simp [*]; done)), H', ⟨by have := HJ19.out; have := HK2.out; have := HK3.out; omega⟩, ⟨by (with_reducible repeat (first | apply Kd.R_alloc | apply Kd.R_drewN | apply Kd.R_drew)); exact Kd.R_mono HO_15.out (fun _ hk => ⟨hk.1.1, ⟨hk.1.2.1, ⟨hk.1.2.2.1, ⟨hk.1.2.2.2.1, ⟨hk.1.2.2.2.2.1, ⟨hk.1.2.2.2.2.2.1, hk.1.2.2.2.2.2.2⟩⟩⟩⟩⟩⟩)⟩, ⟨by (with_reducible repeat (first | apply Kd.R_alloc | apply Kd.R_drewN | apply Kd.R_drew)); exact Kd.R_mono HO_16.out (fun _ hk => ⟨hk.1.1, ⟨hk.1.2.1, ⟨hk.1.2.2.1, ⟨hk.1.2.2.2.1, ⟨hk.1.2.2.2.2.1, ⟨hk.1.2.2.2.2.2.1, hk.1.2.2.2.2.2.2⟩⟩⟩⟩⟩⟩)⟩, ⟨by (with_reducible repeat (first | apply Kd.R_alloc | apply Kd.R_drewN | apply Kd.R_drew)); exact Kd.R_mono HO_21.out (fun _ hk => ⟨hk.1.1, ⟨hk.1.2.1, ⟨hk.1.2.2.1, ⟨hk.1.2.2.2.1, ⟨hk.1.2.2.2.2.1, ⟨hk.1.2.2.2.2.2.1, hk.1.2.2.2.2.2.2⟩⟩⟩⟩⟩⟩)⟩, ⟨by (with_reducible repeat (first | apply Kd.R_alloc | apply Kd.R_drewN | apply Kd.R_drew)); exact Kd.R_mono HO_572003.out (fun _ hk => ⟨hk.1.1, ⟨hk.1.2.1, ⟨hk.1.2.2.1, ⟨hk.1.2.2.2.1, ⟨hk.1.2.2.2.2.1, ⟨hk.1.2.2.2.2.2.1, hk.1.2.2.2.2.2.2⟩⟩⟩⟩⟩⟩)⟩, ⟨by (with_reducible repeat (first | apply Kd.R_alloc | apply Kd.R_drewN | apply Kd.R_drew)); exact Kd.R_mono HO_579003.out (fun _ hk => ⟨hk.1.1, ⟨hk.1.2.1, ⟨hk.1.2.2.1, ⟨hk.1.2.2.2.1, ⟨hk.1.2.2.2.2.1, ⟨hk.1.2.2.2.2.2.1, hk.1.2.2.2.2.2.2⟩⟩⟩⟩⟩⟩)⟩, ⟨by (with_reducible repeat (first | apply Kd.R_alloc | apply Kd.R_drewN | apply Kd.R_drew)); exact Kd.R_mono HO_608003.out (fun _ hk => ⟨hk.1.1, ⟨hk.1.2.1, ⟨hk.1.2.2.1, ⟨hk.1.2.2.2.1, ⟨hk.1.2.2.2.2.1, ⟨hk.1.2.2.2.2.2.1, hk.1.2.2.2.2.2.2⟩⟩⟩⟩⟩⟩)⟩, ⟨by (with_reducible repeat (first | apply Kd.R_alloc | apply Kd.R_drewN | apply Kd.R_drew)); exact Kd.R_mono HO_622003.out (fun _ hk => ⟨hk.1.1, ⟨hk.1.2.1, ⟨hk.1.2.2.1, ⟨hk.1.2.2.2.1, ⟨hk.1.2.2.2.2.1, ⟨hk.1.2.2.2.2.2.1, hk.1.2.2.2.2.2.2⟩⟩⟩⟩⟩⟩)⟩, ⟨by (with_reducible repeat (first | apply Kd.R_alloc | apply Kd.R_drewN | apply Kd.R_drew)); exact Kd.R_mono HO_629003.out (fun _ hk => ⟨hk.1.1, ⟨hk.1.2.1, ⟨hk.1.2.2.1, ⟨hk.1.2.2.2.1, ⟨hk.1.2.2.2.2.1, ⟨hk.1.2.2.2.2.2.1, hk.1.2.2.2.2.2.2⟩⟩⟩⟩⟩⟩)⟩, ⟨kb BK571⟩, ⟨kb BK578⟩, ⟨kb BK607⟩, ⟨kb BK621⟩, ⟨kb BK628⟩, ⟨ss40 HI597⟩, ⟨ss40 HI598⟩, ⟨sb40⟩⟩
          ·
           rw [if_neg c125] at H
           have c125b0 : decide (x30_3 < (Go.bits .and .i64 a0 7)) = false := decide_eq_false c125
           clear c125
           have H' := Aside0.mk H
           clear H
           go_wp2
           go_loopg [33] k3 (fun kq v33 w' => ∃ (x33_4 : Int) (x599000_4 : Int), v33 = .int .i64 x33_4 ∧ Aside0 (gimballaw11_MulSteps.l3 kq (Go.bits .and .i64 a0 7) (Go.bits .and .i64 a1 7) (Go.bits .and .i64 a2 7) l3 a4 a5 t585 t594 x33_4 t565 t566 t567 t568 t572 t573 t574 t575 t620 x599000_4 t613 t614 t615 t616 = some r) ∧ Aside0 (kq ≤ k3) ∧ Aside0 (Kd.R (Kd.int .u64) 33 w' w.heap.size (fun k_ => some k_ ≠ ((.slice Ao57 t594.length co57) : Value).ownBlock ∧ some k_ ≠ ((.slice Ao25 t568.length co25) : Value).ownBlock ∧ some k_ ≠ ((.slice Ao30 t575.length co30) : Value).ownBlock ∧ some k_ ≠ ((.slice Ao52 t602.length co52) : Value).ownBlock ∧ some k_ ≠ ((.slice Ao66 t616.length co66) : Value).ownBlock ∧ some k_ ≠ ((.slice Ao103 t625.length co103) : Value).ownBlock) (.slice Ao54 t585.length co54) t585) ∧ Aside0 (Kd.R (Kd.int .u64) 33 w' w.heap.size (fun k_ => some k_ ≠ ((.slice Ao54 t585.length co54) : Value).ownBlock ∧ some k_ ≠ ((.slice Ao25 t568.length co25) : Value).ownBlock ∧ some k_ ≠ ((.slice Ao30 t575.length co30) : Value).ownBlock ∧ some k_ ≠ ((.slice Ao52 t602.length co52) : Value).ownBlock ∧ some k_ ≠ ((.slice Ao66 t616.length co66) : Value).ownBlock ∧ some k_ ≠ ((.slice Ao103 t625.length co103) : Value).ownBlock) (.slice Ao57 t594.length co57) t594) ∧ Aside0 (Kd.R (Kd.int .u64) 33 w' w.heap.size (fun k_ => some k_ ≠ ((.slice Ao54 t585.length co54) : Value).ownBlock ∧ some k_ ≠ ((.slice Ao57 t594.length co57) : Value).ownBlock ∧ some k_ ≠ ((.slice Ao30 t575.length co30) : Value).ownBlock ∧ some k_ ≠ ((.slice Ao52 t602.length co52) : Value).ownBlock ∧ some k_ ≠ ((.slice Ao66 t616.length co66) : Value).ownBlock ∧ some k_ ≠ ((.slice Ao103 t625.length co103) : Value).ownBlock) (.slice Ao25 t568.length co25) t568) ∧ Aside0 (Kd.R (Kd.int .u64) 33 w' w.heap.size (fun k_ => some k_ ≠ ((.slice Ao54 t585.length co54) : Value).ownBlock ∧ some k_ ≠ ((.slice Ao57 t594.length co57) : Value).ownBlock ∧ some k_ ≠ ((.slice Ao25 t568.length co25) : Value).ownBlock ∧ some k_ ≠ ((.slice Ao52 t602.length co52) : Value).ownBlock ∧ some k_ ≠ ((.slice Ao66 t616.length co66) : Value).ownBlock ∧ some k_ ≠ ((.slice Ao103 t625.length co103) : Value).ownBlock) (.slice Ao30 t575.length co30) t575) ∧ Aside0 (Kd.R (Kd.int .u64) 33 w' w.heap.size (fun k_ => some k_ ≠ ((.slice Ao54 t585.length co54) : Value).ownBlock ∧ some k_ ≠ ((.slice Ao57 t594.length co57) : Value).ownBlock ∧ some k_ ≠ ((.slice Ao25 t568.length co25) : Value).ownBlock ∧ some k_ ≠ ((.slice Ao30 t575.length co30) : Value).ownBlock ∧ some k_ ≠ ((.slice Ao66 t616.length co66) : Value).ownBlock ∧ some k_ ≠ ((.slice Ao103 t625.length co103) : Value).ownBlock) (.slice Ao52 t602.length co52) t602) ∧ Aside0 (Kd.R (Kd.int .u64) 33 w' w.heap.size (fun k_ => some k_ ≠ ((.slice Ao54 t585.length co54) : Value).ownBlock ∧ some k_ ≠ ((.slice Ao57 t594.length co57) : Value).ownBlock ∧ some k_ ≠ ((.slice Ao25 t568.length co25) : Value).ownBlock ∧ some k_ ≠ ((.slice Ao30 t575.length co30) : Value).ownBlock ∧ some k_ ≠ ((.slice Ao52 t602.length co52) : Value).ownBlock ∧ some k_ ≠ ((.slice Ao103 t625.length co103) : Value).ownBlock) (.slice Ao66 t616.length co66) t616) ∧ Aside0 (Kd.R (Kd.int .u64) 33 w' w.heap.size (fun k_ => some k_ ≠ ((.slice Ao54 t585.length co54) : Value).ownBlock ∧ some k_ ≠ ((.slice Ao57 t594.length co57) : Value).ownBlock ∧ some k_ ≠ ((.slice Ao25 t568.length co25) : Value).ownBlock ∧ some k_ ≠ ((.slice Ao30 t575.length co30) : Value).ownBlock ∧ some k_ ≠ ((.slice Ao52 t602.length co52) : Value).ownBlock ∧ some k_ ≠ ((.slice Ao66 t616.length co66) : Value).ownBlock) (.slice Ao103 t625.length co103) t625) ∧ Aside0 (w'.heap[gb571]? = some (.cells #[.int .i64 t565, .int .i64 t566, .int .i64 t567, (.slice Ao25 t568.length co25)] 25 (0, 0))) ∧ Aside0 (w'.heap[gb578]? = some (.cells #[.int .i64 t572, .int .i64 t573, .int .i64 t574, (.slice Ao30 t575.length co30)] 25 (0, 0))) ∧ Aside0 (w'.heap[gb607]? = some (.cells #[.int .i64 t599, .int .i64 t600, .int .i64 t601, (.slice Ao52 t602.length co52)] 25 (0, 0))) ∧ Aside0 (w'.heap[gb621]? = some (.cells #[.int .i64 t613, .int .i64 t614, .int .i64 t615, (.slice Ao66 t616.length co66)] 25 (0, 0))) ∧ Aside0 (w'.heap[gb628]? = some (.cells #[.int .i64 t622, .int .i64 t623, .int .i64 t624, (.slice Ao103 t625.length co103)] 25 (0, 0))) ∧ Aside0 (IsS40 w w' gb597 t620) ∧ Aside0 (IsS40 w w' gb598 x599000_4) ∧ Aside0 (Below w.heap.size w w'))
           case atStart => exact ⟨(0), (x599000_3), (by first | rfl | (simp; done) | (simp [*]; done)), H', ⟨Nat.le_refl _⟩, ⟨by (with_reducible repeat (first | apply Kd.R_alloc | apply Kd.R_drewN | apply Kd.R_drew)); exact Kd.R_mono HO_15.out (fun _ hk => ⟨hk.1, ⟨hk.2.2.1, ⟨hk.2.2.2.1, ⟨hk.2.2.2.2.1, ⟨hk.2.2.2.2.2.1, hk.2.2.2.2.2.2⟩⟩⟩⟩⟩)⟩, ⟨by (with_reducible repeat (first | apply Kd.R_alloc | apply Kd.R_drewN | apply Kd.R_drew)); exact Kd.R_mono HO_16.out (fun _ hk => ⟨hk.1, ⟨hk.2.2.1, ⟨hk.2.2.2.1, ⟨hk.2.2.2.2.1, ⟨hk.2.2.2.2.2.1, hk.2.2.2.2.2.2⟩⟩⟩⟩⟩)⟩, ⟨by (with_reducible repeat (first | apply Kd.R_alloc | apply Kd.R_drewN | apply Kd.R_drew)); exact Kd.R_mono HO_572003.out (fun _ hk => ⟨hk.1, ⟨hk.2.1, ⟨hk.2.2.2.1, ⟨hk.2.2.2.2.1, ⟨hk.2.2.2.2.2.1, hk.2.2.2.2.2.2⟩⟩⟩⟩⟩)⟩, ⟨by (with_reducible repeat (first | apply Kd.R_alloc | apply Kd.R_drewN | apply Kd.R_drew)); exact Kd.R_mono HO_579003.out (fun _ hk => ⟨hk.1, ⟨hk.2.1, ⟨hk.2.2.2.1, ⟨hk.2.2.2.2.1, ⟨hk.2.2.2.2.2.1, hk.2.2.2.2.2.2⟩⟩⟩⟩⟩)⟩, ⟨by (with_reducible repeat (first | apply Kd.R_alloc | apply Kd.R_drewN | apply Kd.R_drew)); exact Kd.R_mono HO_608003.out (fun _ hk => ⟨hk.1, ⟨hk.2.1, ⟨hk.2.2.2.1, ⟨hk.2.2.2.2.1, ⟨hk.2.2.2.2.2.1, hk.2.2.2.2.2.2⟩⟩⟩⟩⟩)⟩, ⟨by (with_reducible repeat (first | apply Kd.R_alloc | apply Kd.R_drewN | apply Kd.R_drew)); exact Kd.R_mono HO_622003.out (fun _ hk => ⟨hk.1, ⟨hk.2.1, ⟨hk.2.2.2.1, ⟨hk.2.2.2.2.1, ⟨hk.2.2.2.2.2.1, hk.2.2.2.2.2.2⟩⟩⟩⟩⟩)⟩, ⟨by (with_reducible repeat (first | apply Kd.R_alloc | apply Kd.R_drewN | apply Kd.R_drew)); exact Kd.R_mono HO_629003.out (fun _ hk => ⟨hk.1, ⟨hk.2.1, ⟨hk.2.2.2.1, ⟨hk.2.2.2.2.1, ⟨hk.2.2.2.2.2.1, hk.2.2.2.2.2.2⟩⟩⟩⟩⟩)⟩, ⟨kb BK571⟩, ⟨kb BK578⟩, ⟨kb BK607⟩, ⟨kb BK621⟩, ⟨kb BK628⟩, ⟨ss40 HI597⟩, ⟨ss40 HI598⟩, ⟨sb40⟩⟩
           case round =>
            clear H'
            obtain ⟨x33_4, x599000_4, rfl, HA, HK4, HO_15, HO_16, HO_572003, HO_579003, HO_608003, HO_622003, HO_629003, BK571, BK578, BK607, BK621, BK628, HI597, HI598, HB⟩ := hrel
            cases gk with
            | zero => exact absurd HA.out (by simp [gimballaw11_MulSteps.l3])
            | succ k4 =>
             have H := HA.out
             clear HA
             simp only [gimballaw11_MulSteps.l3] at H
             by_cases c142 : x33_4 < (Go.bits .and .i64 a0 7)
             ·
              rw [if_pos c142] at H
              have c142b0 : decide (x33_4 < (Go.bits .and .i64 a0 7)) = true := decide_eq_true c142
              clear c142
              by_cases c143 : 0 ≤ x33_4
              rotate_left
              ·
               rw [if_neg c143] at H
               exact absurd H (by simp)
              rw [if_pos c143] at H
              have c143b0 : decide (0 ≤ x33_4) = true := decide_eq_true c143
              clear c143
              by_cases c144 : x33_4 < (t594.length : Int)
              rotate_left
              ·
               rw [if_neg c144] at H
               exact absurd H (by simp)
              rw [if_pos c144] at H
              have c144b0 : decide (x33_4 < (t594.length : Int)) = true := decide_eq_true c144
              clear c144
              obtain ⟨⟨t647, t648⟩, A1450, H⟩ := Option.bind_eq_some_iff.mp H
              (try dsimp -simprocs only at H)
              have A145 := Aside0.mk A1450
              clear A1450
              have H' := Aside0.mk H
              clear H
              have p646 : 0 ≤ (x33_4 : Int) := of_decide_eq_true (by first | (with_reducible assumption) | assumption)
              have q646 : x33_4 < (t594.length : Int) := of_decide_eq_true (by first | (with_reducible assumption) | assumption)
              obtain ⟨ad646, e646, hx646_0⟩ := Kd.at_int (Kd.R_reads' HO_16.out).2.2 x33_4 p646 q646
              cases e646
              replace p646 := eq_true p646
              replace q646 := eq_true q646
              go_wp2_with (first | ((with_reducible refine gate_callee (f := 18) rfl ?_); refine goesL_ (some 192) rfl rfl Try.func18 (by kernel_rfl) rfl #[.pointer (some ⟨gb598, 0, none⟩), .int .u64 a4, .int .u64 (rd t594 x33_4)] rfl ga ?_; (with_reducible refine (soft_Calc_Mul.calls k4 gb598 x599000_4 a4 (rd t594 x33_4) t647 t648 w _ ?side1 ?side2 A145.out).mono ?_); (case side1 => repeat (first | (with_reducible first | exact HI598.out | apply IsS40.alloc | apply IsS40.drewN | apply IsS40.drew | apply IsS40.set_0 | refine IsS40.far ?_ NB598_571.out _ | refine IsS40.far ?_ NB598_578.out _ | refine IsS40.far ?_ NB598_607.out _ | refine IsS40.far ?_ NB598_621.out _ | refine IsS40.far ?_ NB598_628.out _ | refine IsS40.far ?_ NB598_597.out _) | exact HI598.out)); (case side2 => repeat (first | (with_reducible first | exact HB.out | apply below_alloc | apply pw_below_drewN | apply below_drew1 | refine below_set ?_ (IsS40.ge HI597.out) | refine below_set ?_ (IsS40.ge HI598.out) | refine below_set ?_ GE571.out | refine below_set ?_ GE578.out | refine below_set ?_ GE607.out | refine below_set ?_ GE621.out | refine below_set ?_ GE628.out) | exact HB.out)); rintro e w146 ⟨rfl, hi, hb, hk⟩; refine ⟨_, rfl, ?_⟩; refine ax15 (Kd.R_mono (Kd.R_keep (IsS40.apart (show IsS40 w _ gb598 x599000_4 from ss40 HI598) (kr HO_15) (by decide)) hk (fun _ h => h.2)) (fun _ h => h.1)) (Kd.R_mono (Kd.R_keep (IsS40.apart (show IsS40 w _ gb598 x599000_4 from ss40 HI598) (kr HO_16) (by decide)) hk (fun _ h => h.2)) (fun _ h => h.1)) (Kd.R_mono (Kd.R_keep (IsS40.apart (show IsS40 w _ gb598 x599000_4 from ss40 HI598) (kr HO_572003) (by decide)) hk (fun _ h => h.2)) (fun _ h => h.1)) (Kd.R_mono (Kd.R_keep (IsS40.apart (show IsS40 w _ gb598 x599000_4 from ss40 HI598) (kr HO_579003) (by decide)) hk (fun _ h => h.2)) (fun _ h => h.1)) (Kd.R_mono (Kd.R_keep (IsS40.apart (show IsS40 w _ gb598 x599000_4 from ss40 HI598) (kr HO_608003) (by decide)) hk (fun _ h => h.2)) (fun _ h => h.1)) (Kd.R_mono (Kd.R_keep (IsS40.apart (show IsS40 w _ gb598 x599000_4 from ss40 HI598) (kr HO_622003) (by decide)) hk (fun _ h => h.2)) (fun _ h => h.1)) (Kd.R_mono (Kd.R_keep (IsS40.apart (show IsS40 w _ gb598 x599000_4 from ss40 HI598) (kr HO_629003) (by decide)) hk (fun _ h => h.2)) (fun _ h => h.1)) (KeepBut.blk hk (g' := gb571) (o := .cells #[.int .i64 t565, .int .i64 t566, .int .i64 t567, .slice Ao25 t568.length co25] 25 (0, 0)) (kb BK571) NB571_598.out (by simp)) (KeepBut.blk hk (g' := gb578) (o := .cells #[.int .i64 t572, .int .i64 t573, .int .i64 t574, .slice Ao30 t575.length co30] 25 (0, 0)) (kb BK578) NB578_598.out (by simp)) (KeepBut.blk hk (g' := gb607) (o := .cells #[.int .i64 t599, .int .i64 t600, .int .i64 t601, .slice Ao52 t602.length co52] 25 (0, 0)) (kb BK607) NB607_598.out (by simp)) (KeepBut.blk hk (g' := gb621) (o := .cells #[.int .i64 t613, .int .i64 t614, .int .i64 t615, .slice Ao66 t616.length co66] 25 (0, 0)) (kb BK621) NB621_598.out (by simp)) (KeepBut.blk hk (g' := gb628) (o := .cells #[.int .i64 t622, .int .i64 t623, .int .i64 t624, .slice Ao103 t625.length co103] 25 (0, 0)) (kb BK628) NB628_598.out (by simp)) ((show IsS40 w _ gb597 t620 from ⟨KeepBut.blk hk (show IsS40 w _ gb597 t620 from ss40 HI597).1 NB597_598.out (by simp), (show IsS40 w _ gb597 t620 from ss40 HI597).2⟩)) hb hi ?_; clear HO_15; clear HO_16; clear HO_572003; clear HO_579003; clear HO_608003; clear HO_622003; clear HO_629003; clear BK571; clear BK578; clear BK607; clear BK621; clear BK628; clear HI597; clear HB; clear HI598; intro HO_15 HO_16 HO_572003 HO_579003 HO_608003 HO_622003 HO_629003 BK571 BK578 BK607 BK621 BK628 HI597 HB HI598; (try clear hb)))
              go_loopg [35] k4 (fun kq v35 w' => ∃ (x35_5 : Int) (x599000_5 : Int), v35 = .int .i64 x35_5 ∧ Aside0 (gimballaw11_MulSteps.l4 kq (Go.bits .and .i64 a0 7) (Go.bits .and .i64 a1 7) (Go.bits .and .i64 a2 7) l3 a4 a5 t585 t594 x33_4 t647 x35_5 t565 t566 t567 t568 t572 t573 t574 t575 t620 x599000_5 t613 t614 t615 t616 = some r) ∧ Aside0 (kq ≤ k4) ∧ Aside0 (Kd.R (Kd.int .u64) 33 w' w.heap.size (fun k_ => some k_ ≠ ((.slice (some ad646) t594.length co57) : Value).ownBlock ∧ some k_ ≠ ((.slice Ao25 t568.length co25) : Value).ownBlock ∧ some k_ ≠ ((.slice Ao30 t575.length co30) : Value).ownBlock ∧ some k_ ≠ ((.slice Ao52 t602.length co52) : Value).ownBlock ∧ some k_ ≠ ((.slice Ao66 t616.length co66) : Value).ownBlock ∧ some k_ ≠ ((.slice Ao103 t625.length co103) : Value).ownBlock) (.slice Ao54 t585.length co54) t585) ∧ Aside0 (Kd.R (Kd.int .u64) 33 w' w.heap.size (fun k_ => some k_ ≠ ((.slice Ao54 t585.length co54) : Value).ownBlock ∧ some k_ ≠ ((.slice Ao25 t568.length co25) : Value).ownBlock ∧ some k_ ≠ ((.slice Ao30 t575.length co30) : Value).ownBlock ∧ some k_ ≠ ((.slice Ao52 t602.length co52) : Value).ownBlock ∧ some k_ ≠ ((.slice Ao66 t616.length co66) : Value).ownBlock ∧ some k_ ≠ ((.slice Ao103 t625.length co103) : Value).ownBlock) (.slice (some ad646) t594.length co57) t594) ∧ Aside0 (Kd.R (Kd.int .u64) 33 w' w.heap.size (fun k_ => some k_ ≠ ((.slice Ao54 t585.length co54) : Value).ownBlock ∧ some k_ ≠ ((.slice (some ad646) t594.length co57) : Value).ownBlock ∧ some k_ ≠ ((.slice Ao30 t575.length co30) : Value).ownBlock ∧ some k_ ≠ ((.slice Ao52 t602.length co52) : Value).ownBlock ∧ some k_ ≠ ((.slice Ao66 t616.length co66) : Value).ownBlock ∧ some k_ ≠ ((.slice Ao103 t625.length co103) : Value).ownBlock) (.slice Ao25 t568.length co25) t568) ∧ Aside0 (Kd.R (Kd.int .u64) 33 w' w.heap.size (fun k_ => some k_ ≠ ((.slice Ao54 t585.length co54) : Value).ownBlock ∧ some k_ ≠ ((.slice (some ad646) t594.length co57) : Value).ownBlock ∧ some k_ ≠ ((.slice Ao25 t568.length co25) : Value).ownBlock ∧ some k_ ≠ ((.slice Ao52 t602.length co52) : Value).ownBlock ∧ some k_ ≠ ((.slice Ao66 t616.length co66) : Value).ownBlock ∧ some k_ ≠ ((.slice Ao103 t625.length co103) : Value).ownBlock) (.slice Ao30 t575.length co30) t575) ∧ Aside0 (Kd.R (Kd.int .u64) 33 w' w.heap.size (fun k_ => some k_ ≠ ((.slice Ao54 t585.length co54) : Value).ownBlock ∧ some k_ ≠ ((.slice (some ad646) t594.length co57) : Value).ownBlock ∧ some k_ ≠ ((.slice Ao25 t568.length co25) : Value).ownBlock ∧ some k_ ≠ ((.slice Ao30 t575.length co30) : Value).ownBlock ∧ some k_ ≠ ((.slice Ao66 t616.length co66) : Value).ownBlock ∧ some k_ ≠ ((.slice Ao103 t625.length co103) : Value).ownBlock) (.slice Ao52 t602.length co52) t602) ∧ Aside0 (Kd.R (Kd.int .u64) 33 w' w.heap.size (fun k_ => some k_ ≠ ((.slice Ao54 t585.length co54) : Value).ownBlock ∧ some k_ ≠ ((.slice (some ad646) t594.length co57) : Value).ownBlock ∧ some k_ ≠ ((.slice Ao25 t568.length co25) : Value).ownBlock ∧ some k_ ≠ ((.slice Ao30 t575.length co30) : Value).ownBlock ∧ some k_ ≠ ((.slice Ao52 t602.length co52) : Value).ownBlock ∧ some k_ ≠ ((.slice Ao103 t625.length co103) : Value).ownBlock) (.slice Ao66 t616.length co66) t616) ∧ Aside0 (Kd.R (Kd.int .u64) 33 w' w.heap.size (fun k_ => some k_ ≠ ((.slice Ao54 t585.length co54) : Value).ownBlock ∧ some k_ ≠ ((.slice (some ad646) t594.length co57) : Value).ownBlock ∧ some k_ ≠ ((.slice Ao25 t568.length co25) : Value).ownBlock ∧ some k_ ≠ ((.slice Ao30 t575.length co30) : Value).ownBlock ∧ some k_ ≠ ((.slice Ao52 t602.length co52) : Value).ownBlock ∧ some k_ ≠ ((.slice Ao66 t616.length co66) : Value).ownBlock) (.slice Ao103 t625.length co103) t625) ∧ Aside0 (w'.heap[gb571]? = some (.cells #[.int .i64 t565, .int .i64 t566, .int .i64 t567, (.slice Ao25 t568.length co25)] 25 (0, 0))) ∧ Aside0 (w'.heap[gb578]? = some (.cells #[.int .i64 t572, .int .i64 t573, .int .i64 t574, (.slice Ao30 t575.length co30)] 25 (0, 0))) ∧ Aside0 (w'.heap[gb607]? = some (.cells #[.int .i64 t599, .int .i64 t600, .int .i64 t601, (.slice Ao52 t602.length co52)] 25 (0, 0))) ∧ Aside0 (w'.heap[gb621]? = some (.cells #[.int .i64 t613, .int .i64 t614, .int .i64 t615, (.slice Ao66 t616.length co66)] 25 (0, 0))) ∧ Aside0 (w'.heap[gb628]? = some (.cells #[.int .i64 t622, .int .i64 t623, .int .i64 t624, (.slice Ao103 t625.length co103)] 25 (0, 0))) ∧ Aside0 (IsS40 w w' gb597 t620) ∧ Aside0 (IsS40 w w' gb598 x599000_5) ∧ Aside0 (Below w.heap.size w w'))
              case atStart => exact ⟨(0), (t648), (by first | rfl | (simp; done) | (simp [*]; done)), H', ⟨Nat.le_refl _⟩, ⟨kr HO_15⟩, ⟨kr HO_16⟩, ⟨kr HO_572003⟩, ⟨kr HO_579003⟩, ⟨kr HO_608003⟩, ⟨kr HO_622003⟩, ⟨kr HO_629003⟩, ⟨kb BK571⟩, ⟨kb BK578⟩, ⟨kb BK607⟩, ⟨kb BK621⟩, ⟨kb BK628⟩, ⟨ss40 HI597⟩, ⟨ss40 HI598⟩, ⟨sb40⟩⟩
              case round =>
               clear H'
               obtain ⟨x35_5, x599000_5, rfl, HA, HK5, HO_15, HO_16, HO_572003, HO_579003, HO_608003, HO_622003, HO_629003, BK571, BK578, BK607, BK621, BK628, HI597, HI598, HB⟩ := hrel
               cases gk with
               | zero => exact absurd HA.out (by simp [gimballaw11_MulSteps.l4])
               | succ k5 =>
                have H := HA.out
                clear HA
                simp only [gimballaw11_MulSteps.l4] at H
                by_cases c147 : x35_5 < (Go.bits .and .i64 a1 7)
                rotate_left
                ·
                 rw [if_neg c147] at H
                 have c147b0 : decide (x35_5 < (Go.bits .and .i64 a1 7)) = false := decide_eq_false c147
                 clear c147
                 have H' := Aside0.mk H
                 clear H
                 go_wp2
                 go_roundg k5
                 case measure => have := HJ19.out; have := HK2.out; have := HK3.out; have := HK4.out; have := HK5.out; omega
                 case rel => exact ⟨(wrap64 (x33_4 + 1)), (x599000_5), (by first | rfl | (simp; done) | (simp [*]; done)), H', ⟨by have := HJ19.out; have := HK2.out; have := HK3.out; have := HK4.out; have := HK5.out; omega⟩, ⟨kr HO_15⟩, ⟨kr HO_16⟩, ⟨kr HO_572003⟩, ⟨kr HO_579003⟩, ⟨kr HO_608003⟩, ⟨kr HO_622003⟩, ⟨kr HO_629003⟩, ⟨kb BK571⟩, ⟨kb BK578⟩, ⟨kb BK607⟩, ⟨kb BK621⟩, ⟨kb BK628⟩, ⟨ss40 HI597⟩, ⟨ss40 HI598⟩, ⟨sb40⟩⟩
                rw [if_pos c147] at H
                have c147b0 : decide (x35_5 < (Go.bits .and .i64 a1 7)) = true := decide_eq_true c147
                clear c147
                obtain ⟨t649, A1480, H⟩ := Option.bind_eq_some_iff.mp H
                (try dsimp -simprocs only at H)
                have A148 := Aside0.mk A1480
                clear A1480
                obtain ⟨t650, A1490, H⟩ := Option.bind_eq_some_iff.mp H
                (try dsimp -simprocs only at H)
                have A149 := Aside0.mk A1490
                clear A1490
                by_cases c150 : 0 ≤ x35_5
                rotate_left
                ·
                 rw [if_neg c150] at H
                 exact absurd H (by simp)
                rw [if_pos c150] at H
                have c150b0 : decide (0 ≤ x35_5) = true := decide_eq_true c150
                clear c150
                by_cases c151 : x35_5 < (t585.length : Int)
                rotate_left
                ·
                 rw [if_neg c151] at H
                 exact absurd H (by simp)
                rw [if_pos c151] at H
                have c151b0 : decide (x35_5 < (t585.length : Int)) = true := decide_eq_true c151
                clear c151
                obtain ⟨⟨t652, t653⟩, A1520, H⟩ := Option.bind_eq_some_iff.mp H
                (try dsimp -simprocs only at H)
                have A152 := Aside0.mk A1520
                clear A1520
                obtain ⟨⟨t654, t655⟩, A1530, H⟩ := Option.bind_eq_some_iff.mp H
                (try dsimp -simprocs only at H)
                have A153 := Aside0.mk A1530
                clear A1530
                by_cases c154 : t649 = t654
                rotate_left
                ·
                 rw [if_neg c154] at H
                 have c154b0 : (t649 == t654) = false := beq_eq_false_iff_ne.mpr c154
                 have c154b1 : (t649 != t654) = true := bne_iff_ne.mpr c154
                 rw [hLW] at H
                 exact absurd H (by simp)
                rw [if_pos c154] at H
                have c154b0 : (t649 == t654) = true := beq_iff_eq.mpr c154
                have c154b1 : (t649 != t654) = false := bne_eq_false_iff_eq.mpr c154
                clear c154
                have H' := Aside0.mk H
                clear H
                try go_wp2
                refine ax15 (Kd.R_drew HO_15.out) (Kd.R_drew HO_16.out) (Kd.R_drew HO_572003.out) (Kd.R_drew HO_579003.out) (Kd.R_drew HO_608003.out) (Kd.R_drew HO_622003.out) (Kd.R_drew HO_629003.out) (blk_drew BK571.out) (blk_drew BK578.out) (blk_drew BK607.out) (blk_drew BK621.out) (blk_drew BK628.out) (IsS40.drew HI597.out) (IsS40.drew HI598.out) (below_drew1 HB.out) ?_
                clear HO_15 HO_16 HO_572003 HO_579003 HO_608003 HO_622003 HO_629003 BK571 BK578 BK607 BK621 BK628 HI597 HI598 HB
                intro HO_15 HO_16 HO_572003 HO_579003 HO_608003 HO_622003 HO_629003 BK571 BK578 BK607 BK621 BK628 HI597 HI598 HB
                have p651 : 0 ≤ (x35_5 : Int) := of_decide_eq_true (by first | (with_reducible assumption) | assumption)
                have q651 : x35_5 < (t585.length : Int) := of_decide_eq_true (by first | (with_reducible assumption) | assumption)
                obtain ⟨ad651, e651, hx651_0⟩ := Kd.at_int (Kd.R_reads' HO_15.out).2.2 x35_5 p651 q651
                cases e651
                replace p651 := eq_true p651
                replace q651 := eq_true q651
                refine start_ (n := 18) (S := fun w' => w'.cell? ⟨gb621, 0, none⟩ = some (.int .i64 t613) ∧ w'.cell? ⟨gb621, 1, none⟩ = some (.int .i64 t614) ∧ w'.cell? ⟨gb621, 2, none⟩ = some (.int .i64 t615) ∧ w'.cell? ⟨gb621, 3, none⟩ = some (.slice Ao66 t616.length co66) ∧ w'.cell? ⟨gb571, 0, none⟩ = some (.int .i64 t565) ∧ w'.cell? ⟨gb571, 1, none⟩ = some (.int .i64 t566) ∧ w'.cell? ⟨gb571, 2, none⟩ = some (.int .i64 t567) ∧ w'.cell? ⟨gb571, 3, none⟩ = some (.slice Ao25 t568.length co25) ∧ w'.cell? (ad651.add (x35_5).toNat) = some (.int .u64 (rd t585 x35_5))) (ds := []) #[false, false, false, false, false, false, false, false, false, false, false, false, false, false, false, false, false, false] (by kernel_rfl) rfl rfl ⟨bk BK621 0, bk BK621 1, bk BK621 2, bk BK621 3, bk BK571 0, bk BK571 1, bk BK571 2, bk BK571 3, hx651_0⟩ (fun hHeld => ?_); refine with_tabW gimballaw11_MulSteps.tab42 gimballaw11_MulSteps.bits42 (fun HT_ HW_ => ?_)
                generalize wr.drew = w155 at HO_15 HO_16 HO_572003 HO_579003 HO_608003 HO_622003 HO_629003 BK571 BK578 BK607 BK621 BK628 HI597 HI598 HB hx651_0 hHeld ⊢
                refine pu 1 199 (lm 18 2) HT_ ?_
                refine pu 2 200 (lm 18 6) HT_ ?_
                refine pu 4 202 (lm 18 22) HT_ ?_
                refine pu 6 204 (lm 18 86) HT_ ?_
                refine pu 7 205 (lm 18 214) HT_ ?_
                refine pu 9 207 (lm 18 726) HT_ ?_
                refine pu 10 208 (lm 18 1750) HT_ ?_
                refine pu 11 209 (lm 18 3798) HT_ ?_
                refine pu 12 210 (lm 18 7894) HT_ ?_
                refine pu 13 211 (lm 18 16086) HT_ ?_
                refine ta 0 198 (lm 18 16087) HT_ HW_ hHeld ?_
                refine ta 5 203 (lm 18 16119) HT_ HW_ hHeld ?_
                refine ta 14 212 (lm 18 32503) HT_ HW_ hHeld ?_
                refine on 3 (some 201) (lm 18 32511) HT_ (fun K hK => ?_)
                refine goes_ Try.func17 (by kernel_rfl) rfl #[.agg #[.int .i64 t613, .int .i64 t614, .int .i64 t615, .slice Ao66 t616.length co66], .int .i64 x33_4, .int .i64 x35_5] (by rfl) rfl rfl ga ?_
                with_reducible refine (mat_Matrix_At.calls t613 t614 t615 _ _ t616 x33_4 x35_5 t649 _ ?side1 ?side2 A148.out).mono ?_
                (case side1 => exact ks HO_622003)
                (case side2 => exact (Kd.R_reads' HO_622003.out).2.1)
                rintro e w156 ⟨rfl, hb⟩
                have HS8_ := (hb.cell (World.block_lt_of_cell? _ _ (hHeld.2.2.2.2.2.2.2.2))).trans (hHeld.2.2.2.2.2.2.2.2)
                refine ⟨_, rfl, ?_⟩
                refine ax15 (Kd.R_below (kr HO_15) hb) (Kd.R_below (kr HO_16) hb) (Kd.R_below (kr HO_572003) hb) (Kd.R_below (kr HO_579003) hb) (Kd.R_below (kr HO_608003) hb) (Kd.R_below (kr HO_622003) hb) (Kd.R_below (kr HO_629003) hb) (bb BK571 hb) (bb BK578 hb) (bb BK607 hb) (bb BK621 hb) (bb BK628 hb) (IsS40.below (ss40 HI597) hb) (IsS40.below (ss40 HI598) hb) (below_step sb40 hb) ?_
                clear HO_15 HO_16 HO_572003 HO_579003 HO_608003 HO_622003 HO_629003 BK571 BK578 BK607 BK621 BK628 HI597 HI598 HB
                intro HO_15 HO_16 HO_572003 HO_579003 HO_608003 HO_622003 HO_629003 BK571 BK578 BK607 BK621 BK628 HI597 HI598 HB
                (try clear hb)
                (try clear hb2)
                (try clear hk)
                (try clear hi)
                refine hK.out _ _ ⟨bk BK621 0, bk BK621 1, bk BK621 2, bk BK621 3, bk BK571 0, bk BK571 1, bk BK571 2, bk BK571 3, HS8_⟩ (fun hHeld => ?_)
                clear hK K
                refine no 201 ?_
                refine on 8 (some 206) (lm 18 32767) HT_ (fun K hK => ?_)
                refine goes_ Try.func17 (by kernel_rfl) rfl #[.agg #[.int .i64 t565, .int .i64 t566, .int .i64 t567, .slice Ao25 t568.length co25], .int .i64 x33_4, .int .i64 x35_5] (by rfl) rfl rfl ga ?_
                with_reducible refine (mat_Matrix_At.calls t565 t566 t567 _ _ t568 x33_4 x35_5 t650 _ ?side1 ?side2 A149.out).mono ?_
                (case side1 => exact ks HO_572003)
                (case side2 => exact (Kd.R_reads' HO_572003.out).2.1)
                rintro e w157 ⟨rfl, hb⟩
                have HS8_ := (hb.cell (World.block_lt_of_cell? _ _ (hHeld.2.2.2.2.2.2.2.2))).trans (hHeld.2.2.2.2.2.2.2.2)
                refine ⟨_, rfl, ?_⟩
                refine ax15 (Kd.R_below (kr HO_15) hb) (Kd.R_below (kr HO_16) hb) (Kd.R_below (kr HO_572003) hb) (Kd.R_below (kr HO_579003) hb) (Kd.R_below (kr HO_608003) hb) (Kd.R_below (kr HO_622003) hb) (Kd.R_below (kr HO_629003) hb) (bb BK571 hb) (bb BK578 hb) (bb BK607 hb) (bb BK621 hb) (bb BK628 hb) (IsS40.below (ss40 HI597) hb) (IsS40.below (ss40 HI598) hb) (below_step sb40 hb) ?_
                clear HO_15 HO_16 HO_572003 HO_579003 HO_608003 HO_622003 HO_629003 BK571 BK578 BK607 BK621 BK628 HI597 HI598 HB
                intro HO_15 HO_16 HO_572003 HO_579003 HO_608003 HO_622003 HO_629003 BK571 BK578 BK607 BK621 BK628 HI597 HI598 HB
                (try clear hb)
                (try clear hb2)
                (try clear hk)
                (try clear hi)
                refine hK.out _ _ ⟨bk BK621 0, bk BK621 1, bk BK621 2, bk BK621 3, bk BK571 0, bk BK571 1, bk BK571 2, bk BK571 3, HS8_⟩ (fun hHeld => ?_)
                clear hK K
                refine no 206 ?_
                refine on 15 (some 213) (lm 18 65535) HT_ (fun K hK => ?_)
                refine goes_ Try.func18 (by kernel_rfl) rfl #[.pointer (some ⟨gb598, 0, none⟩), .int .u64 t647, .int .u64 (rd t585 x35_5)] (by rfl) rfl rfl ga ?_
                with_reducible refine (soft_Calc_Mul.calls k5 gb598 x599000_5 t647 (rd t585 x35_5) t652 t653 w _ ?side1 ?side2 A152.out).mono ?_
                (case side1 => repeat (first | (with_reducible first | exact HI598.out | apply IsS40.alloc | apply IsS40.drewN | apply IsS40.drew | apply IsS40.set_0 | refine IsS40.far ?_ NB598_571.out _ | refine IsS40.far ?_ NB598_578.out _ | refine IsS40.far ?_ NB598_607.out _ | refine IsS40.far ?_ NB598_621.out _ | refine IsS40.far ?_ NB598_628.out _ | refine IsS40.far ?_ NB598_597.out _) | exact HI598.out))
                (case side2 => repeat (first | (with_reducible first | exact HB.out | apply below_alloc | apply pw_below_drewN | apply below_drew1 | refine below_set ?_ (IsS40.ge HI597.out) | refine below_set ?_ (IsS40.ge HI598.out) | refine below_set ?_ GE571.out | refine below_set ?_ GE578.out | refine below_set ?_ GE607.out | refine below_set ?_ GE621.out | refine below_set ?_ GE628.out) | exact HB.out))
                rintro e w158 ⟨rfl, hi, hb, hk⟩
                have HS8_ := keep_cell hk (hHeld.2.2.2.2.2.2.2.2) (by first | (rw [add_block]; exact Kd.own_blk (IsS40.own_ne HI598.out HO_15.out (by decide))) | (show (Addr.add _ _).block ≠ _; rw [add_block]; exact Kd.own_blk (IsS40.own_ne HI598.out HO_15.out (by decide))) | exact Kd.own_blk (IsS40.own_ne HI598.out HO_15.out (by decide)))
                refine ⟨_, rfl, ?_⟩
                refine ax15 (Kd.R_mono (Kd.R_keep (IsS40.apart (show IsS40 w _ gb598 x599000_5 from ss40 HI598) (kr HO_15) (by decide)) hk (fun _ h => h.2)) (fun _ h => h.1)) (Kd.R_mono (Kd.R_keep (IsS40.apart (show IsS40 w _ gb598 x599000_5 from ss40 HI598) (kr HO_16) (by decide)) hk (fun _ h => h.2)) (fun _ h => h.1)) (Kd.R_mono (Kd.R_keep (IsS40.apart (show IsS40 w _ gb598 x599000_5 from ss40 HI598) (kr HO_572003) (by decide)) hk (fun _ h => h.2)) (fun _ h => h.1)) (Kd.R_mono (Kd.R_keep (IsS40.apart (show IsS40 w _ gb598 x599000_5 from ss40 HI598) (kr HO_579003) (by decide)) hk (fun _ h => h.2)) (fun _ h => h.1)) (Kd.R_mono (Kd.R_keep (IsS40.apart (show IsS40 w _ gb598 x599000_5 from ss40 HI598) (kr HO_608003) (by decide)) hk (fun _ h => h.2)) (fun _ h => h.1)) (Kd.R_mono (Kd.R_keep (IsS40.apart (show IsS40 w _ gb598 x599000_5 from ss40 HI598) (kr HO_622003) (by decide)) hk (fun _ h => h.2)) (fun _ h => h.1)) (Kd.R_mono (Kd.R_keep (IsS40.apart (show IsS40 w _ gb598 x599000_5 from ss40 HI598) (kr HO_629003) (by decide)) hk (fun _ h => h.2)) (fun _ h => h.1)) (KeepBut.blk hk (g' := gb571) (o := .cells #[.int .i64 t565, .int .i64 t566, .int .i64 t567, .slice Ao25 t568.length co25] 25 (0, 0)) (kb BK571) NB571_598.out (by simp)) (KeepBut.blk hk (g' := gb578) (o := .cells #[.int .i64 t572, .int .i64 t573, .int .i64 t574, .slice Ao30 t575.length co30] 25 (0, 0)) (kb BK578) NB578_598.out (by simp)) (KeepBut.blk hk (g' := gb607) (o := .cells #[.int .i64 t599, .int .i64 t600, .int .i64 t601, .slice Ao52 t602.length co52] 25 (0, 0)) (kb BK607) NB607_598.out (by simp)) (KeepBut.blk hk (g' := gb621) (o := .cells #[.int .i64 t613, .int .i64 t614, .int .i64 t615, .slice Ao66 t616.length co66] 25 (0, 0)) (kb BK621) NB621_598.out (by simp)) (KeepBut.blk hk (g' := gb628) (o := .cells #[.int .i64 t622, .int .i64 t623, .int .i64 t624, .slice Ao103 t625.length co103] 25 (0, 0)) (kb BK628) NB628_598.out (by simp)) ((show IsS40 w _ gb597 t620 from ⟨KeepBut.blk hk (show IsS40 w _ gb597 t620 from ss40 HI597).1 NB597_598.out (by simp), (show IsS40 w _ gb597 t620 from ss40 HI597).2⟩)) hb hi ?_
                clear HO_15 HO_16 HO_572003 HO_579003 HO_608003 HO_622003 HO_629003 BK571 BK578 BK607 BK621 BK628 HI597 HB HI598
                intro HO_15 HO_16 HO_572003 HO_579003 HO_608003 HO_622003 HO_629003 BK571 BK578 BK607 BK621 BK628 HI597 HB HI598
                (try clear hb)
                (try clear hb2)
                (try clear hk)
                (try clear hi)
                refine hK.out _ _ ⟨bk BK621 0, bk BK621 1, bk BK621 2, bk BK621 3, bk BK571 0, bk BK571 1, bk BK571 2, bk BK571 3, HS8_⟩ (fun hHeld => ?_)
                clear hK K
                refine no 213 ?_
                refine on 16 (some 214) (lm 18 131071) HT_ (fun K hK => ?_)
                refine goes_ Try.func19 (by kernel_rfl) rfl #[.pointer (some ⟨gb598, 0, none⟩), .int .u64 t650, .int .u64 t652] (by rfl) rfl rfl ga ?_
                with_reducible refine (soft_Calc_Add.calls k5 gb598 t653 t650 t652 t654 t655 w _ ?side1 ?side2 A153.out).mono ?_
                (case side1 => repeat (first | (with_reducible first | exact HI598.out | apply IsS40.alloc | apply IsS40.drewN | apply IsS40.drew | apply IsS40.set_0 | refine IsS40.far ?_ NB598_571.out _ | refine IsS40.far ?_ NB598_578.out _ | refine IsS40.far ?_ NB598_607.out _ | refine IsS40.far ?_ NB598_621.out _ | refine IsS40.far ?_ NB598_628.out _ | refine IsS40.far ?_ NB598_597.out _) | exact HI598.out))
                (case side2 => repeat (first | (with_reducible first | exact HB.out | apply below_alloc | apply pw_below_drewN | apply below_drew1 | refine below_set ?_ (IsS40.ge HI597.out) | refine below_set ?_ (IsS40.ge HI598.out) | refine below_set ?_ GE571.out | refine below_set ?_ GE578.out | refine below_set ?_ GE607.out | refine below_set ?_ GE621.out | refine below_set ?_ GE628.out) | exact HB.out))
                rintro e w159 ⟨rfl, hi, hb, hk⟩
                have HS8_ := keep_cell hk (hHeld.2.2.2.2.2.2.2.2) (by first | (rw [add_block]; exact Kd.own_blk (IsS40.own_ne HI598.out HO_15.out (by decide))) | (show (Addr.add _ _).block ≠ _; rw [add_block]; exact Kd.own_blk (IsS40.own_ne HI598.out HO_15.out (by decide))) | exact Kd.own_blk (IsS40.own_ne HI598.out HO_15.out (by decide)))
                refine ⟨_, rfl, ?_⟩
                refine ax15 (Kd.R_mono (Kd.R_keep (IsS40.apart (show IsS40 w _ gb598 t653 from ss40 HI598) (kr HO_15) (by decide)) hk (fun _ h => h.2)) (fun _ h => h.1)) (Kd.R_mono (Kd.R_keep (IsS40.apart (show IsS40 w _ gb598 t653 from ss40 HI598) (kr HO_16) (by decide)) hk (fun _ h => h.2)) (fun _ h => h.1)) (Kd.R_mono (Kd.R_keep (IsS40.apart (show IsS40 w _ gb598 t653 from ss40 HI598) (kr HO_572003) (by decide)) hk (fun _ h => h.2)) (fun _ h => h.1)) (Kd.R_mono (Kd.R_keep (IsS40.apart (show IsS40 w _ gb598 t653 from ss40 HI598) (kr HO_579003) (by decide)) hk (fun _ h => h.2)) (fun _ h => h.1)) (Kd.R_mono (Kd.R_keep (IsS40.apart (show IsS40 w _ gb598 t653 from ss40 HI598) (kr HO_608003) (by decide)) hk (fun _ h => h.2)) (fun _ h => h.1)) (Kd.R_mono (Kd.R_keep (IsS40.apart (show IsS40 w _ gb598 t653 from ss40 HI598) (kr HO_622003) (by decide)) hk (fun _ h => h.2)) (fun _ h => h.1)) (Kd.R_mono (Kd.R_keep (IsS40.apart (show IsS40 w _ gb598 t653 from ss40 HI598) (kr HO_629003) (by decide)) hk (fun _ h => h.2)) (fun _ h => h.1)) (KeepBut.blk hk (g' := gb571) (o := .cells #[.int .i64 t565, .int .i64 t566, .int .i64 t567, .slice Ao25 t568.length co25] 25 (0, 0)) (kb BK571) NB571_598.out (by simp)) (KeepBut.blk hk (g' := gb578) (o := .cells #[.int .i64 t572, .int .i64 t573, .int .i64 t574, .slice Ao30 t575.length co30] 25 (0, 0)) (kb BK578) NB578_598.out (by simp)) (KeepBut.blk hk (g' := gb607) (o := .cells #[.int .i64 t599, .int .i64 t600, .int .i64 t601, .slice Ao52 t602.length co52] 25 (0, 0)) (kb BK607) NB607_598.out (by simp)) (KeepBut.blk hk (g' := gb621) (o := .cells #[.int .i64 t613, .int .i64 t614, .int .i64 t615, .slice Ao66 t616.length co66] 25 (0, 0)) (kb BK621) NB621_598.out (by simp)) (KeepBut.blk hk (g' := gb628) (o := .cells #[.int .i64 t622, .int .i64 t623, .int .i64 t624, .slice Ao103 t625.length co103] 25 (0, 0)) (kb BK628) NB628_598.out (by simp)) ((show IsS40 w _ gb597 t620 from ⟨KeepBut.blk hk (show IsS40 w _ gb597 t620 from ss40 HI597).1 NB597_598.out (by simp), (show IsS40 w _ gb597 t620 from ss40 HI597).2⟩)) hb hi ?_
                clear HO_15 HO_16 HO_572003 HO_579003 HO_608003 HO_622003 HO_629003 BK571 BK578 BK607 BK621 BK628 HI597 HB HI598
                intro HO_15 HO_16 HO_572003 HO_579003 HO_608003 HO_622003 HO_629003 BK571 BK578 BK607 BK621 BK628 HI597 HB HI598
                (try clear hb)
                (try clear hb2)
                (try clear hk)
                (try clear hi)
                refine hK.out _ _ ⟨bk BK621 0, bk BK621 1, bk BK621 2, bk BK621 3, bk BK571 0, bk BK571 1, bk BK571 2, bk BK571 3, HS8_⟩ (fun hHeld => ?_)
                clear hK K
                refine no 214 ?_
                refine pu 17 215 (lm 18 262143) HT_ ?_
                refine done_ (done_of HT_.out (by kernel_rfl)) ?_
                try go_wp2
                go_roundg k5
                case measure => have := HJ19.out; have := HK2.out; have := HK3.out; have := HK4.out; have := HK5.out; omega
                case rel => exact ⟨(wrap64 (x35_5 + 1)), (t655), (by first | rfl | (simp; done) | (simp [*]; done)), H', ⟨by have := HJ19.out; have := HK2.out; have := HK3.out; have := HK4.out; have := HK5.out; omega⟩, ⟨kr HO_15⟩, ⟨kr HO_16⟩, ⟨kr HO_572003⟩, ⟨kr HO_579003⟩, ⟨kr HO_608003⟩, ⟨kr HO_622003⟩, ⟨kr HO_629003⟩, ⟨kb BK571⟩, ⟨kb BK578⟩, ⟨kb BK607⟩, ⟨kb BK621⟩, ⟨kb BK628⟩, ⟨ss40 HI597⟩, ⟨ss40 HI598⟩, ⟨sb40⟩⟩
             ·
              rw [if_neg c142] at H
              have c142b0 : decide (x33_4 < (Go.bits .and .i64 a0 7)) = false := decide_eq_false c142
              clear c142
              by_cases c160 : t620 = x599000_4
              rotate_left
              ·
               rw [if_neg c160] at H
               have c160b0 : (t620 == x599000_4) = false := beq_eq_false_iff_ne.mpr c160
               have c160b1 : (t620 != x599000_4) = true := bne_iff_ne.mpr c160
               rw [hLW] at H
               exact absurd H (by simp)
              rw [if_pos c160] at H
              have c160b0 : (t620 == x599000_4) = true := beq_iff_eq.mpr c160
              have c160b1 : (t620 != x599000_4) = false := bne_eq_false_iff_eq.mpr c160
              clear c160
              obtain ⟨⟨t656, t657, t658, t659⟩, A1610, H⟩ := Option.bind_eq_some_iff.mp H
              (try dsimp -simprocs only at H)
              have A161 := Aside0.mk A1610
              clear A1610
              obtain ⟨⟨t662, t663, t664, t665, t668, t669⟩, A1620, H⟩ := Option.bind_eq_some_iff.mp H
              (try dsimp -simprocs only at H)
              have A162 := Aside0.mk A1620
              clear A1620
              obtain ⟨y670, hy670⟩ : ∃ y_ : List Int, y_ = (([] : List Int)) := ⟨_, rfl⟩
              replace H : (if y670.length + t585.length < 17592186044416 then ((some (y670 ++ t585 : List Int)).bind fun y673 => ((some (([0] : List Int) : List Int)).bind fun y676 => (if y673.length + y676.length < 17592186044416 then ((mul_Gemv.f k4 t669 t565 t566 t567 t568 (y673 ++ y676)).bind fun bt682 => ((some (([] : List Int) : List Int)).bind fun y687 => (if y687.length + t585.length < 17592186044416 then ((some (y687 ++ t585 : List Int)).bind fun y690 => ((some (([0] : List Int) : List Int)).bind fun y693 => (if y690.length + y693.length < 17592186044416 then ((mul_Ger.f k4 bt682.2.2 t565 t566 t567 t568 a4 t585 (y690 ++ y693)).bind fun bt699 => ((mul_Gemm.f k4 bt699.2.2.2.2.2 t565 t566 (wrap64 ((-1) - (Go.bits .and .i64 a5 7))) t568 t572 t573 t574 t575).bind fun bt707 => (if t668 = 4 then (if bt682.2.1 = 4 then (if bt699.2.2.2.2.1 = 4 then (if bt707.2.2.2.2.1 = 4 then (some (bt707.2.2.2.2.2 == x599000_4)) else (some false)) else (some false)) else (some false)) else (some false)))) else (none)))) else (none)))) else (none)))) else (none)) = some r := by first | (rw [hy670]; with_reducible exact H) | (have H2_ := (Option.bind_some _ _).symm.trans H; rw [hy670]; with_reducible exact H2_) | (have H2_ := (Option.bind_some _ _).symm.trans H; with_reducible exact H2_) | with_reducible exact H | (rw [hy670]; exact H) | exact H
              have Ny670 := Aside0.mk hy670
              clear hy670
              by_cases c163 : y670.length + t585.length < 17592186044416
              rotate_left
              ·
               rw [if_neg c163] at H
               exact absurd H (by simp)
              rw [if_pos c163] at H
              have LMc163 := Aside0.mk c163
              clear c163
              obtain ⟨y673, hy673⟩ : ∃ y_ : List Int, y_ = (y670 ++ t585) := ⟨_, rfl⟩
              replace H : ((some (([0] : List Int) : List Int)).bind fun y676 => (if y673.length + y676.length < 17592186044416 then ((mul_Gemv.f k4 t669 t565 t566 t567 t568 (y673 ++ y676)).bind fun bt682 => ((some (([] : List Int) : List Int)).bind fun y687 => (if y687.length + t585.length < 17592186044416 then ((some (y687 ++ t585 : List Int)).bind fun y690 => ((some (([0] : List Int) : List Int)).bind fun y693 => (if y690.length + y693.length < 17592186044416 then ((mul_Ger.f k4 bt682.2.2 t565 t566 t567 t568 a4 t585 (y690 ++ y693)).bind fun bt699 => ((mul_Gemm.f k4 bt699.2.2.2.2.2 t565 t566 (wrap64 ((-1) - (Go.bits .and .i64 a5 7))) t568 t572 t573 t574 t575).bind fun bt707 => (if t668 = 4 then (if bt682.2.1 = 4 then (if bt699.2.2.2.2.1 = 4 then (if bt707.2.2.2.2.1 = 4 then (some (bt707.2.2.2.2.2 == x599000_4)) else (some false)) else (some false)) else (some false)) else (some false)))) else (none)))) else (none)))) else (none))) = some r := by first | (rw [hy673]; with_reducible exact H) | (have H2_ := (Option.bind_some _ _).symm.trans H; rw [hy673]; with_reducible exact H2_) | (have H2_ := (Option.bind_some _ _).symm.trans H; with_reducible exact H2_) | with_reducible exact H | (rw [hy673]; exact H) | exact H
              have Ny673 := Aside0.mk hy673
              clear hy673
              obtain ⟨y676, hy676⟩ : ∃ y_ : List Int, y_ = (([0] : List Int)) := ⟨_, rfl⟩
              replace H : (if y673.length + y676.length < 17592186044416 then ((mul_Gemv.f k4 t669 t565 t566 t567 t568 (y673 ++ y676)).bind fun bt682 => ((some (([] : List Int) : List Int)).bind fun y687 => (if y687.length + t585.length < 17592186044416 then ((some (y687 ++ t585 : List Int)).bind fun y690 => ((some (([0] : List Int) : List Int)).bind fun y693 => (if y690.length + y693.length < 17592186044416 then ((mul_Ger.f k4 bt682.2.2 t565 t566 t567 t568 a4 t585 (y690 ++ y693)).bind fun bt699 => ((mul_Gemm.f k4 bt699.2.2.2.2.2 t565 t566 (wrap64 ((-1) - (Go.bits .and .i64 a5 7))) t568 t572 t573 t574 t575).bind fun bt707 => (if t668 = 4 then (if bt682.2.1 = 4 then (if bt699.2.2.2.2.1 = 4 then (if bt707.2.2.2.2.1 = 4 then (some (bt707.2.2.2.2.2 == x599000_4)) else (some false)) else (some false)) else (some false)) else (some false)))) else (none)))) else (none)))) else (none)) = some r := by first | (rw [hy676]; with_reducible exact H) | (have H2_ := (Option.bind_some _ _).symm.trans H; rw [hy676]; with_reducible exact H2_) | (have H2_ := (Option.bind_some _ _).symm.trans H; with_reducible exact H2_) | with_reducible exact H | (rw [hy676]; exact H) | exact H
              have Ny676 := Aside0.mk hy676
              clear hy676
              by_cases c164 : y673.length + y676.length < 17592186044416
              rotate_left
              ·
               rw [if_neg c164] at H
               exact absurd H (by simp)
              rw [if_pos c164] at H
              have LMc164 := Aside0.mk c164
              clear c164
              obtain ⟨y679, hy679⟩ : ∃ y_ : List Int, y_ = (y673 ++ y676) := ⟨_, rfl⟩
              replace H : ((mul_Gemv.f k4 t669 t565 t566 t567 t568 y679).bind fun bt682 => ((some (([] : List Int) : List Int)).bind fun y687 => (if y687.length + t585.length < 17592186044416 then ((some (y687 ++ t585 : List Int)).bind fun y690 => ((some (([0] : List Int) : List Int)).bind fun y693 => (if y690.length + y693.length < 17592186044416 then ((mul_Ger.f k4 bt682.2.2 t565 t566 t567 t568 a4 t585 (y690 ++ y693)).bind fun bt699 => ((mul_Gemm.f k4 bt699.2.2.2.2.2 t565 t566 (wrap64 ((-1) - (Go.bits .and .i64 a5 7))) t568 t572 t573 t574 t575).bind fun bt707 => (if t668 = 4 then (if bt682.2.1 = 4 then (if bt699.2.2.2.2.1 = 4 then (if bt707.2.2.2.2.1 = 4 then (some (bt707.2.2.2.2.2 == x599000_4)) else (some false)) else (some false)) else (some false)) else (some false)))) else (none)))) else (none)))) = some r := by first | (rw [hy679]; with_reducible exact H) | (have H2_ := (Option.bind_some _ _).symm.trans H; rw [hy679]; with_reducible exact H2_) | (have H2_ := (Option.bind_some _ _).symm.trans H; with_reducible exact H2_) | with_reducible exact H | (rw [hy679]; exact H) | exact H
              have Ny679 := Aside0.mk hy679
              clear hy679
              obtain ⟨⟨t682, t685, t686⟩, A1650, H⟩ := Option.bind_eq_some_iff.mp H
              (try dsimp -simprocs only at H)
              have A165 := Aside0.mk A1650
              clear A1650
              obtain ⟨y687, hy687⟩ : ∃ y_ : List Int, y_ = (([] : List Int)) := ⟨_, rfl⟩
              replace H : (if y687.length + t585.length < 17592186044416 then ((some (y687 ++ t585 : List Int)).bind fun y690 => ((some (([0] : List Int) : List Int)).bind fun y693 => (if y690.length + y693.length < 17592186044416 then ((mul_Ger.f k4 t686 t565 t566 t567 t568 a4 t585 (y690 ++ y693)).bind fun bt699 => ((mul_Gemm.f k4 bt699.2.2.2.2.2 t565 t566 (wrap64 ((-1) - (Go.bits .and .i64 a5 7))) t568 t572 t573 t574 t575).bind fun bt707 => (if t668 = 4 then (if t685 = 4 then (if bt699.2.2.2.2.1 = 4 then (if bt707.2.2.2.2.1 = 4 then (some (bt707.2.2.2.2.2 == x599000_4)) else (some false)) else (some false)) else (some false)) else (some false)))) else (none)))) else (none)) = some r := by first | (rw [hy687]; with_reducible exact H) | (have H2_ := (Option.bind_some _ _).symm.trans H; rw [hy687]; with_reducible exact H2_) | (have H2_ := (Option.bind_some _ _).symm.trans H; with_reducible exact H2_) | with_reducible exact H | (rw [hy687]; exact H) | exact H
              have Ny687 := Aside0.mk hy687
              clear hy687
              by_cases c166 : y687.length + t585.length < 17592186044416
              rotate_left
              ·
               rw [if_neg c166] at H
               exact absurd H (by simp)
              rw [if_pos c166] at H
              have LMc166 := Aside0.mk c166
              clear c166
              obtain ⟨y690, hy690⟩ : ∃ y_ : List Int, y_ = (y687 ++ t585) := ⟨_, rfl⟩
              replace H : ((some (([0] : List Int) : List Int)).bind fun y693 => (if y690.length + y693.length < 17592186044416 then ((mul_Ger.f k4 t686 t565 t566 t567 t568 a4 t585 (y690 ++ y693)).bind fun bt699 => ((mul_Gemm.f k4 bt699.2.2.2.2.2 t565 t566 (wrap64 ((-1) - (Go.bits .and .i64 a5 7))) t568 t572 t573 t574 t575).bind fun bt707 => (if t668 = 4 then (if t685 = 4 then (if bt699.2.2.2.2.1 = 4 then (if bt707.2.2.2.2.1 = 4 then (some (bt707.2.2.2.2.2 == x599000_4)) else (some false)) else (some false)) else (some false)) else (some false)))) else (none))) = some r := by first | (rw [hy690]; with_reducible exact H) | (have H2_ := (Option.bind_some _ _).symm.trans H; rw [hy690]; with_reducible exact H2_) | (have H2_ := (Option.bind_some _ _).symm.trans H; with_reducible exact H2_) | with_reducible exact H | (rw [hy690]; exact H) | exact H
              have Ny690 := Aside0.mk hy690
              clear hy690
              obtain ⟨y693, hy693⟩ : ∃ y_ : List Int, y_ = (([0] : List Int)) := ⟨_, rfl⟩
              replace H : (if y690.length + y693.length < 17592186044416 then ((mul_Ger.f k4 t686 t565 t566 t567 t568 a4 t585 (y690 ++ y693)).bind fun bt699 => ((mul_Gemm.f k4 bt699.2.2.2.2.2 t565 t566 (wrap64 ((-1) - (Go.bits .and .i64 a5 7))) t568 t572 t573 t574 t575).bind fun bt707 => (if t668 = 4 then (if t685 = 4 then (if bt699.2.2.2.2.1 = 4 then (if bt707.2.2.2.2.1 = 4 then (some (bt707.2.2.2.2.2 == x599000_4)) else (some false)) else (some false)) else (some false)) else (some false)))) else (none)) = some r := by first | (rw [hy693]; with_reducible exact H) | (have H2_ := (Option.bind_some _ _).symm.trans H; rw [hy693]; with_reducible exact H2_) | (have H2_ := (Option.bind_some _ _).symm.trans H; with_reducible exact H2_) | with_reducible exact H | (rw [hy693]; exact H) | exact H
              have Ny693 := Aside0.mk hy693
              clear hy693
              by_cases c167 : y690.length + y693.length < 17592186044416
              rotate_left
              ·
               rw [if_neg c167] at H
               exact absurd H (by simp)
              rw [if_pos c167] at H
              have LMc167 := Aside0.mk c167
              clear c167
              obtain ⟨y696, hy696⟩ : ∃ y_ : List Int, y_ = (y690 ++ y693) := ⟨_, rfl⟩
              replace H : ((mul_Ger.f k4 t686 t565 t566 t567 t568 a4 t585 y696).bind fun bt699 => ((mul_Gemm.f k4 bt699.2.2.2.2.2 t565 t566 (wrap64 ((-1) - (Go.bits .and .i64 a5 7))) t568 t572 t573 t574 t575).bind fun bt707 => (if t668 = 4 then (if t685 = 4 then (if bt699.2.2.2.2.1 = 4 then (if bt707.2.2.2.2.1 = 4 then (some (bt707.2.2.2.2.2 == x599000_4)) else (some false)) else (some false)) else (some false)) else (some false)))) = some r := by first | (rw [hy696]; with_reducible exact H) | (have H2_ := (Option.bind_some _ _).symm.trans H; rw [hy696]; with_reducible exact H2_) | (have H2_ := (Option.bind_some _ _).symm.trans H; with_reducible exact H2_) | with_reducible exact H | (rw [hy696]; exact H) | exact H
              have Ny696 := Aside0.mk hy696
              clear hy696
              obtain ⟨⟨t699, t700, t701, t702, t705, t706⟩, A1680, H⟩ := Option.bind_eq_some_iff.mp H
              (try dsimp -simprocs only at H)
              have A168 := Aside0.mk A1680
              clear A1680
              obtain ⟨⟨t707, t708, t709, t710, t713, t714⟩, A1690, H⟩ := Option.bind_eq_some_iff.mp H
              (try dsimp -simprocs only at H)
              have A169 := Aside0.mk A1690
              clear A1690
              by_cases c170 : t668 = 4
              rotate_left
              ·
               rw [if_neg c170] at H
               have c170b0 : (t668 == 4) = false := beq_eq_false_iff_ne.mpr c170
               have c170b1 : (t668 != 4) = true := bne_iff_ne.mpr c170
               rw [hLW] at H
               exact absurd H (by simp)
              rw [if_pos c170] at H
              have c170b0 : (t668 == 4) = true := beq_iff_eq.mpr c170
              have c170b1 : (t668 != 4) = false := bne_eq_false_iff_eq.mpr c170
              clear c170
              by_cases c171 : t685 = 4
              rotate_left
              ·
               rw [if_neg c171] at H
               have c171b0 : (t685 == 4) = false := beq_eq_false_iff_ne.mpr c171
               have c171b1 : (t685 != 4) = true := bne_iff_ne.mpr c171
               rw [hLW] at H
               exact absurd H (by simp)
              rw [if_pos c171] at H
              have c171b0 : (t685 == 4) = true := beq_iff_eq.mpr c171
              have c171b1 : (t685 != 4) = false := bne_eq_false_iff_eq.mpr c171
              clear c171
              by_cases c172 : t705 = 4
              rotate_left
              ·
               rw [if_neg c172] at H
               have c172b0 : (t705 == 4) = false := beq_eq_false_iff_ne.mpr c172
               have c172b1 : (t705 != 4) = true := bne_iff_ne.mpr c172
               rw [hLW] at H
               exact absurd H (by simp)
              rw [if_pos c172] at H
              have c172b0 : (t705 == 4) = true := beq_iff_eq.mpr c172
              have c172b1 : (t705 != 4) = false := bne_eq_false_iff_eq.mpr c172
              clear c172
              by_cases c173 : t713 = 4
              rotate_left
              ·
               rw [if_neg c173] at H
               have c173b0 : (t713 == 4) = false := beq_eq_false_iff_ne.mpr c173
               have c173b1 : (t713 != 4) = true := bne_iff_ne.mpr c173
               rw [hLW] at H
               exact absurd H (by simp)
              rw [if_pos c173] at H
              have c173b0 : (t713 == 4) = true := beq_iff_eq.mpr c173
              have c173b1 : (t713 != 4) = false := bne_eq_false_iff_eq.mpr c173
              clear c173
              obtain rfl := Option.some.inj H
              try go_wp2
              refine ax8 (Kd.R_drew HO_15.out) (Kd.R_drew HO_572003.out) (Kd.R_drew HO_579003.out) (blk_drew BK571.out) (blk_drew BK578.out) (IsS40.drew HI597.out) (IsS40.drew HI598.out) (below_drew1 HB.out) ?_
              clear HO_15 HO_572003 HO_579003 BK571 BK578 HI597 HI598 HB
              intro HO_15 HO_572003 HO_579003 BK571 BK578 HI597 HI598 HB
              refine start_ (n := 9) (S := fun w' => w'.cell? ⟨gb597, 0, none⟩ = some (.int .u8 t620) ∧ w'.cell? ⟨gb598, 0, none⟩ = some (.int .u8 x599000_4)) (ds := []) #[false, false, false, false, false, false, false, false, false] (by kernel_rfl) rfl rfl ⟨(blk_cell HI597.out.1 0).trans rfl, (blk_cell HI598.out.1 0).trans rfl⟩ (fun hHeld => ?_); refine with_tabW gimballaw11_MulSteps.tab44 gimballaw11_MulSteps.bits44 (fun HT_ HW_ => ?_)
              generalize wr.drew = w174 at HO_15 HO_572003 HO_579003 BK571 BK578 HI597 HI598 HB hHeld ⊢
              refine pu 0 216 (lm 9 1) HT_ ?_
              refine pu 1 217 (lm 9 3) HT_ ?_
              refine pu 2 218 (lm 9 7) HT_ ?_
              refine pu 4 220 (lm 9 23) HT_ ?_
              refine pu 5 221 (lm 9 55) HT_ ?_
              refine pu 6 222 (lm 9 119) HT_ ?_
              refine ta 3 219 (lm 9 127) HT_ HW_ hHeld ?_
              refine ta 7 223 (lm 9 255) HT_ HW_ hHeld ?_
              refine pu 8 224 (lm 9 511) HT_ ?_
              refine done_ (done_of HT_.out (by kernel_rfl)) ?_
              try go_wp2
              refine ax8 (Kd.R_drew HO_15.out) (Kd.R_drew HO_572003.out) (Kd.R_drew HO_579003.out) (blk_drew BK571.out) (blk_drew BK578.out) (IsS40.drew HI597.out) (IsS40.drew HI598.out) (below_drew1 HB.out) ?_
              clear HO_15 HO_572003 HO_579003 BK571 BK578 HI597 HI598 HB
              intro HO_15 HO_572003 HO_579003 BK571 BK578 HI597 HI598 HB
              refine start_ (n := 12) (S := fun w' => w'.cell? ⟨gb571, 0, none⟩ = some (.int .i64 t565) ∧ w'.cell? ⟨gb571, 1, none⟩ = some (.int .i64 t566) ∧ w'.cell? ⟨gb571, 2, none⟩ = some (.int .i64 t567) ∧ w'.cell? ⟨gb571, 3, none⟩ = some (.slice Ao25 t568.length co25)) (ds := []) #[false, false, false, false, false, false, false, false, false, false, false, false] (by kernel_rfl) rfl rfl ⟨bk BK571 0, bk BK571 1, bk BK571 2, bk BK571 3⟩ (fun hHeld => ?_); refine with_tabW gimballaw11_MulSteps.tab46 gimballaw11_MulSteps.bits46 (fun HT_ HW_ => ?_)
              generalize w174.drew = w175 at HO_15 HO_572003 HO_579003 BK571 BK578 HI597 HI598 HB hHeld ⊢
              refine pu 0 226 (lm 12 1) HT_ ?_
              refine pu 2 228 (lm 12 5) HT_ ?_
              refine pu 3 229 (lm 12 13) HT_ ?_
              refine pu 4 230 (lm 12 29) HT_ ?_
              refine pu 5 231 (lm 12 61) HT_ ?_
              refine ta 1 227 (lm 12 63) HT_ HW_ hHeld ?_
              refine on 6 (some 232) (lm 12 127) HT_ (fun K hK => ?_)
              refine goes_ Try.func6 (by kernel_rfl) rfl #[.int .i64 (wrap64 ((Go.bits .and .i64 a1 7) + 1)), .int .i64 (Go.bits .and .i64 a2 7), .slice A3 l3.length c3, .int .i64 0] (by rfl) rfl rfl ga ?_
              with_reducible refine (gimballaw11_made.calls k4 (wrap64 ((Go.bits .and .i64 a1 7) + 1)) (Go.bits .and .i64 a2 7) _ _ l3 0 t656 t657 t658 t659 _ ?side1 ?side2 A161.out).mono ?_
              (case side1 => repeat (first | exact (Kd.C_below HR3.out HB.out) | (with_reducible refine Kd.C_alloc ?_ _) | (with_reducible refine Kd.C_drewN ?_ _) | (with_reducible refine Kd.C_drew ?_)))
              (case side2 => exact HC3.out)
              rintro e w176 ⟨v660, rfl, ho0, hb⟩
              refine ⟨_, rfl, ?_⟩
              refine ax9 (Kd.R_elder' (kr HO_15) (Kd.R_base ho0) hb) (Kd.R_elder' (kr HO_572003) (Kd.R_base ho0) hb) (Kd.R_elder' (kr HO_579003) (Kd.R_base ho0) hb) (Kd.R_lower (Kd.R_new' (Kd.R_new' (Kd.R_new' ho0 (Kd.R_lt (kr HO_15))) (Kd.R_lt (kr HO_572003))) (Kd.R_lt (kr HO_579003))) (below_size sb40)) (bb BK571 hb) (bb BK578 hb) (IsS40.below (ss40 HI597) hb) (IsS40.below (ss40 HI598) hb) (below_step sb40 hb) ?_
              clear HO_15 HO_572003 HO_579003 BK571 BK578 HI597 HI598 HB
              intro HO_15 HO_572003 HO_579003 HO661 BK571 BK578 HI597 HI598 HB
              (try clear hb)
              (try clear hb2)
              (try clear hk)
              (try clear hi)
              (try clear ho0)
              obtain ⟨Ao177, co177, eo177⟩ := Kd.R_slice HO661.out
              (first | subst eo177 | (injection eo177 with f1_ f2_ f3_; have f4_ := f1_.symm; have f5_ := f3_.symm; clear f1_ f2_ f3_; subst f4_; subst f5_))
              refine hK.out _ _ ⟨bk BK571 0, bk BK571 1, bk BK571 2, bk BK571 3⟩ (fun hHeld => ?_)
              clear hK K
              refine no 232 ?_
              refine on 7 (some 233) (lm 12 255) HT_ (fun K hK => ?_)
              refine goes_ Try.func8 (by kernel_rfl) rfl #[.pointer (some ⟨gb597, 0, none⟩), .agg #[.int .i64 t565, .int .i64 t566, .int .i64 t567, .slice Ao25 t568.length co25], .agg #[.int .i64 t656, .int .i64 t657, .int .i64 t658, .slice Ao177 t659.length co177]] (by rfl) rfl rfl ga ?_
              with_reducible refine (mul_Gemm.calls k4 gb597 t620 t565 t566 t567 _ _ t568 t656 t657 t658 _ _ t659 t662 t663 t664 t665 t668 t669 w _ ?side1 ?side2 ?side3 ?side4 ?side5 ?side6 ?side7 ?side8 A162.out).mono ?_
              (case side1 => repeat (first | (with_reducible first | exact HI597.out | apply IsS40.alloc | apply IsS40.drewN | apply IsS40.drew | apply IsS40.set_0 | refine IsS40.far ?_ NB597_571.out _ | refine IsS40.far ?_ NB597_578.out _ | refine IsS40.far ?_ NB597_598.out _) | exact HI597.out))
              (case side2 => repeat (first | (with_reducible first | exact HB.out | apply below_alloc | apply pw_below_drewN | apply below_drew1 | refine below_set ?_ (IsS40.ge HI597.out) | refine below_set ?_ (IsS40.ge HI598.out) | refine below_set ?_ GE571.out | refine below_set ?_ GE578.out) | exact HB.out))
              (case side3 => exact ks HO_572003)
              (case side4 => exact (Kd.R_reads' HO_572003.out).2.1)
              (case side5 => exact far_slice (IsS40.own_ne HI597.out HO_572003.out (by decide)))
              (case side6 => exact ks HO661)
              (case side7 => exact (Kd.R_reads' HO661.out).2.1)
              (case side8 => exact far_slice (IsS40.own_ne HI597.out HO661.out (by decide)))
              rintro e w178 ⟨v666, rfl, ho0, hi, hb, hk⟩
              refine ⟨_, rfl, ?_⟩
              refine ax10 (Kd.R_mono (Kd.R_told (Kd.R_oldK (IsS40.apart (show IsS40 w _ gb597 t620 from ss40 HI597) (kr HO_15) (by decide)) hk) (Kd.R_base ho0)) (fun _ h_ => h_.1)) (Kd.R_mono (Kd.R_told (Kd.R_oldK (IsS40.apart (show IsS40 w _ gb597 t620 from ss40 HI597) (kr HO_572003) (by decide)) hk) (Kd.R_base ho0)) (fun _ h_ => h_.1)) (Kd.R_mono (Kd.R_told (Kd.R_oldK (IsS40.apart (show IsS40 w _ gb597 t620 from ss40 HI597) (kr HO_579003) (by decide)) hk) (Kd.R_base ho0)) (fun _ h_ => h_.1)) (KeepBut.blk hk (g' := gb571) (o := .cells #[.int .i64 t565, .int .i64 t566, .int .i64 t567, .slice Ao25 t568.length co25] 25 (0, 0)) (kb BK571) NB571_597.out (by simp)) (KeepBut.blk hk (g' := gb578) (o := .cells #[.int .i64 t572, .int .i64 t573, .int .i64 t574, .slice Ao30 t575.length co30] 25 (0, 0)) (kb BK578) NB578_597.out (by simp)) ((show IsS40 w _ gb598 x599000_4 from ⟨KeepBut.blk hk (show IsS40 w _ gb598 x599000_4 from ss40 HI598).1 NB598_597.out (by simp), (show IsS40 w _ gb598 x599000_4 from ss40 HI598).2⟩)) (Kd.R_mono (Kd.R_told (Kd.R_oldK (IsS40.apart (show IsS40 w _ gb597 t620 from ss40 HI597) (kr HO661) (by decide)) hk) (Kd.R_base ho0)) (fun _ h_ => h_.1)) (Kd.R_lower (Kd.R_new' (Kd.R_new' (Kd.R_new' (Kd.R_new' ho0 (Kd.R_lt (kr HO_15))) (Kd.R_lt (kr HO_572003))) (Kd.R_lt (kr HO_579003))) (Kd.R_lt (kr HO661))) (below_size sb40)) hb hi ?_
              clear HO_15 HO_572003 HO_579003 BK571 BK578 HI598 HO661 HB HI597
              intro HO_15 HO_572003 HO_579003 BK571 BK578 HI598 HO661 HO667 HB HI597
              (try clear hb)
              (try clear hb2)
              (try clear hk)
              (try clear hi)
              (try clear ho0)
              refine hK.out _ _ ⟨bk BK571 0, bk BK571 1, bk BK571 2, bk BK571 3⟩ (fun hHeld => ?_)
              clear hK K
              refine no 233 ?_
              refine pu 8 225 (lm 12 511) HT_ ?_
              refine pu 9 234 (lm 12 1023) HT_ ?_
              refine pu 10 235 (lm 12 2047) HT_ ?_
              refine pu 11 20 (lm 12 4095) HT_ ?_
              refine done_ (done_of HT_.out (by kernel_rfl)) ?_
              try go_wp2
              refine ax8 (Kd.R_drew HO_15.out) (Kd.R_drew HO_572003.out) (Kd.R_drew HO_579003.out) (blk_drew BK571.out) (blk_drew BK578.out) (IsS40.drew HI597.out) (IsS40.drew HI598.out) (below_drew1 HB.out) ?_
              clear HO_15 HO_572003 HO_579003 BK571 BK578 HI597 HI598 HB
              intro HO_15 HO_572003 HO_579003 BK571 BK578 HI597 HI598 HB
              refine start_ (n := 12) (S := fun w' => w'.cell? ⟨gb571, 0, none⟩ = some (.int .i64 t565) ∧ w'.cell? ⟨gb571, 1, none⟩ = some (.int .i64 t566) ∧ w'.cell? ⟨gb571, 2, none⟩ = some (.int .i64 t567) ∧ w'.cell? ⟨gb571, 3, none⟩ = some (.slice Ao25 t568.length co25)) (ds := []) #[false, false, false, false, false, false, false, false, false, false, false, false] (by kernel_rfl) rfl rfl ⟨bk BK571 0, bk BK571 1, bk BK571 2, bk BK571 3⟩ (fun hHeld => ?_); refine with_tabW gimballaw11_MulSteps.tab47 gimballaw11_MulSteps.bits47 (fun HT_ HW_ => ?_)
              generalize w178.drew = w179 at HO_15 HO_572003 HO_579003 BK571 BK578 HI597 HI598 HB hHeld ⊢
              refine pu 0 237 (lm 12 1) HT_ ?_
              refine pu 3 240 (lm 12 9) HT_ ?_
              refine ta 1 238 (lm 12 11) HT_ HW_ hHeld ?_
              refine join_ (σ := Value × Value × Value) 6 #[true, true, true, true, true, true, false, false, false, false, false, false] (fun s_ => [(239, s_.1), (241, s_.2.1), (242, s_.2.2)]) (fun s_ w' => (w'.cell? ⟨gb571, 0, none⟩ = some (.int .i64 t565) ∧ w'.cell? ⟨gb571, 1, none⟩ = some (.int .i64 t566) ∧ w'.cell? ⟨gb571, 2, none⟩ = some (.int .i64 t567) ∧ w'.cell? ⟨gb571, 3, none⟩ = some (.slice Ao25 t568.length co25)) ∧ (Kd.R (Kd.int .u64) 33 w' w.heap.size (fun k_ => some k_ ≠ (s_.2.2 : Value).ownBlock ∧ some k_ ≠ (.slice Ao54 t585.length co54 : Value).ownBlock ∧ some k_ ≠ (.slice Ao25 t568.length co25 : Value).ownBlock ∧ some k_ ≠ (.slice Ao30 t575.length co30 : Value).ownBlock) s_.2.1 y673) ∧ (Kd.R (Kd.int .u64) 33 w' w.heap.size (fun k_ => some k_ ≠ (s_.2.1 : Value).ownBlock ∧ some k_ ≠ (.slice Ao54 t585.length co54 : Value).ownBlock ∧ some k_ ≠ (.slice Ao25 t568.length co25 : Value).ownBlock ∧ some k_ ≠ (.slice Ao30 t575.length co30 : Value).ownBlock) s_.2.2 y676) ∧ (Kd.R (Kd.int .u64) 33 w' w.heap.size (fun k_ => some k_ ≠ (s_.2.1 : Value).ownBlock ∧ some k_ ≠ (s_.2.2 : Value).ownBlock ∧ some k_ ≠ (.slice Ao25 t568.length co25 : Value).ownBlock ∧ some k_ ≠ (.slice Ao30 t575.length co30 : Value).ownBlock) (.slice Ao54 t585.length co54) t585) ∧ (Kd.R (Kd.int .u64) 33 w' w.heap.size (fun k_ => some k_ ≠ (s_.2.1 : Value).ownBlock ∧ some k_ ≠ (s_.2.2 : Value).ownBlock ∧ some k_ ≠ (.slice Ao54 t585.length co54 : Value).ownBlock ∧ some k_ ≠ (.slice Ao30 t575.length co30 : Value).ownBlock) (.slice Ao25 t568.length co25) t568) ∧ (Kd.R (Kd.int .u64) 33 w' w.heap.size (fun k_ => some k_ ≠ (s_.2.1 : Value).ownBlock ∧ some k_ ≠ (s_.2.2 : Value).ownBlock ∧ some k_ ≠ (.slice Ao54 t585.length co54 : Value).ownBlock ∧ some k_ ≠ (.slice Ao25 t568.length co25 : Value).ownBlock) (.slice Ao30 t575.length co30) t575) ∧ (w'.heap[gb571]? = some (.cells #[.int .i64 t565, .int .i64 t566, .int .i64 t567, .slice Ao25 t568.length co25] 25 (0, 0))) ∧ (w'.heap[gb578]? = some (.cells #[.int .i64 t572, .int .i64 t573, .int .i64 t574, .slice Ao30 t575.length co30] 25 (0, 0))) ∧ (IsS40 w w' gb597 t669) ∧ (IsS40 w w' gb598 x599000_4) ∧ (Below w.heap.size w w')) ?_ ?_
              rotate_left
              ·
               intro hCont
               refine two_ (i := 2) (j := 5) (Ni := some 239) (Nj := some 242) #[true, true, true, true, false, false, false, false, false, false, false, false] #[true, true, false, true, false, true, false, false, false, false, false, false] rfl rfl rfl rfl (two_of HT_.out (by kernel_rfl)) (by decide) (by decide) (fun K hK => ?_) (fun K hK => ?_)
               ·
                skip
                refine Kd.R_lit_step (Kd.int .u64) _ 33 ?hg (N := 239) ?hd (xs := ([] : List Int)) (inner := []) (ok := fun _ => True) (okp := fun _ => True) ?hr ?hp (fun _ hk => hk) trivial (Below.refl _ _) (Nat.le_refl _) (by simp) ?_; (case hd => rfl); (case hg => rfl); (case hr => first | (go_simp; done) | (go_simp; rfl)); (case hp => exact (Reps.none _ _))
                intro v671 w180 ho181 hb hg_ hnew_
                clear hg_ hnew_
                (first | rw [← Ny670.out] at ho181 | (simp only [Int.reduceToNat] at ho181; rw [← Ny670.out] at ho181))
                refine ax9 (Kd.R_elder' (kr HO_15) (Kd.R_base ho181) hb) (Kd.R_elder' (kr HO_572003) (Kd.R_base ho181) hb) (Kd.R_elder' (kr HO_579003) (Kd.R_base ho181) hb) (Kd.R_lower (Kd.R_new' (Kd.R_new' (Kd.R_new' ho181 (Kd.R_lt (kr HO_15))) (Kd.R_lt (kr HO_572003))) (Kd.R_lt (kr HO_579003))) (below_size sb40)) (bb BK571 hb) (bb BK578 hb) (IsS40.below (ss40 HI597) hb) (IsS40.below (ss40 HI598) hb) (below_step sb40 hb) ?_
                clear HO_15 HO_572003 HO_579003 BK571 BK578 HI597 HI598 HB
                intro HO_15 HO_572003 HO_579003 HO672 BK571 BK578 HI597 HI598 HB
                clear hb ho181
                refine hK.out _ _ ⟨bk BK571 0, bk BK571 1, bk BK571 2, bk BK571 3⟩ (fun hHeld => ?_)
                clear hK K
                refine no 239 ?_
                refine two_ (i := 4) (j := 5) (Ni := some 241) (Nj := some 242) #[true, true, true, true, true, false, false, false, false, false, false, false] #[true, true, true, true, false, true, false, false, false, false, false, false] rfl rfl rfl rfl (two_of HT_.out (by kernel_rfl)) (by decide) (by decide) (fun K hK => ?_) (fun K hK => ?_)
                ·
                 skip
                 refine Kd.R_append_rows_step (Kd.int .u64) (w0 := w) w.heap.size (by rfl) (.tmp 239) (.tmp 240) 22 33 (.int .u64 0) 8 rfl Try.underlying22 info33 rfl (by decide) (by omega) v671 y670 t585 _ _ _ (fun k_ => some k_ ≠ (.slice Ao54 t585.length co54 : Value).ownBlock ∧ some k_ ≠ (.slice Ao25 t568.length co25 : Value).ownBlock ∧ some k_ ≠ (.slice Ao30 t575.length co30 : Value).ownBlock) (fun _ => False) rfl rfl ?aO ?aR (fun _ _ h => h) (fun _ h => h.elim) ?aF ?aB ?aS ?aL ?_
                 (case aR => exact ks HO_15)
                 (case aB => exact sb40)
                 (case aF => exact (fun k_ hk => ⟨Kd.fresh' (Kd.R_lt (kr HO_15)) k_ hk, Kd.fresh' (Kd.R_lt (kr HO_572003)) k_ hk, Kd.fresh' (Kd.R_lt (kr HO_579003)) k_ hk⟩))
                 (case aO => exact (km HO672 fun _ hk => ⟨hk.1.1.2, ⟨hk.1.2, hk.2⟩⟩))
                 (case aS => exact (below_size sb40))
                 (case aL => have := LMc163.out; omega)
                 intro v674 w182 ho hb hg hat
                 rw [← Ny673.out] at ho
                 refine ax9 (Kd.R_after (ok := (fun k_ => some k_ ≠ (.slice Ao25 t568.length co25 : Value).ownBlock ∧ some k_ ≠ (.slice Ao30 t575.length co30 : Value).ownBlock)) (km HO_15 fun _ hk => ⟨⟨hk.1.1.1.2.1, hk.1.1.1.2.2.1⟩, hk.2⟩) hg hat) (Kd.R_after (ok := (fun k_ => some k_ ≠ (.slice Ao54 t585.length co54 : Value).ownBlock ∧ some k_ ≠ (.slice Ao30 t575.length co30 : Value).ownBlock)) (km HO_572003 fun _ hk => ⟨⟨hk.1.1.1.1, hk.1.1.1.2.2.1⟩, hk.2⟩) hg hat) (Kd.R_after (ok := (fun k_ => some k_ ≠ (.slice Ao54 t585.length co54 : Value).ownBlock ∧ some k_ ≠ (.slice Ao25 t568.length co25 : Value).ownBlock)) (km HO_579003 fun _ hk => ⟨⟨hk.1.1.1.1, hk.1.1.1.2.2.1⟩, hk.2⟩) hg hat) (blk_grown (g := gb571) (o := .cells #[.int .i64 t565, .int .i64 t566, .int .i64 t567, .slice Ao25 t568.length co25] 25 (0, 0)) (kb BK571) hg (Kd.R_ne HO672.out BK571.out (by decide))) (blk_grown (g := gb578) (o := .cells #[.int .i64 t572, .int .i64 t573, .int .i64 t574, .slice Ao30 t575.length co30] 25 (0, 0)) (kb BK578) hg (Kd.R_ne HO672.out BK578.out (by decide))) (IsS40.grown (ss40 HI597) hg (IsS40.own_ne HI597.out HO672.out (by decide))) (IsS40.grown (ss40 HI598) hg (IsS40.own_ne HI598.out HO672.out (by decide))) hb ho ?_
                 clear HO_15 HO_572003 HO_579003 BK571 BK578 HI597 HI598 HB HO672
                 intro HO_15 HO_572003 HO_579003 BK571 BK578 HI597 HI598 HB HO675
                 clear ho hb hg hat
                 refine hK.out _ _ ⟨bk BK571 0, bk BK571 1, bk BK571 2, bk BK571 3⟩ (fun hHeld => ?_)
                 clear hK K
                 refine no 241 ?_
                 refine on 5 (some 242) (lm 12 63) HT_ (fun K hK => ?_)
                 refine Kd.R_lit_step (Kd.int .u64) _ 33 ?hg (N := 242) ?hd (xs := ([0] : List Int)) (inner := [.int .u64 0]) (ok := fun _ => True) (okp := fun _ => True) ?hr ?hp (fun _ hk => hk) trivial (Below.refl _ _) (Nat.le_refl _) (by simp) ?_; (case hd => rfl); (case hg => rfl); (case hr => first | (go_simp; done) | (go_simp; rfl)); (case hp => exact (Reps.one (show Kd.M (Kd.int .u64) _ _ _ 0 [.int .u64 0] from rfl) (Reps.none _ _)))
                 intro v677 w183 ho184 hb hg_ hnew_
                 clear hg_ hnew_
                 (first | rw [← Ny676.out] at ho184 | (simp only [Int.reduceToNat] at ho184; rw [← Ny676.out] at ho184))
                 refine ax10 (Kd.R_elder' (kr HO_15) (Kd.R_base ho184) hb) (Kd.R_elder' (kr HO_572003) (Kd.R_base ho184) hb) (Kd.R_elder' (kr HO_579003) (Kd.R_base ho184) hb) (Kd.R_elder' (kr HO675) (Kd.R_base ho184) hb) (Kd.R_lower (Kd.R_new' (Kd.R_new' (Kd.R_new' (Kd.R_new' ho184 (Kd.R_lt (kr HO_15))) (Kd.R_lt (kr HO_572003))) (Kd.R_lt (kr HO_579003))) (Kd.R_lt (kr HO675))) (below_size sb40)) (bb BK571 hb) (bb BK578 hb) (IsS40.below (ss40 HI597) hb) (IsS40.below (ss40 HI598) hb) (below_step sb40 hb) ?_
                 clear HO_15 HO_572003 HO_579003 HO675 BK571 BK578 HI597 HI598 HB
                 intro HO_15 HO_572003 HO_579003 HO675 HO678 BK571 BK578 HI597 HI598 HB
                 clear hb ho184
                 refine hK.out _ _ ⟨bk BK571 0, bk BK571 1, bk BK571 2, bk BK571 3⟩ (fun hHeld => ?_)
                 clear hK K
                 refine no 242 ?_
                 exact nP (hCont (v671, v674, v677) _ ⟨hHeld, (km HO675 fun _ hk => ⟨hk.2, ⟨hk.1.1, ⟨hk.1.2.1, hk.1.2.2⟩⟩⟩), (km HO678 fun _ hk => ⟨hk.2, ⟨hk.1.1.1.2, ⟨hk.1.1.2, hk.1.2⟩⟩⟩), (km HO_15 fun _ hk => ⟨hk.1.2, ⟨hk.2, ⟨hk.1.1.1, hk.1.1.2⟩⟩⟩), (km HO_572003 fun _ hk => ⟨hk.1.2, ⟨hk.2, ⟨hk.1.1.1, hk.1.1.2⟩⟩⟩), (km HO_579003 fun _ hk => ⟨hk.1.2, ⟨hk.2, ⟨hk.1.1.1, hk.1.1.2⟩⟩⟩), (kb BK571), (kb BK578), (ss40 HI597), (ss40 HI598), sb40⟩)
                ·
                 skip
                 refine Kd.R_lit_step (Kd.int .u64) _ 33 ?hg (N := 242) ?hd (xs := ([0] : List Int)) (inner := [.int .u64 0]) (ok := fun _ => True) (okp := fun _ => True) ?hr ?hp (fun _ hk => hk) trivial (Below.refl _ _) (Nat.le_refl _) (by simp) ?_; (case hd => rfl); (case hg => rfl); (case hr => first | (go_simp; done) | (go_simp; rfl)); (case hp => exact (Reps.one (show Kd.M (Kd.int .u64) _ _ _ 0 [.int .u64 0] from rfl) (Reps.none _ _)))
                 intro v677 w182 ho183 hb hg_ hnew_
                 clear hg_ hnew_
                 (first | rw [← Ny676.out] at ho183 | (simp only [Int.reduceToNat] at ho183; rw [← Ny676.out] at ho183))
                 refine ax10 (Kd.R_elder' (kr HO_15) (Kd.R_base ho183) hb) (Kd.R_elder' (kr HO_572003) (Kd.R_base ho183) hb) (Kd.R_elder' (kr HO_579003) (Kd.R_base ho183) hb) (Kd.R_elder' (kr HO672) (Kd.R_base ho183) hb) (Kd.R_lower (Kd.R_new' (Kd.R_new' (Kd.R_new' (Kd.R_new' ho183 (Kd.R_lt (kr HO_15))) (Kd.R_lt (kr HO_572003))) (Kd.R_lt (kr HO_579003))) (Kd.R_lt (kr HO672))) (below_size sb40)) (bb BK571 hb) (bb BK578 hb) (IsS40.below (ss40 HI597) hb) (IsS40.below (ss40 HI598) hb) (below_step sb40 hb) ?_
                 clear HO_15 HO_572003 HO_579003 HO672 BK571 BK578 HI597 HI598 HB
                 intro HO_15 HO_572003 HO_579003 HO672 HO678 BK571 BK578 HI597 HI598 HB
                 clear hb ho183
                 refine hK.out _ _ ⟨bk BK571 0, bk BK571 1, bk BK571 2, bk BK571 3⟩ (fun hHeld => ?_)
                 clear hK K
                 refine no 242 ?_
                 refine on 4 (some 241) (lm 12 63) HT_ (fun K hK => ?_)
                 refine Kd.R_append_rows_step (Kd.int .u64) (w0 := w) w.heap.size (by rfl) (.tmp 239) (.tmp 240) 22 33 (.int .u64 0) 8 rfl Try.underlying22 info33 rfl (by decide) (by omega) v671 y670 t585 _ _ _ (fun k_ => some k_ ≠ (.slice Ao54 t585.length co54 : Value).ownBlock ∧ some k_ ≠ (.slice Ao25 t568.length co25 : Value).ownBlock ∧ some k_ ≠ (.slice Ao30 t575.length co30 : Value).ownBlock ∧ some k_ ≠ (v677 : Value).ownBlock) (fun _ => False) rfl rfl ?aO ?aR (fun _ _ h => h) (fun _ h => h.elim) ?aF ?aB ?aS ?aL ?_
                 (case aR => exact ks HO_15)
                 (case aB => exact sb40)
                 (case aF => exact (fun k_ hk => ⟨Kd.fresh' (Kd.R_lt (kr HO_15)) k_ hk, Kd.fresh' (Kd.R_lt (kr HO_572003)) k_ hk, Kd.fresh' (Kd.R_lt (kr HO_579003)) k_ hk, Kd.fresh' (Kd.R_lt (kr HO678)) k_ hk⟩))
                 (case aO => exact (km HO672 fun _ hk => ⟨hk.1.1.1.2, ⟨hk.1.1.2, ⟨hk.1.2, hk.2⟩⟩⟩))
                 (case aS => exact (below_size sb40))
                 (case aL => have := LMc163.out; omega)
                 intro v674 w184 ho hb hg hat
                 rw [← Ny673.out] at ho
                 refine ax10 (Kd.R_after (ok := (fun k_ => some k_ ≠ (.slice Ao25 t568.length co25 : Value).ownBlock ∧ some k_ ≠ (.slice Ao30 t575.length co30 : Value).ownBlock ∧ some k_ ≠ (v677 : Value).ownBlock)) (km HO_15 fun _ hk => ⟨⟨hk.1.1.1.1.2.1, ⟨hk.1.1.1.1.2.2.1, hk.2⟩⟩, hk.1.2⟩) hg hat) (Kd.R_after (ok := (fun k_ => some k_ ≠ (.slice Ao54 t585.length co54 : Value).ownBlock ∧ some k_ ≠ (.slice Ao30 t575.length co30 : Value).ownBlock ∧ some k_ ≠ (v677 : Value).ownBlock)) (km HO_572003 fun _ hk => ⟨⟨hk.1.1.1.1.1, ⟨hk.1.1.1.1.2.2.1, hk.2⟩⟩, hk.1.2⟩) hg hat) (Kd.R_after (ok := (fun k_ => some k_ ≠ (.slice Ao54 t585.length co54 : Value).ownBlock ∧ some k_ ≠ (.slice Ao25 t568.length co25 : Value).ownBlock ∧ some k_ ≠ (v677 : Value).ownBlock)) (km HO_579003 fun _ hk => ⟨⟨hk.1.1.1.1.1, ⟨hk.1.1.1.1.2.2.1, hk.2⟩⟩, hk.1.2⟩) hg hat) (blk_grown (g := gb571) (o := .cells #[.int .i64 t565, .int .i64 t566, .int .i64 t567, .slice Ao25 t568.length co25] 25 (0, 0)) (kb BK571) hg (Kd.R_ne HO672.out BK571.out (by decide))) (blk_grown (g := gb578) (o := .cells #[.int .i64 t572, .int .i64 t573, .int .i64 t574, .slice Ao30 t575.length co30] 25 (0, 0)) (kb BK578) hg (Kd.R_ne HO672.out BK578.out (by decide))) (IsS40.grown (ss40 HI597) hg (IsS40.own_ne HI597.out HO672.out (by decide))) (IsS40.grown (ss40 HI598) hg (IsS40.own_ne HI598.out HO672.out (by decide))) (Kd.R_after (ok := (fun k_ => some k_ ≠ (.slice Ao54 t585.length co54 : Value).ownBlock ∧ some k_ ≠ (.slice Ao25 t568.length co25 : Value).ownBlock ∧ some k_ ≠ (.slice Ao30 t575.length co30 : Value).ownBlock)) (km HO678 fun _ hk => ⟨⟨hk.1.1.1.2, ⟨hk.1.1.2, hk.1.2⟩⟩, hk.2⟩) hg hat) hb ho ?_
                 clear HO_15 HO_572003 HO_579003 BK571 BK578 HI597 HI598 HO678 HB HO672
                 intro HO_15 HO_572003 HO_579003 BK571 BK578 HI597 HI598 HO678 HB HO675
                 clear ho hb hg hat
                 refine hK.out _ _ ⟨bk BK571 0, bk BK571 1, bk BK571 2, bk BK571 3⟩ (fun hHeld => ?_)
                 clear hK K
                 refine no 241 ?_
                 exact nP (hCont (v671, v674, v677) _ ⟨hHeld, (km HO675 fun _ hk => ⟨hk.2.2.2, ⟨hk.1, ⟨hk.2.1, hk.2.2.1⟩⟩⟩), (km HO678 fun _ hk => ⟨hk.2, ⟨hk.1.1, ⟨hk.1.2.1, hk.1.2.2⟩⟩⟩), (km HO_15 fun _ hk => ⟨hk.2, ⟨hk.1.2.2, ⟨hk.1.1, hk.1.2.1⟩⟩⟩), (km HO_572003 fun _ hk => ⟨hk.2, ⟨hk.1.2.2, ⟨hk.1.1, hk.1.2.1⟩⟩⟩), (km HO_579003 fun _ hk => ⟨hk.2, ⟨hk.1.2.2, ⟨hk.1.1, hk.1.2.1⟩⟩⟩), (kb BK571), (kb BK578), (ss40 HI597), (ss40 HI598), sb40⟩)
               ·
                skip
                refine Kd.R_lit_step (Kd.int .u64) _ 33 ?hg (N := 242) ?hd (xs := ([0] : List Int)) (inner := [.int .u64 0]) (ok := fun _ => True) (okp := fun _ => True) ?hr ?hp (fun _ hk => hk) trivial (Below.refl _ _) (Nat.le_refl _) (by simp) ?_; (case hd => rfl); (case hg => rfl); (case hr => first | (go_simp; done) | (go_simp; rfl)); (case hp => exact (Reps.one (show Kd.M (Kd.int .u64) _ _ _ 0 [.int .u64 0] from rfl) (Reps.none _ _)))
                intro v677 w180 ho181 hb hg_ hnew_
                clear hg_ hnew_
                (first | rw [← Ny676.out] at ho181 | (simp only [Int.reduceToNat] at ho181; rw [← Ny676.out] at ho181))
                refine ax9 (Kd.R_elder' (kr HO_15) (Kd.R_base ho181) hb) (Kd.R_elder' (kr HO_572003) (Kd.R_base ho181) hb) (Kd.R_elder' (kr HO_579003) (Kd.R_base ho181) hb) (Kd.R_lower (Kd.R_new' (Kd.R_new' (Kd.R_new' ho181 (Kd.R_lt (kr HO_15))) (Kd.R_lt (kr HO_572003))) (Kd.R_lt (kr HO_579003))) (below_size sb40)) (bb BK571 hb) (bb BK578 hb) (IsS40.below (ss40 HI597) hb) (IsS40.below (ss40 HI598) hb) (below_step sb40 hb) ?_
                clear HO_15 HO_572003 HO_579003 BK571 BK578 HI597 HI598 HB
                intro HO_15 HO_572003 HO_579003 HO678 BK571 BK578 HI597 HI598 HB
                clear hb ho181
                refine hK.out _ _ ⟨bk BK571 0, bk BK571 1, bk BK571 2, bk BK571 3⟩ (fun hHeld => ?_)
                clear hK K
                refine no 242 ?_
                refine on 2 (some 239) (lm 12 47) HT_ (fun K hK => ?_)
                refine Kd.R_lit_step (Kd.int .u64) _ 33 ?hg (N := 239) ?hd (xs := ([] : List Int)) (inner := []) (ok := fun _ => True) (okp := fun _ => True) ?hr ?hp (fun _ hk => hk) trivial (Below.refl _ _) (Nat.le_refl _) (by simp) ?_; (case hd => rfl); (case hg => rfl); (case hr => first | (go_simp; done) | (go_simp; rfl)); (case hp => exact (Reps.none _ _))
                intro v671 w182 ho183 hb hg_ hnew_
                clear hg_ hnew_
                (first | rw [← Ny670.out] at ho183 | (simp only [Int.reduceToNat] at ho183; rw [← Ny670.out] at ho183))
                refine ax10 (Kd.R_elder' (kr HO_15) (Kd.R_base ho183) hb) (Kd.R_elder' (kr HO_572003) (Kd.R_base ho183) hb) (Kd.R_elder' (kr HO_579003) (Kd.R_base ho183) hb) (Kd.R_elder' (kr HO678) (Kd.R_base ho183) hb) (Kd.R_lower (Kd.R_new' (Kd.R_new' (Kd.R_new' (Kd.R_new' ho183 (Kd.R_lt (kr HO_15))) (Kd.R_lt (kr HO_572003))) (Kd.R_lt (kr HO_579003))) (Kd.R_lt (kr HO678))) (below_size sb40)) (bb BK571 hb) (bb BK578 hb) (IsS40.below (ss40 HI597) hb) (IsS40.below (ss40 HI598) hb) (below_step sb40 hb) ?_
                clear HO_15 HO_572003 HO_579003 HO678 BK571 BK578 HI597 HI598 HB
                intro HO_15 HO_572003 HO_579003 HO678 HO672 BK571 BK578 HI597 HI598 HB
                clear hb ho183
                refine hK.out _ _ ⟨bk BK571 0, bk BK571 1, bk BK571 2, bk BK571 3⟩ (fun hHeld => ?_)
                clear hK K
                refine no 239 ?_
                refine on 4 (some 241) (lm 12 63) HT_ (fun K hK => ?_)
                refine Kd.R_append_rows_step (Kd.int .u64) (w0 := w) w.heap.size (by rfl) (.tmp 239) (.tmp 240) 22 33 (.int .u64 0) 8 rfl Try.underlying22 info33 rfl (by decide) (by omega) v671 y670 t585 _ _ _ (fun k_ => some k_ ≠ (.slice Ao54 t585.length co54 : Value).ownBlock ∧ some k_ ≠ (.slice Ao25 t568.length co25 : Value).ownBlock ∧ some k_ ≠ (.slice Ao30 t575.length co30 : Value).ownBlock ∧ some k_ ≠ (v677 : Value).ownBlock) (fun _ => False) rfl rfl ?aO ?aR (fun _ _ h => h) (fun _ h => h.elim) ?aF ?aB ?aS ?aL ?_
                (case aR => exact ks HO_15)
                (case aB => exact sb40)
                (case aF => exact (fun k_ hk => ⟨Kd.fresh' (Kd.R_lt (kr HO_15)) k_ hk, Kd.fresh' (Kd.R_lt (kr HO_572003)) k_ hk, Kd.fresh' (Kd.R_lt (kr HO_579003)) k_ hk, Kd.fresh' (Kd.R_lt (kr HO678)) k_ hk⟩))
                (case aO => exact (km HO672 fun _ hk => ⟨hk.1.1.1.2, ⟨hk.1.1.2, ⟨hk.1.2, hk.2⟩⟩⟩))
                (case aS => exact (below_size sb40))
                (case aL => have := LMc163.out; omega)
                intro v674 w184 ho hb hg hat
                rw [← Ny673.out] at ho
                refine ax10 (Kd.R_after (ok := (fun k_ => some k_ ≠ (.slice Ao25 t568.length co25 : Value).ownBlock ∧ some k_ ≠ (.slice Ao30 t575.length co30 : Value).ownBlock ∧ some k_ ≠ (v677 : Value).ownBlock)) (km HO_15 fun _ hk => ⟨⟨hk.1.1.1.1.2.1, ⟨hk.1.1.1.1.2.2.1, hk.1.2⟩⟩, hk.2⟩) hg hat) (Kd.R_after (ok := (fun k_ => some k_ ≠ (.slice Ao54 t585.length co54 : Value).ownBlock ∧ some k_ ≠ (.slice Ao30 t575.length co30 : Value).ownBlock ∧ some k_ ≠ (v677 : Value).ownBlock)) (km HO_572003 fun _ hk => ⟨⟨hk.1.1.1.1.1, ⟨hk.1.1.1.1.2.2.1, hk.1.2⟩⟩, hk.2⟩) hg hat) (Kd.R_after (ok := (fun k_ => some k_ ≠ (.slice Ao54 t585.length co54 : Value).ownBlock ∧ some k_ ≠ (.slice Ao25 t568.length co25 : Value).ownBlock ∧ some k_ ≠ (v677 : Value).ownBlock)) (km HO_579003 fun _ hk => ⟨⟨hk.1.1.1.1.1, ⟨hk.1.1.1.1.2.2.1, hk.1.2⟩⟩, hk.2⟩) hg hat) (blk_grown (g := gb571) (o := .cells #[.int .i64 t565, .int .i64 t566, .int .i64 t567, .slice Ao25 t568.length co25] 25 (0, 0)) (kb BK571) hg (Kd.R_ne HO672.out BK571.out (by decide))) (blk_grown (g := gb578) (o := .cells #[.int .i64 t572, .int .i64 t573, .int .i64 t574, .slice Ao30 t575.length co30] 25 (0, 0)) (kb BK578) hg (Kd.R_ne HO672.out BK578.out (by decide))) (IsS40.grown (ss40 HI597) hg (IsS40.own_ne HI597.out HO672.out (by decide))) (IsS40.grown (ss40 HI598) hg (IsS40.own_ne HI598.out HO672.out (by decide))) (Kd.R_after (ok := (fun k_ => some k_ ≠ (.slice Ao54 t585.length co54 : Value).ownBlock ∧ some k_ ≠ (.slice Ao25 t568.length co25 : Value).ownBlock ∧ some k_ ≠ (.slice Ao30 t575.length co30 : Value).ownBlock)) (km HO678 fun _ hk => ⟨⟨hk.1.1.1.2, ⟨hk.1.1.2, hk.1.2⟩⟩, hk.2⟩) hg hat) hb ho ?_
                clear HO_15 HO_572003 HO_579003 BK571 BK578 HI597 HI598 HO678 HB HO672
                intro HO_15 HO_572003 HO_579003 BK571 BK578 HI597 HI598 HO678 HB HO675
                clear ho hb hg hat
                refine hK.out _ _ ⟨bk BK571 0, bk BK571 1, bk BK571 2, bk BK571 3⟩ (fun hHeld => ?_)
                clear hK K
                refine no 241 ?_
                exact nP (hCont (v671, v674, v677) _ ⟨hHeld, (km HO675 fun _ hk => ⟨hk.2.2.2, ⟨hk.1, ⟨hk.2.1, hk.2.2.1⟩⟩⟩), (km HO678 fun _ hk => ⟨hk.2, ⟨hk.1.1, ⟨hk.1.2.1, hk.1.2.2⟩⟩⟩), (km HO_15 fun _ hk => ⟨hk.2, ⟨hk.1.2.2, ⟨hk.1.1, hk.1.2.1⟩⟩⟩), (km HO_572003 fun _ hk => ⟨hk.2, ⟨hk.1.2.2, ⟨hk.1.1, hk.1.2.1⟩⟩⟩), (km HO_579003 fun _ hk => ⟨hk.2, ⟨hk.1.2.2, ⟨hk.1.1, hk.1.2.1⟩⟩⟩), (kb BK571), (kb BK578), (ss40 HI597), (ss40 HI598), sb40⟩)
              rintro ⟨v671, v674, v677⟩ w185 ⟨hS_, h0_, h1_, h2_, h3_, h4_, h5_, h6_, h7_, h8_, h9_⟩
              have n0_ : Aside0 (Kd.R (Kd.int .u64) 33 w185 w.heap.size (fun k_ => some k_ ≠ (v677 : Value).ownBlock ∧ some k_ ≠ (.slice Ao54 t585.length co54 : Value).ownBlock ∧ some k_ ≠ (.slice Ao25 t568.length co25 : Value).ownBlock ∧ some k_ ≠ (.slice Ao30 t575.length co30 : Value).ownBlock) v674 y673) := ⟨h0_⟩
              have n1_ : Aside0 (Kd.R (Kd.int .u64) 33 w185 w.heap.size (fun k_ => some k_ ≠ (v674 : Value).ownBlock ∧ some k_ ≠ (.slice Ao54 t585.length co54 : Value).ownBlock ∧ some k_ ≠ (.slice Ao25 t568.length co25 : Value).ownBlock ∧ some k_ ≠ (.slice Ao30 t575.length co30 : Value).ownBlock) v677 y676) := ⟨h1_⟩
              have n2_ : Aside0 (Kd.R (Kd.int .u64) 33 w185 w.heap.size (fun k_ => some k_ ≠ (v674 : Value).ownBlock ∧ some k_ ≠ (v677 : Value).ownBlock ∧ some k_ ≠ (.slice Ao25 t568.length co25 : Value).ownBlock ∧ some k_ ≠ (.slice Ao30 t575.length co30 : Value).ownBlock) (.slice Ao54 t585.length co54) t585) := ⟨h2_⟩
              have n3_ : Aside0 (Kd.R (Kd.int .u64) 33 w185 w.heap.size (fun k_ => some k_ ≠ (v674 : Value).ownBlock ∧ some k_ ≠ (v677 : Value).ownBlock ∧ some k_ ≠ (.slice Ao54 t585.length co54 : Value).ownBlock ∧ some k_ ≠ (.slice Ao30 t575.length co30 : Value).ownBlock) (.slice Ao25 t568.length co25) t568) := ⟨h3_⟩
              have n4_ : Aside0 (Kd.R (Kd.int .u64) 33 w185 w.heap.size (fun k_ => some k_ ≠ (v674 : Value).ownBlock ∧ some k_ ≠ (v677 : Value).ownBlock ∧ some k_ ≠ (.slice Ao54 t585.length co54 : Value).ownBlock ∧ some k_ ≠ (.slice Ao25 t568.length co25 : Value).ownBlock) (.slice Ao30 t575.length co30) t575) := ⟨h4_⟩
              have n5_ : Aside0 (w185.heap[gb571]? = some (.cells #[.int .i64 t565, .int .i64 t566, .int .i64 t567, .slice Ao25 t568.length co25] 25 (0, 0))) := ⟨h5_⟩
              have n6_ : Aside0 (w185.heap[gb578]? = some (.cells #[.int .i64 t572, .int .i64 t573, .int .i64 t574, .slice Ao30 t575.length co30] 25 (0, 0))) := ⟨h6_⟩
              have n7_ : Aside0 (IsS40 w w185 gb597 t669) := ⟨h7_⟩
              have n8_ : Aside0 (IsS40 w w185 gb598 x599000_4) := ⟨h8_⟩
              have n9_ : Aside0 (Below w.heap.size w w185) := ⟨h9_⟩
              clear HO_15 HO_572003 HO_579003 BK571 BK578 HI597 HI598 HB h0_ h1_ h2_ h3_ h4_ h5_ h6_ h7_ h8_ h9_
              have HO675 := n0_
              have HO678 := n1_
              have HO_15 := n2_
              have HO_572003 := n3_
              have HO_579003 := n4_
              have BK571 := n5_
              have BK578 := n6_
              have HI597 := n7_
              have HI598 := n8_
              have HB := n9_
              clear n0_ n1_ n2_ n3_ n4_ n5_ n6_ n7_ n8_ n9_
              have hHeld : w185.cell? ⟨gb571, 0, none⟩ = some (.int .i64 t565) ∧ w185.cell? ⟨gb571, 1, none⟩ = some (.int .i64 t566) ∧ w185.cell? ⟨gb571, 2, none⟩ = some (.int .i64 t567) ∧ w185.cell? ⟨gb571, 3, none⟩ = some (.slice Ao25 t568.length co25) := hS_
              obtain ⟨Ao187, co187, eo187⟩ := Kd.R_slice HO678.out
              (first | subst eo187 | (injection eo187 with f1_ f2_ f3_; have f4_ := f1_.symm; have f5_ := f3_.symm; clear f1_ f2_ f3_; subst f4_; subst f5_))
              refine norm_ (a' := ?_) ?_ ?_
              rotate_left
              ·
               simp only [putAll, Act.put, List.setIfInBounds_toArray, List.set_cons_zero, List.set_cons_succ]
               rfl
              refine on 6 (some 243) (lm 12 127) HT_ (fun K hK => ?_)
              refine Kd.R_append_rows_step (Kd.int .u64) (w0 := w) w.heap.size (by rfl) (.tmp 241) (.tmp 242) 22 33 (.int .u64 0) 8 rfl Try.underlying22 info33 rfl (by decide) (by omega) v674 y673 y676 _ _ _ (fun k_ => some k_ ≠ (.slice Ao54 t585.length co54 : Value).ownBlock ∧ some k_ ≠ (.slice Ao25 t568.length co25 : Value).ownBlock ∧ some k_ ≠ (.slice Ao30 t575.length co30 : Value).ownBlock ∧ some k_ ≠ (.slice Ao187 y676.length co187 : Value).ownBlock) (fun _ => False) rfl rfl ?aO ?aR (fun _ _ h => h) (fun _ h => h.elim) ?aF ?aB ?aS ?aL ?_
              (case aR => exact ks HO678)
              (case aB => exact sb40)
              (case aF => exact (fun k_ hk => ⟨Kd.fresh' (Kd.R_lt (kr HO_15)) k_ hk, Kd.fresh' (Kd.R_lt (kr HO_572003)) k_ hk, Kd.fresh' (Kd.R_lt (kr HO_579003)) k_ hk, Kd.fresh' (Kd.R_lt (kr HO678)) k_ hk⟩))
              (case aO => exact (km HO675 fun _ hk => ⟨hk.2.1, ⟨hk.2.2.1, ⟨hk.2.2.2, hk.1⟩⟩⟩))
              (case aS => exact (below_size sb40))
              (case aL => have := LMc164.out; omega)
              intro v680 w186 ho hb hg hat
              rw [← Ny679.out] at ho
              refine ax10 (Kd.R_after (ok := (fun k_ => some k_ ≠ (.slice Ao25 t568.length co25 : Value).ownBlock ∧ some k_ ≠ (.slice Ao30 t575.length co30 : Value).ownBlock ∧ some k_ ≠ (.slice Ao187 y676.length co187 : Value).ownBlock)) (km HO_15 fun _ hk => ⟨⟨hk.2.2.1, ⟨hk.2.2.2, hk.2.1⟩⟩, hk.1⟩) hg hat) (Kd.R_after (ok := (fun k_ => some k_ ≠ (.slice Ao54 t585.length co54 : Value).ownBlock ∧ some k_ ≠ (.slice Ao30 t575.length co30 : Value).ownBlock ∧ some k_ ≠ (.slice Ao187 y676.length co187 : Value).ownBlock)) (km HO_572003 fun _ hk => ⟨⟨hk.2.2.1, ⟨hk.2.2.2, hk.2.1⟩⟩, hk.1⟩) hg hat) (Kd.R_after (ok := (fun k_ => some k_ ≠ (.slice Ao54 t585.length co54 : Value).ownBlock ∧ some k_ ≠ (.slice Ao25 t568.length co25 : Value).ownBlock ∧ some k_ ≠ (.slice Ao187 y676.length co187 : Value).ownBlock)) (km HO_579003 fun _ hk => ⟨⟨hk.2.2.1, ⟨hk.2.2.2, hk.2.1⟩⟩, hk.1⟩) hg hat) (blk_grown (g := gb571) (o := .cells #[.int .i64 t565, .int .i64 t566, .int .i64 t567, .slice Ao25 t568.length co25] 25 (0, 0)) (kb BK571) hg (Kd.R_ne HO675.out BK571.out (by decide))) (blk_grown (g := gb578) (o := .cells #[.int .i64 t572, .int .i64 t573, .int .i64 t574, .slice Ao30 t575.length co30] 25 (0, 0)) (kb BK578) hg (Kd.R_ne HO675.out BK578.out (by decide))) (IsS40.grown (ss40 HI597) hg (IsS40.own_ne HI597.out HO675.out (by decide))) (IsS40.grown (ss40 HI598) hg (IsS40.own_ne HI598.out HO675.out (by decide))) (Kd.R_after (ok := (fun k_ => some k_ ≠ (.slice Ao54 t585.length co54 : Value).ownBlock ∧ some k_ ≠ (.slice Ao25 t568.length co25 : Value).ownBlock ∧ some k_ ≠ (.slice Ao30 t575.length co30 : Value).ownBlock)) (km HO678 fun _ hk => ⟨⟨hk.2.1, ⟨hk.2.2.1, hk.2.2.2⟩⟩, hk.1⟩) hg hat) hb ho ?_
              clear HO_15 HO_572003 HO_579003 BK571 BK578 HI597 HI598 HO678 HB HO675
              intro HO_15 HO_572003 HO_579003 BK571 BK578 HI597 HI598 HO678 HB HO681
              clear ho hb hg hat
              obtain ⟨Ao188, co188, eo188⟩ := Kd.R_slice HO681.out
              (first | subst eo188 | (injection eo188 with f1_ f2_ f3_; have f4_ := f1_.symm; have f5_ := f3_.symm; clear f1_ f2_ f3_; subst f4_; subst f5_))
              refine hK.out _ _ ⟨bk BK571 0, bk BK571 1, bk BK571 2, bk BK571 3⟩ (fun hHeld => ?_)
              clear hK K
              refine no 243 ?_
              refine on 7 (some 244) (lm 12 255) HT_ (fun K hK => ?_)
              refine goes_ Try.func14 (by kernel_rfl) rfl #[.pointer (some ⟨gb597, 0, none⟩), .agg #[.int .i64 t565, .int .i64 t566, .int .i64 t567, .slice Ao25 t568.length co25], .slice Ao188 y679.length co188] (by rfl) rfl rfl ga ?_
              with_reducible refine (mul_Gemv.calls k4 gb597 t669 t565 t566 t567 _ _ t568 _ _ y679 t682 t685 t686 w _ ?side1 ?side2 ?side3 ?side4 ?side5 ?side6 ?side7 ?side8 A165.out).mono ?_
              (case side1 => repeat (first | (with_reducible first | exact HI597.out | apply IsS40.alloc | apply IsS40.drewN | apply IsS40.drew | apply IsS40.set_0 | refine IsS40.far ?_ NB597_571.out _ | refine IsS40.far ?_ NB597_578.out _ | refine IsS40.far ?_ NB597_598.out _) | exact HI597.out))
              (case side2 => repeat (first | (with_reducible first | exact HB.out | apply below_alloc | apply pw_below_drewN | apply below_drew1 | refine below_set ?_ (IsS40.ge HI597.out) | refine below_set ?_ (IsS40.ge HI598.out) | refine below_set ?_ GE571.out | refine below_set ?_ GE578.out) | exact HB.out))
              (case side3 => exact ks HO_572003)
              (case side4 => exact (Kd.R_reads' HO_572003.out).2.1)
              (case side5 => exact far_slice (IsS40.own_ne HI597.out HO_572003.out (by decide)))
              (case side6 => exact ks HO681)
              (case side7 => exact (Kd.R_reads' HO681.out).2.1)
              (case side8 => exact far_slice (IsS40.own_ne HI597.out HO681.out (by decide)))
              rintro e w189 ⟨v683, rfl, ho0, hi, hb, hk⟩
              refine ⟨_, rfl, ?_⟩
              refine ax11 (Kd.R_mono (Kd.R_told (Kd.R_oldK (IsS40.apart (show IsS40 w _ gb597 t669 from ss40 HI597) (kr HO_15) (by decide)) hk) (Kd.R_base ho0)) (fun _ h_ => h_.1)) (Kd.R_mono (Kd.R_told (Kd.R_oldK (IsS40.apart (show IsS40 w _ gb597 t669 from ss40 HI597) (kr HO_572003) (by decide)) hk) (Kd.R_base ho0)) (fun _ h_ => h_.1)) (Kd.R_mono (Kd.R_told (Kd.R_oldK (IsS40.apart (show IsS40 w _ gb597 t669 from ss40 HI597) (kr HO_579003) (by decide)) hk) (Kd.R_base ho0)) (fun _ h_ => h_.1)) (KeepBut.blk hk (g' := gb571) (o := .cells #[.int .i64 t565, .int .i64 t566, .int .i64 t567, .slice Ao25 t568.length co25] 25 (0, 0)) (kb BK571) NB571_597.out (by simp)) (KeepBut.blk hk (g' := gb578) (o := .cells #[.int .i64 t572, .int .i64 t573, .int .i64 t574, .slice Ao30 t575.length co30] 25 (0, 0)) (kb BK578) NB578_597.out (by simp)) ((show IsS40 w _ gb598 x599000_4 from ⟨KeepBut.blk hk (show IsS40 w _ gb598 x599000_4 from ss40 HI598).1 NB598_597.out (by simp), (show IsS40 w _ gb598 x599000_4 from ss40 HI598).2⟩)) (Kd.R_mono (Kd.R_told (Kd.R_oldK (IsS40.apart (show IsS40 w _ gb597 t669 from ss40 HI597) (kr HO678) (by decide)) hk) (Kd.R_base ho0)) (fun _ h_ => h_.1)) (Kd.R_mono (Kd.R_told (Kd.R_oldK (IsS40.apart (show IsS40 w _ gb597 t669 from ss40 HI597) (kr HO681) (by decide)) hk) (Kd.R_base ho0)) (fun _ h_ => h_.1)) (Kd.R_lower (Kd.R_new' (Kd.R_new' (Kd.R_new' (Kd.R_new' (Kd.R_new' ho0 (Kd.R_lt (kr HO_15))) (Kd.R_lt (kr HO_572003))) (Kd.R_lt (kr HO_579003))) (Kd.R_lt (kr HO678))) (Kd.R_lt (kr HO681))) (below_size sb40)) hb hi ?_
              clear HO_15 HO_572003 HO_579003 BK571 BK578 HI598 HO678 HO681 HB HI597
              intro HO_15 HO_572003 HO_579003 BK571 BK578 HI598 HO678 HO681 HO684 HB HI597
              (try clear hb)
              (try clear hb2)
              (try clear hk)
              (try clear hi)
              (try clear ho0)
              refine hK.out _ _ ⟨bk BK571 0, bk BK571 1, bk BK571 2, bk BK571 3⟩ (fun hHeld => ?_)
              clear hK K
              refine no 244 ?_
              refine pu 8 236 (lm 12 511) HT_ ?_
              refine pu 9 245 (lm 12 1023) HT_ ?_
              refine pu 10 246 (lm 12 2047) HT_ ?_
              refine pu 11 22 (lm 12 4095) HT_ ?_
              refine done_ (done_of HT_.out (by kernel_rfl)) ?_
              try go_wp2
              refine ax8 (Kd.R_drew HO_15.out) (Kd.R_drew HO_572003.out) (Kd.R_drew HO_579003.out) (blk_drew BK571.out) (blk_drew BK578.out) (IsS40.drew HI597.out) (IsS40.drew HI598.out) (below_drew1 HB.out) ?_
              clear HO_15 HO_572003 HO_579003 BK571 BK578 HI597 HI598 HB
              intro HO_15 HO_572003 HO_579003 BK571 BK578 HI597 HI598 HB
              refine start_ (n := 14) (S := fun w' => w'.cell? ⟨gb571, 0, none⟩ = some (.int .i64 t565) ∧ w'.cell? ⟨gb571, 1, none⟩ = some (.int .i64 t566) ∧ w'.cell? ⟨gb571, 2, none⟩ = some (.int .i64 t567) ∧ w'.cell? ⟨gb571, 3, none⟩ = some (.slice Ao25 t568.length co25)) (ds := []) #[false, false, false, false, false, false, false, false, false, false, false, false, false, false] (by kernel_rfl) rfl rfl ⟨bk BK571 0, bk BK571 1, bk BK571 2, bk BK571 3⟩ (fun hHeld => ?_); refine with_tabW gimballaw11_MulSteps.tab48 gimballaw11_MulSteps.bits48 (fun HT_ HW_ => ?_)
              generalize w189.drew = w190 at HO_15 HO_572003 HO_579003 BK571 BK578 HI597 HI598 HB hHeld ⊢
              refine pu 0 248 (lm 14 1) HT_ ?_
              refine pu 2 250 (lm 14 5) HT_ ?_
              refine pu 3 251 (lm 14 13) HT_ ?_
              refine pu 5 253 (lm 14 45) HT_ ?_
              refine ta 1 249 (lm 14 47) HT_ HW_ hHeld ?_
              refine join_ (σ := Value × Value × Value) 6 #[true, true, true, true, true, true, true, true, false, false, false, false, false, false] (fun s_ => [(252, s_.1), (254, s_.2.1), (255, s_.2.2)]) (fun s_ w' => (w'.cell? ⟨gb571, 0, none⟩ = some (.int .i64 t565) ∧ w'.cell? ⟨gb571, 1, none⟩ = some (.int .i64 t566) ∧ w'.cell? ⟨gb571, 2, none⟩ = some (.int .i64 t567) ∧ w'.cell? ⟨gb571, 3, none⟩ = some (.slice Ao25 t568.length co25)) ∧ (Kd.R (Kd.int .u64) 33 w' w.heap.size (fun k_ => some k_ ≠ (s_.2.2 : Value).ownBlock ∧ some k_ ≠ (.slice Ao54 t585.length co54 : Value).ownBlock ∧ some k_ ≠ (.slice Ao25 t568.length co25 : Value).ownBlock ∧ some k_ ≠ (.slice Ao30 t575.length co30 : Value).ownBlock) s_.2.1 y690) ∧ (Kd.R (Kd.int .u64) 33 w' w.heap.size (fun k_ => some k_ ≠ (s_.2.1 : Value).ownBlock ∧ some k_ ≠ (.slice Ao54 t585.length co54 : Value).ownBlock ∧ some k_ ≠ (.slice Ao25 t568.length co25 : Value).ownBlock ∧ some k_ ≠ (.slice Ao30 t575.length co30 : Value).ownBlock) s_.2.2 y693) ∧ (Kd.R (Kd.int .u64) 33 w' w.heap.size (fun k_ => some k_ ≠ (s_.2.1 : Value).ownBlock ∧ some k_ ≠ (s_.2.2 : Value).ownBlock ∧ some k_ ≠ (.slice Ao25 t568.length co25 : Value).ownBlock ∧ some k_ ≠ (.slice Ao30 t575.length co30 : Value).ownBlock) (.slice Ao54 t585.length co54) t585) ∧ (Kd.R (Kd.int .u64) 33 w' w.heap.size (fun k_ => some k_ ≠ (s_.2.1 : Value).ownBlock ∧ some k_ ≠ (s_.2.2 : Value).ownBlock ∧ some k_ ≠ (.slice Ao54 t585.length co54 : Value).ownBlock ∧ some k_ ≠ (.slice Ao30 t575.length co30 : Value).ownBlock) (.slice Ao25 t568.length co25) t568) ∧ (Kd.R (Kd.int .u64) 33 w' w.heap.size (fun k_ => some k_ ≠ (s_.2.1 : Value).ownBlock ∧ some k_ ≠ (s_.2.2 : Value).ownBlock ∧ some k_ ≠ (.slice Ao54 t585.length co54 : Value).ownBlock ∧ some k_ ≠ (.slice Ao25 t568.length co25 : Value).ownBlock) (.slice Ao30 t575.length co30) t575) ∧ (w'.heap[gb571]? = some (.cells #[.int .i64 t565, .int .i64 t566, .int .i64 t567, .slice Ao25 t568.length co25] 25 (0, 0))) ∧ (w'.heap[gb578]? = some (.cells #[.int .i64 t572, .int .i64 t573, .int .i64 t574, .slice Ao30 t575.length co30] 25 (0, 0))) ∧ (IsS40 w w' gb597 t686) ∧ (IsS40 w w' gb598 x599000_4) ∧ (Below w.heap.size w w')) ?_ ?_
              rotate_left
              ·
               intro hCont
               refine two_ (i := 4) (j := 7) (Ni := some 252) (Nj := some 255) #[true, true, true, true, true, true, false, false, false, false, false, false, false, false] #[true, true, true, true, false, true, false, true, false, false, false, false, false, false] rfl rfl rfl rfl (two_of HT_.out (by kernel_rfl)) (by decide) (by decide) (fun K hK => ?_) (fun K hK => ?_)
               ·
                skip
                refine Kd.R_lit_step (Kd.int .u64) _ 33 ?hg (N := 252) ?hd (xs := ([] : List Int)) (inner := []) (ok := fun _ => True) (okp := fun _ => True) ?hr ?hp (fun _ hk => hk) trivial (Below.refl _ _) (Nat.le_refl _) (by simp) ?_; (case hd => rfl); (case hg => rfl); (case hr => first | (go_simp; done) | (go_simp; rfl)); (case hp => exact (Reps.none _ _))
                intro v688 w191 ho192 hb hg_ hnew_
                clear hg_ hnew_
                (first | rw [← Ny687.out] at ho192 | (simp only [Int.reduceToNat] at ho192; rw [← Ny687.out] at ho192))
                refine ax9 (Kd.R_elder' (kr HO_15) (Kd.R_base ho192) hb) (Kd.R_elder' (kr HO_572003) (Kd.R_base ho192) hb) (Kd.R_elder' (kr HO_579003) (Kd.R_base ho192) hb) (Kd.R_lower (Kd.R_new' (Kd.R_new' (Kd.R_new' ho192 (Kd.R_lt (kr HO_15))) (Kd.R_lt (kr HO_572003))) (Kd.R_lt (kr HO_579003))) (below_size sb40)) (bb BK571 hb) (bb BK578 hb) (IsS40.below (ss40 HI597) hb) (IsS40.below (ss40 HI598) hb) (below_step sb40 hb) ?_
                clear HO_15 HO_572003 HO_579003 BK571 BK578 HI597 HI598 HB
                intro HO_15 HO_572003 HO_579003 HO689 BK571 BK578 HI597 HI598 HB
                clear hb ho192
                refine hK.out _ _ ⟨bk BK571 0, bk BK571 1, bk BK571 2, bk BK571 3⟩ (fun hHeld => ?_)
                clear hK K
                refine no 252 ?_
                refine two_ (i := 6) (j := 7) (Ni := some 254) (Nj := some 255) #[true, true, true, true, true, true, true, false, false, false, false, false, false, false] #[true, true, true, true, true, true, false, true, false, false, false, false, false, false] rfl rfl rfl rfl (two_of HT_.out (by kernel_rfl)) (by decide) (by decide) (fun K hK => ?_) (fun K hK => ?_)
                ·
                 skip
                 refine Kd.R_append_rows_step (Kd.int .u64) (w0 := w) w.heap.size (by rfl) (.tmp 252) (.tmp 253) 22 33 (.int .u64 0) 8 rfl Try.underlying22 info33 rfl (by decide) (by omega) v688 y687 t585 _ _ _ (fun k_ => some k_ ≠ (.slice Ao54 t585.length co54 : Value).ownBlock ∧ some k_ ≠ (.slice Ao25 t568.length co25 : Value).ownBlock ∧ some k_ ≠ (.slice Ao30 t575.length co30 : Value).ownBlock) (fun _ => False) rfl rfl ?aO ?aR (fun _ _ h => h) (fun _ h => h.elim) ?aF ?aB ?aS ?aL ?_
                 (case aR => exact ks HO_15)
                 (case aB => exact sb40)
                 (case aF => exact (fun k_ hk => ⟨Kd.fresh' (Kd.R_lt (kr HO_15)) k_ hk, Kd.fresh' (Kd.R_lt (kr HO_572003)) k_ hk, Kd.fresh' (Kd.R_lt (kr HO_579003)) k_ hk⟩))
                 (case aO => exact (km HO689 fun _ hk => ⟨hk.1.1.2, ⟨hk.1.2, hk.2⟩⟩))
                 (case aS => exact (below_size sb40))
                 (case aL => have := LMc166.out; omega)
                 intro v691 w193 ho hb hg hat
                 rw [← Ny690.out] at ho
                 refine ax9 (Kd.R_after (ok := (fun k_ => some k_ ≠ (.slice Ao25 t568.length co25 : Value).ownBlock ∧ some k_ ≠ (.slice Ao30 t575.length co30 : Value).ownBlock)) (km HO_15 fun _ hk => ⟨⟨hk.1.1.1.1, hk.1.1.1.2.1⟩, hk.2⟩) hg hat) (Kd.R_after (ok := (fun k_ => some k_ ≠ (.slice Ao54 t585.length co54 : Value).ownBlock ∧ some k_ ≠ (.slice Ao30 t575.length co30 : Value).ownBlock)) (km HO_572003 fun _ hk => ⟨⟨hk.1.1.1.1, hk.1.1.1.2.1⟩, hk.2⟩) hg hat) (Kd.R_after (ok := (fun k_ => some k_ ≠ (.slice Ao54 t585.length co54 : Value).ownBlock ∧ some k_ ≠ (.slice Ao25 t568.length co25 : Value).ownBlock)) (km HO_579003 fun _ hk => ⟨⟨hk.1.1.1.1, hk.1.1.1.2.1⟩, hk.2⟩) hg hat) (blk_grown (g := gb571) (o := .cells #[.int .i64 t565, .int .i64 t566, .int .i64 t567, .slice Ao25 t568.length co25] 25 (0, 0)) (kb BK571) hg (Kd.R_ne HO689.out BK571.out (by decide))) (blk_grown (g := gb578) (o := .cells #[.int .i64 t572, .int .i64 t573, .int .i64 t574, .slice Ao30 t575.length co30] 25 (0, 0)) (kb BK578) hg (Kd.R_ne HO689.out BK578.out (by decide))) (IsS40.grown (ss40 HI597) hg (IsS40.own_ne HI597.out HO689.out (by decide))) (IsS40.grown (ss40 HI598) hg (IsS40.own_ne HI598.out HO689.out (by decide))) hb ho ?_
                 clear HO_15 HO_572003 HO_579003 BK571 BK578 HI597 HI598 HB HO689
                 intro HO_15 HO_572003 HO_579003 BK571 BK578 HI597 HI598 HB HO692
                 clear ho hb hg hat
                 refine hK.out _ _ ⟨bk BK571 0, bk BK571 1, bk BK571 2, bk BK571 3⟩ (fun hHeld => ?_)
                 clear hK K
                 refine no 254 ?_
                 refine on 7 (some 255) (lm 14 255) HT_ (fun K hK => ?_)
                 refine Kd.R_lit_step (Kd.int .u64) _ 33 ?hg (N := 255) ?hd (xs := ([0] : List Int)) (inner := [.int .u64 0]) (ok := fun _ => True) (okp := fun _ => True) ?hr ?hp (fun _ hk => hk) trivial (Below.refl _ _) (Nat.le_refl _) (by simp) ?_; (case hd => rfl); (case hg => rfl); (case hr => first | (go_simp; done) | (go_simp; rfl)); (case hp => exact (Reps.one (show Kd.M (Kd.int .u64) _ _ _ 0 [.int .u64 0] from rfl) (Reps.none _ _)))
                 intro v694 w194 ho195 hb hg_ hnew_
                 clear hg_ hnew_
                 (first | rw [← Ny693.out] at ho195 | (simp only [Int.reduceToNat] at ho195; rw [← Ny693.out] at ho195))
                 refine ax10 (Kd.R_elder' (kr HO_15) (Kd.R_base ho195) hb) (Kd.R_elder' (kr HO_572003) (Kd.R_base ho195) hb) (Kd.R_elder' (kr HO_579003) (Kd.R_base ho195) hb) (Kd.R_elder' (kr HO692) (Kd.R_base ho195) hb) (Kd.R_lower (Kd.R_new' (Kd.R_new' (Kd.R_new' (Kd.R_new' ho195 (Kd.R_lt (kr HO_15))) (Kd.R_lt (kr HO_572003))) (Kd.R_lt (kr HO_579003))) (Kd.R_lt (kr HO692))) (below_size sb40)) (bb BK571 hb) (bb BK578 hb) (IsS40.below (ss40 HI597) hb) (IsS40.below (ss40 HI598) hb) (below_step sb40 hb) ?_
                 clear HO_15 HO_572003 HO_579003 HO692 BK571 BK578 HI597 HI598 HB
                 intro HO_15 HO_572003 HO_579003 HO692 HO695 BK571 BK578 HI597 HI598 HB
                 clear hb ho195
                 refine hK.out _ _ ⟨bk BK571 0, bk BK571 1, bk BK571 2, bk BK571 3⟩ (fun hHeld => ?_)
                 clear hK K
                 refine no 255 ?_
                 exact nP (hCont (v688, v691, v694) _ ⟨hHeld, (km HO692 fun _ hk => ⟨hk.2, ⟨hk.1.1, ⟨hk.1.2.1, hk.1.2.2⟩⟩⟩), (km HO695 fun _ hk => ⟨hk.2, ⟨hk.1.1.1.2, ⟨hk.1.1.2, hk.1.2⟩⟩⟩), (km HO_15 fun _ hk => ⟨hk.1.2, ⟨hk.2, ⟨hk.1.1.1, hk.1.1.2⟩⟩⟩), (km HO_572003 fun _ hk => ⟨hk.1.2, ⟨hk.2, ⟨hk.1.1.1, hk.1.1.2⟩⟩⟩), (km HO_579003 fun _ hk => ⟨hk.1.2, ⟨hk.2, ⟨hk.1.1.1, hk.1.1.2⟩⟩⟩), (kb BK571), (kb BK578), (ss40 HI597), (ss40 HI598), sb40⟩)
                ·
                 skip
                 refine Kd.R_lit_step (Kd.int .u64) _ 33 ?hg (N := 255) ?hd (xs := ([0] : List Int)) (inner := [.int .u64 0]) (ok := fun _ => True) (okp := fun _ => True) ?hr ?hp (fun _ hk => hk) trivial (Below.refl _ _) (Nat.le_refl _) (by simp) ?_; (case hd => rfl); (case hg => rfl); (case hr => first | (go_simp; done) | (go_simp; rfl)); (case hp => exact (Reps.one (show Kd.M (Kd.int .u64) _ _ _ 0 [.int .u64 0] from rfl) (Reps.none _ _)))
                 intro v694 w193 ho194 hb hg_ hnew_
                 clear hg_ hnew_
                 (first | rw [← Ny693.out] at ho194 | (simp only [Int.reduceToNat] at ho194; rw [← Ny693.out] at ho194))
                 refine ax10 (Kd.R_elder' (kr HO_15) (Kd.R_base ho194) hb) (Kd.R_elder' (kr HO_572003) (Kd.R_base ho194) hb) (Kd.R_elder' (kr HO_579003) (Kd.R_base ho194) hb) (Kd.R_elder' (kr HO689) (Kd.R_base ho194) hb) (Kd.R_lower (Kd.R_new' (Kd.R_new' (Kd.R_new' (Kd.R_new' ho194 (Kd.R_lt (kr HO_15))) (Kd.R_lt (kr HO_572003))) (Kd.R_lt (kr HO_579003))) (Kd.R_lt (kr HO689))) (below_size sb40)) (bb BK571 hb) (bb BK578 hb) (IsS40.below (ss40 HI597) hb) (IsS40.below (ss40 HI598) hb) (below_step sb40 hb) ?_
                 clear HO_15 HO_572003 HO_579003 HO689 BK571 BK578 HI597 HI598 HB
                 intro HO_15 HO_572003 HO_579003 HO689 HO695 BK571 BK578 HI597 HI598 HB
                 clear hb ho194
                 refine hK.out _ _ ⟨bk BK571 0, bk BK571 1, bk BK571 2, bk BK571 3⟩ (fun hHeld => ?_)
                 clear hK K
                 refine no 255 ?_
                 refine on 6 (some 254) (lm 14 255) HT_ (fun K hK => ?_)
                 refine Kd.R_append_rows_step (Kd.int .u64) (w0 := w) w.heap.size (by rfl) (.tmp 252) (.tmp 253) 22 33 (.int .u64 0) 8 rfl Try.underlying22 info33 rfl (by decide) (by omega) v688 y687 t585 _ _ _ (fun k_ => some k_ ≠ (.slice Ao54 t585.length co54 : Value).ownBlock ∧ some k_ ≠ (.slice Ao25 t568.length co25 : Value).ownBlock ∧ some k_ ≠ (.slice Ao30 t575.length co30 : Value).ownBlock ∧ some k_ ≠ (v694 : Value).ownBlock) (fun _ => False) rfl rfl ?aO ?aR (fun _ _ h => h) (fun _ h => h.elim) ?aF ?aB ?aS ?aL ?_
                 (case aR => exact ks HO_15)
                 (case aB => exact sb40)
                 (case aF => exact (fun k_ hk => ⟨Kd.fresh' (Kd.R_lt (kr HO_15)) k_ hk, Kd.fresh' (Kd.R_lt (kr HO_572003)) k_ hk, Kd.fresh' (Kd.R_lt (kr HO_579003)) k_ hk, Kd.fresh' (Kd.R_lt (kr HO695)) k_ hk⟩))
                 (case aO => exact (km HO689 fun _ hk => ⟨hk.1.1.1.2, ⟨hk.1.1.2, ⟨hk.1.2, hk.2⟩⟩⟩))
                 (case aS => exact (below_size sb40))
                 (case aL => have := LMc166.out; omega)
                 intro v691 w195 ho hb hg hat
                 rw [← Ny690.out] at ho
                 refine ax10 (Kd.R_after (ok := (fun k_ => some k_ ≠ (.slice Ao25 t568.length co25 : Value).ownBlock ∧ some k_ ≠ (.slice Ao30 t575.length co30 : Value).ownBlock ∧ some k_ ≠ (v694 : Value).ownBlock)) (km HO_15 fun _ hk => ⟨⟨hk.1.1.1.1.1, ⟨hk.1.1.1.1.2.1, hk.2⟩⟩, hk.1.2⟩) hg hat) (Kd.R_after (ok := (fun k_ => some k_ ≠ (.slice Ao54 t585.length co54 : Value).ownBlock ∧ some k_ ≠ (.slice Ao30 t575.length co30 : Value).ownBlock ∧ some k_ ≠ (v694 : Value).ownBlock)) (km HO_572003 fun _ hk => ⟨⟨hk.1.1.1.1.1, ⟨hk.1.1.1.1.2.1, hk.2⟩⟩, hk.1.2⟩) hg hat) (Kd.R_after (ok := (fun k_ => some k_ ≠ (.slice Ao54 t585.length co54 : Value).ownBlock ∧ some k_ ≠ (.slice Ao25 t568.length co25 : Value).ownBlock ∧ some k_ ≠ (v694 : Value).ownBlock)) (km HO_579003 fun _ hk => ⟨⟨hk.1.1.1.1.1, ⟨hk.1.1.1.1.2.1, hk.2⟩⟩, hk.1.2⟩) hg hat) (blk_grown (g := gb571) (o := .cells #[.int .i64 t565, .int .i64 t566, .int .i64 t567, .slice Ao25 t568.length co25] 25 (0, 0)) (kb BK571) hg (Kd.R_ne HO689.out BK571.out (by decide))) (blk_grown (g := gb578) (o := .cells #[.int .i64 t572, .int .i64 t573, .int .i64 t574, .slice Ao30 t575.length co30] 25 (0, 0)) (kb BK578) hg (Kd.R_ne HO689.out BK578.out (by decide))) (IsS40.grown (ss40 HI597) hg (IsS40.own_ne HI597.out HO689.out (by decide))) (IsS40.grown (ss40 HI598) hg (IsS40.own_ne HI598.out HO689.out (by decide))) (Kd.R_after (ok := (fun k_ => some k_ ≠ (.slice Ao54 t585.length co54 : Value).ownBlock ∧ some k_ ≠ (.slice Ao25 t568.length co25 : Value).ownBlock ∧ some k_ ≠ (.slice Ao30 t575.length co30 : Value).ownBlock)) (km HO695 fun _ hk => ⟨⟨hk.1.1.1.2, ⟨hk.1.1.2, hk.1.2⟩⟩, hk.2⟩) hg hat) hb ho ?_
                 clear HO_15 HO_572003 HO_579003 BK571 BK578 HI597 HI598 HO695 HB HO689
                 intro HO_15 HO_572003 HO_579003 BK571 BK578 HI597 HI598 HO695 HB HO692
                 clear ho hb hg hat
                 refine hK.out _ _ ⟨bk BK571 0, bk BK571 1, bk BK571 2, bk BK571 3⟩ (fun hHeld => ?_)
                 clear hK K
                 refine no 254 ?_
                 exact nP (hCont (v688, v691, v694) _ ⟨hHeld, (km HO692 fun _ hk => ⟨hk.2.2.2, ⟨hk.1, ⟨hk.2.1, hk.2.2.1⟩⟩⟩), (km HO695 fun _ hk => ⟨hk.2, ⟨hk.1.1, ⟨hk.1.2.1, hk.1.2.2⟩⟩⟩), (km HO_15 fun _ hk => ⟨hk.2, ⟨hk.1.2.2, ⟨hk.1.1, hk.1.2.1⟩⟩⟩), (km HO_572003 fun _ hk => ⟨hk.2, ⟨hk.1.2.2, ⟨hk.1.1, hk.1.2.1⟩⟩⟩), (km HO_579003 fun _ hk => ⟨hk.2, ⟨hk.1.2.2, ⟨hk.1.1, hk.1.2.1⟩⟩⟩), (kb BK571), (kb BK578), (ss40 HI597), (ss40 HI598), sb40⟩)
               ·
                skip
                refine Kd.R_lit_step (Kd.int .u64) _ 33 ?hg (N := 255) ?hd (xs := ([0] : List Int)) (inner := [.int .u64 0]) (ok := fun _ => True) (okp := fun _ => True) ?hr ?hp (fun _ hk => hk) trivial (Below.refl _ _) (Nat.le_refl _) (by simp) ?_; (case hd => rfl); (case hg => rfl); (case hr => first | (go_simp; done) | (go_simp; rfl)); (case hp => exact (Reps.one (show Kd.M (Kd.int .u64) _ _ _ 0 [.int .u64 0] from rfl) (Reps.none _ _)))
                intro v694 w191 ho192 hb hg_ hnew_
                clear hg_ hnew_
                (first | rw [← Ny693.out] at ho192 | (simp only [Int.reduceToNat] at ho192; rw [← Ny693.out] at ho192))
                refine ax9 (Kd.R_elder' (kr HO_15) (Kd.R_base ho192) hb) (Kd.R_elder' (kr HO_572003) (Kd.R_base ho192) hb) (Kd.R_elder' (kr HO_579003) (Kd.R_base ho192) hb) (Kd.R_lower (Kd.R_new' (Kd.R_new' (Kd.R_new' ho192 (Kd.R_lt (kr HO_15))) (Kd.R_lt (kr HO_572003))) (Kd.R_lt (kr HO_579003))) (below_size sb40)) (bb BK571 hb) (bb BK578 hb) (IsS40.below (ss40 HI597) hb) (IsS40.below (ss40 HI598) hb) (below_step sb40 hb) ?_
                clear HO_15 HO_572003 HO_579003 BK571 BK578 HI597 HI598 HB
                intro HO_15 HO_572003 HO_579003 HO695 BK571 BK578 HI597 HI598 HB
                clear hb ho192
                refine hK.out _ _ ⟨bk BK571 0, bk BK571 1, bk BK571 2, bk BK571 3⟩ (fun hHeld => ?_)
                clear hK K
                refine no 255 ?_
                refine on 4 (some 252) (lm 14 191) HT_ (fun K hK => ?_)
                refine Kd.R_lit_step (Kd.int .u64) _ 33 ?hg (N := 252) ?hd (xs := ([] : List Int)) (inner := []) (ok := fun _ => True) (okp := fun _ => True) ?hr ?hp (fun _ hk => hk) trivial (Below.refl _ _) (Nat.le_refl _) (by simp) ?_; (case hd => rfl); (case hg => rfl); (case hr => first | (go_simp; done) | (go_simp; rfl)); (case hp => exact (Reps.none _ _))
                intro v688 w193 ho194 hb hg_ hnew_
                clear hg_ hnew_
                (first | rw [← Ny687.out] at ho194 | (simp only [Int.reduceToNat] at ho194; rw [← Ny687.out] at ho194))
                refine ax10 (Kd.R_elder' (kr HO_15) (Kd.R_base ho194) hb) (Kd.R_elder' (kr HO_572003) (Kd.R_base ho194) hb) (Kd.R_elder' (kr HO_579003) (Kd.R_base ho194) hb) (Kd.R_elder' (kr HO695) (Kd.R_base ho194) hb) (Kd.R_lower (Kd.R_new' (Kd.R_new' (Kd.R_new' (Kd.R_new' ho194 (Kd.R_lt (kr HO_15))) (Kd.R_lt (kr HO_572003))) (Kd.R_lt (kr HO_579003))) (Kd.R_lt (kr HO695))) (below_size sb40)) (bb BK571 hb) (bb BK578 hb) (IsS40.below (ss40 HI597) hb) (IsS40.below (ss40 HI598) hb) (below_step sb40 hb) ?_
                clear HO_15 HO_572003 HO_579003 HO695 BK571 BK578 HI597 HI598 HB
                intro HO_15 HO_572003 HO_579003 HO695 HO689 BK571 BK578 HI597 HI598 HB
                clear hb ho194
                refine hK.out _ _ ⟨bk BK571 0, bk BK571 1, bk BK571 2, bk BK571 3⟩ (fun hHeld => ?_)
                clear hK K
                refine no 252 ?_
                refine on 6 (some 254) (lm 14 255) HT_ (fun K hK => ?_)
                refine Kd.R_append_rows_step (Kd.int .u64) (w0 := w) w.heap.size (by rfl) (.tmp 252) (.tmp 253) 22 33 (.int .u64 0) 8 rfl Try.underlying22 info33 rfl (by decide) (by omega) v688 y687 t585 _ _ _ (fun k_ => some k_ ≠ (.slice Ao54 t585.length co54 : Value).ownBlock ∧ some k_ ≠ (.slice Ao25 t568.length co25 : Value).ownBlock ∧ some k_ ≠ (.slice Ao30 t575.length co30 : Value).ownBlock ∧ some k_ ≠ (v694 : Value).ownBlock) (fun _ => False) rfl rfl ?aO ?aR (fun _ _ h => h) (fun _ h => h.elim) ?aF ?aB ?aS ?aL ?_
                (case aR => exact ks HO_15)
                (case aB => exact sb40)
                (case aF => exact (fun k_ hk => ⟨Kd.fresh' (Kd.R_lt (kr HO_15)) k_ hk, Kd.fresh' (Kd.R_lt (kr HO_572003)) k_ hk, Kd.fresh' (Kd.R_lt (kr HO_579003)) k_ hk, Kd.fresh' (Kd.R_lt (kr HO695)) k_ hk⟩))
                (case aO => exact (km HO689 fun _ hk => ⟨hk.1.1.1.2, ⟨hk.1.1.2, ⟨hk.1.2, hk.2⟩⟩⟩))
                (case aS => exact (below_size sb40))
                (case aL => have := LMc166.out; omega)
                intro v691 w195 ho hb hg hat
                rw [← Ny690.out] at ho
                refine ax10 (Kd.R_after (ok := (fun k_ => some k_ ≠ (.slice Ao25 t568.length co25 : Value).ownBlock ∧ some k_ ≠ (.slice Ao30 t575.length co30 : Value).ownBlock ∧ some k_ ≠ (v694 : Value).ownBlock)) (km HO_15 fun _ hk => ⟨⟨hk.1.1.1.1.1, ⟨hk.1.1.1.1.2.1, hk.1.2⟩⟩, hk.2⟩) hg hat) (Kd.R_after (ok := (fun k_ => some k_ ≠ (.slice Ao54 t585.length co54 : Value).ownBlock ∧ some k_ ≠ (.slice Ao30 t575.length co30 : Value).ownBlock ∧ some k_ ≠ (v694 : Value).ownBlock)) (km HO_572003 fun _ hk => ⟨⟨hk.1.1.1.1.1, ⟨hk.1.1.1.1.2.1, hk.1.2⟩⟩, hk.2⟩) hg hat) (Kd.R_after (ok := (fun k_ => some k_ ≠ (.slice Ao54 t585.length co54 : Value).ownBlock ∧ some k_ ≠ (.slice Ao25 t568.length co25 : Value).ownBlock ∧ some k_ ≠ (v694 : Value).ownBlock)) (km HO_579003 fun _ hk => ⟨⟨hk.1.1.1.1.1, ⟨hk.1.1.1.1.2.1, hk.1.2⟩⟩, hk.2⟩) hg hat) (blk_grown (g := gb571) (o := .cells #[.int .i64 t565, .int .i64 t566, .int .i64 t567, .slice Ao25 t568.length co25] 25 (0, 0)) (kb BK571) hg (Kd.R_ne HO689.out BK571.out (by decide))) (blk_grown (g := gb578) (o := .cells #[.int .i64 t572, .int .i64 t573, .int .i64 t574, .slice Ao30 t575.length co30] 25 (0, 0)) (kb BK578) hg (Kd.R_ne HO689.out BK578.out (by decide))) (IsS40.grown (ss40 HI597) hg (IsS40.own_ne HI597.out HO689.out (by decide))) (IsS40.grown (ss40 HI598) hg (IsS40.own_ne HI598.out HO689.out (by decide))) (Kd.R_after (ok := (fun k_ => some k_ ≠ (.slice Ao54 t585.length co54 : Value).ownBlock ∧ some k_ ≠ (.slice Ao25 t568.length co25 : Value).ownBlock ∧ some k_ ≠ (.slice Ao30 t575.length co30 : Value).ownBlock)) (km HO695 fun _ hk => ⟨⟨hk.1.1.1.2, ⟨hk.1.1.2, hk.1.2⟩⟩, hk.2⟩) hg hat) hb ho ?_
                clear HO_15 HO_572003 HO_579003 BK571 BK578 HI597 HI598 HO695 HB HO689
                intro HO_15 HO_572003 HO_579003 BK571 BK578 HI597 HI598 HO695 HB HO692
                clear ho hb hg hat
                refine hK.out _ _ ⟨bk BK571 0, bk BK571 1, bk BK571 2, bk BK571 3⟩ (fun hHeld => ?_)
                clear hK K
                refine no 254 ?_
                exact nP (hCont (v688, v691, v694) _ ⟨hHeld, (km HO692 fun _ hk => ⟨hk.2.2.2, ⟨hk.1, ⟨hk.2.1, hk.2.2.1⟩⟩⟩), (km HO695 fun _ hk => ⟨hk.2, ⟨hk.1.1, ⟨hk.1.2.1, hk.1.2.2⟩⟩⟩), (km HO_15 fun _ hk => ⟨hk.2, ⟨hk.1.2.2, ⟨hk.1.1, hk.1.2.1⟩⟩⟩), (km HO_572003 fun _ hk => ⟨hk.2, ⟨hk.1.2.2, ⟨hk.1.1, hk.1.2.1⟩⟩⟩), (km HO_579003 fun _ hk => ⟨hk.2, ⟨hk.1.2.2, ⟨hk.1.1, hk.1.2.1⟩⟩⟩), (kb BK571), (kb BK578), (ss40 HI597), (ss40 HI598), sb40⟩)
              rintro ⟨v688, v691, v694⟩ w196 ⟨hS_, h0_, h1_, h2_, h3_, h4_, h5_, h6_, h7_, h8_, h9_⟩
              have n0_ : Aside0 (Kd.R (Kd.int .u64) 33 w196 w.heap.size (fun k_ => some k_ ≠ (v694 : Value).ownBlock ∧ some k_ ≠ (.slice Ao54 t585.length co54 : Value).ownBlock ∧ some k_ ≠ (.slice Ao25 t568.length co25 : Value).ownBlock ∧ some k_ ≠ (.slice Ao30 t575.length co30 : Value).ownBlock) v691 y690) := ⟨h0_⟩
              have n1_ : Aside0 (Kd.R (Kd.int .u64) 33 w196 w.heap.size (fun k_ => some k_ ≠ (v691 : Value).ownBlock ∧ some k_ ≠ (.slice Ao54 t585.length co54 : Value).ownBlock ∧ some k_ ≠ (.slice Ao25 t568.length co25 : Value).ownBlock ∧ some k_ ≠ (.slice Ao30 t575.length co30 : Value).ownBlock) v694 y693) := ⟨h1_⟩
              have n2_ : Aside0 (Kd.R (Kd.int .u64) 33 w196 w.heap.size (fun k_ => some k_ ≠ (v691 : Value).ownBlock ∧ some k_ ≠ (v694 : Value).ownBlock ∧ some k_ ≠ (.slice Ao25 t568.length co25 : Value).ownBlock ∧ some k_ ≠ (.slice Ao30 t575.length co30 : Value).ownBlock) (.slice Ao54 t585.length co54) t585) := ⟨h2_⟩
              have n3_ : Aside0 (Kd.R (Kd.int .u64) 33 w196 w.heap.size (fun k_ => some k_ ≠ (v691 : Value).ownBlock ∧ some k_ ≠ (v694 : Value).ownBlock ∧ some k_ ≠ (.slice Ao54 t585.length co54 : Value).ownBlock ∧ some k_ ≠ (.slice Ao30 t575.length co30 : Value).ownBlock) (.slice Ao25 t568.length co25) t568) := ⟨h3_⟩
              have n4_ : Aside0 (Kd.R (Kd.int .u64) 33 w196 w.heap.size (fun k_ => some k_ ≠ (v691 : Value).ownBlock ∧ some k_ ≠ (v694 : Value).ownBlock ∧ some k_ ≠ (.slice Ao54 t585.length co54 : Value).ownBlock ∧ some k_ ≠ (.slice Ao25 t568.length co25 : Value).ownBlock) (.slice Ao30 t575.length co30) t575) := ⟨h4_⟩
              have n5_ : Aside0 (w196.heap[gb571]? = some (.cells #[.int .i64 t565, .int .i64 t566, .int .i64 t567, .slice Ao25 t568.length co25] 25 (0, 0))) := ⟨h5_⟩
              have n6_ : Aside0 (w196.heap[gb578]? = some (.cells #[.int .i64 t572, .int .i64 t573, .int .i64 t574, .slice Ao30 t575.length co30] 25 (0, 0))) := ⟨h6_⟩
              have n7_ : Aside0 (IsS40 w w196 gb597 t686) := ⟨h7_⟩
              have n8_ : Aside0 (IsS40 w w196 gb598 x599000_4) := ⟨h8_⟩
              have n9_ : Aside0 (Below w.heap.size w w196) := ⟨h9_⟩
              clear HO_15 HO_572003 HO_579003 BK571 BK578 HI597 HI598 HB h0_ h1_ h2_ h3_ h4_ h5_ h6_ h7_ h8_ h9_
              have HO692 := n0_
              have HO695 := n1_
              have HO_15 := n2_
              have HO_572003 := n3_
              have HO_579003 := n4_
              have BK571 := n5_
              have BK578 := n6_
              have HI597 := n7_
              have HI598 := n8_
              have HB := n9_
              clear n0_ n1_ n2_ n3_ n4_ n5_ n6_ n7_ n8_ n9_
              have hHeld : w196.cell? ⟨gb571, 0, none⟩ = some (.int .i64 t565) ∧ w196.cell? ⟨gb571, 1, none⟩ = some (.int .i64 t566) ∧ w196.cell? ⟨gb571, 2, none⟩ = some (.int .i64 t567) ∧ w196.cell? ⟨gb571, 3, none⟩ = some (.slice Ao25 t568.length co25) := hS_
              obtain ⟨Ao198, co198, eo198⟩ := Kd.R_slice HO695.out
              (first | subst eo198 | (injection eo198 with f1_ f2_ f3_; have f4_ := f1_.symm; have f5_ := f3_.symm; clear f1_ f2_ f3_; subst f4_; subst f5_))
              refine norm_ (a' := ?_) ?_ ?_
              rotate_left
              ·
               simp only [putAll, Act.put, List.setIfInBounds_toArray, List.set_cons_zero, List.set_cons_succ]
               rfl
              refine on 8 (some 256) (lm 14 511) HT_ (fun K hK => ?_)
              refine Kd.R_append_rows_step (Kd.int .u64) (w0 := w) w.heap.size (by rfl) (.tmp 254) (.tmp 255) 22 33 (.int .u64 0) 8 rfl Try.underlying22 info33 rfl (by decide) (by omega) v691 y690 y693 _ _ _ (fun k_ => some k_ ≠ (.slice Ao54 t585.length co54 : Value).ownBlock ∧ some k_ ≠ (.slice Ao25 t568.length co25 : Value).ownBlock ∧ some k_ ≠ (.slice Ao30 t575.length co30 : Value).ownBlock ∧ some k_ ≠ (.slice Ao198 y693.length co198 : Value).ownBlock) (fun _ => False) rfl rfl ?aO ?aR (fun _ _ h => h) (fun _ h => h.elim) ?aF ?aB ?aS ?aL ?_
              (case aR => exact ks HO695)
              (case aB => exact sb40)
              (case aF => exact (fun k_ hk => ⟨Kd.fresh' (Kd.R_lt (kr HO_15)) k_ hk, Kd.fresh' (Kd.R_lt (kr HO_572003)) k_ hk, Kd.fresh' (Kd.R_lt (kr HO_579003)) k_ hk, Kd.fresh' (Kd.R_lt (kr HO695)) k_ hk⟩))
              (case aO => exact (km HO692 fun _ hk => ⟨hk.2.1, ⟨hk.2.2.1, ⟨hk.2.2.2, hk.1⟩⟩⟩))
              (case aS => exact (below_size sb40))
              (case aL => have := LMc167.out; omega)
              intro v697 w197 ho hb hg hat
              rw [← Ny696.out] at ho
              refine ax10 (Kd.R_after (ok := (fun k_ => some k_ ≠ (.slice Ao25 t568.length co25 : Value).ownBlock ∧ some k_ ≠ (.slice Ao30 t575.length co30 : Value).ownBlock ∧ some k_ ≠ (.slice Ao198 y693.length co198 : Value).ownBlock)) (km HO_15 fun _ hk => ⟨⟨hk.2.2.1, ⟨hk.2.2.2, hk.2.1⟩⟩, hk.1⟩) hg hat) (Kd.R_after (ok := (fun k_ => some k_ ≠ (.slice Ao54 t585.length co54 : Value).ownBlock ∧ some k_ ≠ (.slice Ao30 t575.length co30 : Value).ownBlock ∧ some k_ ≠ (.slice Ao198 y693.length co198 : Value).ownBlock)) (km HO_572003 fun _ hk => ⟨⟨hk.2.2.1, ⟨hk.2.2.2, hk.2.1⟩⟩, hk.1⟩) hg hat) (Kd.R_after (ok := (fun k_ => some k_ ≠ (.slice Ao54 t585.length co54 : Value).ownBlock ∧ some k_ ≠ (.slice Ao25 t568.length co25 : Value).ownBlock ∧ some k_ ≠ (.slice Ao198 y693.length co198 : Value).ownBlock)) (km HO_579003 fun _ hk => ⟨⟨hk.2.2.1, ⟨hk.2.2.2, hk.2.1⟩⟩, hk.1⟩) hg hat) (blk_grown (g := gb571) (o := .cells #[.int .i64 t565, .int .i64 t566, .int .i64 t567, .slice Ao25 t568.length co25] 25 (0, 0)) (kb BK571) hg (Kd.R_ne HO692.out BK571.out (by decide))) (blk_grown (g := gb578) (o := .cells #[.int .i64 t572, .int .i64 t573, .int .i64 t574, .slice Ao30 t575.length co30] 25 (0, 0)) (kb BK578) hg (Kd.R_ne HO692.out BK578.out (by decide))) (IsS40.grown (ss40 HI597) hg (IsS40.own_ne HI597.out HO692.out (by decide))) (IsS40.grown (ss40 HI598) hg (IsS40.own_ne HI598.out HO692.out (by decide))) (Kd.R_after (ok := (fun k_ => some k_ ≠ (.slice Ao54 t585.length co54 : Value).ownBlock ∧ some k_ ≠ (.slice Ao25 t568.length co25 : Value).ownBlock ∧ some k_ ≠ (.slice Ao30 t575.length co30 : Value).ownBlock)) (km HO695 fun _ hk => ⟨⟨hk.2.1, ⟨hk.2.2.1, hk.2.2.2⟩⟩, hk.1⟩) hg hat) hb ho ?_
              clear HO_15 HO_572003 HO_579003 BK571 BK578 HI597 HI598 HO695 HB HO692
              intro HO_15 HO_572003 HO_579003 BK571 BK578 HI597 HI598 HO695 HB HO698
              clear ho hb hg hat
              obtain ⟨Ao199, co199, eo199⟩ := Kd.R_slice HO698.out
              (first | subst eo199 | (injection eo199 with f1_ f2_ f3_; have f4_ := f1_.symm; have f5_ := f3_.symm; clear f1_ f2_ f3_; subst f4_; subst f5_))
              refine hK.out _ _ ⟨bk BK571 0, bk BK571 1, bk BK571 2, bk BK571 3⟩ (fun hHeld => ?_)
              clear hK K
              refine no 256 ?_
              refine on 9 (some 257) (lm 14 1023) HT_ (fun K hK => ?_)
              refine goes_ Try.func15 (by kernel_rfl) rfl #[.pointer (some ⟨gb597, 0, none⟩), .agg #[.int .i64 t565, .int .i64 t566, .int .i64 t567, .slice Ao25 t568.length co25], .int .u64 a4, .slice Ao54 t585.length co54, .slice Ao199 y696.length co199] (by rfl) rfl rfl ga ?_
              with_reducible refine (mul_Ger.calls k4 gb597 t686 t565 t566 t567 _ _ t568 a4 _ _ t585 _ _ y696 t699 t700 t701 t702 t705 t706 w _ ?side1 ?side2 ?side3 ?side4 ?side5 ?side6 ?side7 ?side8 ?side9 ?side10 ?side11 A168.out).mono ?_
              (case side1 => repeat (first | (with_reducible first | exact HI597.out | apply IsS40.alloc | apply IsS40.drewN | apply IsS40.drew | apply IsS40.set_0 | refine IsS40.far ?_ NB597_571.out _ | refine IsS40.far ?_ NB597_578.out _ | refine IsS40.far ?_ NB597_598.out _) | exact HI597.out))
              (case side2 => repeat (first | (with_reducible first | exact HB.out | apply below_alloc | apply pw_below_drewN | apply below_drew1 | refine below_set ?_ (IsS40.ge HI597.out) | refine below_set ?_ (IsS40.ge HI598.out) | refine below_set ?_ GE571.out | refine below_set ?_ GE578.out) | exact HB.out))
              (case side3 => exact ks HO_572003)
              (case side4 => exact (Kd.R_reads' HO_572003.out).2.1)
              (case side5 => exact far_slice (IsS40.own_ne HI597.out HO_572003.out (by decide)))
              (case side6 => exact ks HO_15)
              (case side7 => exact (Kd.R_reads' HO_15.out).2.1)
              (case side8 => exact far_slice (IsS40.own_ne HI597.out HO_15.out (by decide)))
              (case side9 => exact ks HO698)
              (case side10 => exact (Kd.R_reads' HO698.out).2.1)
              (case side11 => exact far_slice (IsS40.own_ne HI597.out HO698.out (by decide)))
              rintro e w200 ⟨v703, rfl, ho0, hi, hb, hk⟩
              refine ⟨_, rfl, ?_⟩
              refine ax11 (Kd.R_mono (Kd.R_told (Kd.R_oldK (IsS40.apart (show IsS40 w _ gb597 t686 from ss40 HI597) (kr HO_15) (by decide)) hk) (Kd.R_base ho0)) (fun _ h_ => h_.1)) (Kd.R_mono (Kd.R_told (Kd.R_oldK (IsS40.apart (show IsS40 w _ gb597 t686 from ss40 HI597) (kr HO_572003) (by decide)) hk) (Kd.R_base ho0)) (fun _ h_ => h_.1)) (Kd.R_mono (Kd.R_told (Kd.R_oldK (IsS40.apart (show IsS40 w _ gb597 t686 from ss40 HI597) (kr HO_579003) (by decide)) hk) (Kd.R_base ho0)) (fun _ h_ => h_.1)) (KeepBut.blk hk (g' := gb571) (o := .cells #[.int .i64 t565, .int .i64 t566, .int .i64 t567, .slice Ao25 t568.length co25] 25 (0, 0)) (kb BK571) NB571_597.out (by simp)) (KeepBut.blk hk (g' := gb578) (o := .cells #[.int .i64 t572, .int .i64 t573, .int .i64 t574, .slice Ao30 t575.length co30] 25 (0, 0)) (kb BK578) NB578_597.out (by simp)) ((show IsS40 w _ gb598 x599000_4 from ⟨KeepBut.blk hk (show IsS40 w _ gb598 x599000_4 from ss40 HI598).1 NB598_597.out (by simp), (show IsS40 w _ gb598 x599000_4 from ss40 HI598).2⟩)) (Kd.R_mono (Kd.R_told (Kd.R_oldK (IsS40.apart (show IsS40 w _ gb597 t686 from ss40 HI597) (kr HO695) (by decide)) hk) (Kd.R_base ho0)) (fun _ h_ => h_.1)) (Kd.R_mono (Kd.R_told (Kd.R_oldK (IsS40.apart (show IsS40 w _ gb597 t686 from ss40 HI597) (kr HO698) (by decide)) hk) (Kd.R_base ho0)) (fun _ h_ => h_.1)) (Kd.R_lower (Kd.R_new' (Kd.R_new' (Kd.R_new' (Kd.R_new' (Kd.R_new' ho0 (Kd.R_lt (kr HO_15))) (Kd.R_lt (kr HO_572003))) (Kd.R_lt (kr HO_579003))) (Kd.R_lt (kr HO695))) (Kd.R_lt (kr HO698))) (below_size sb40)) hb hi ?_
              clear HO_15 HO_572003 HO_579003 BK571 BK578 HI598 HO695 HO698 HB HI597
              intro HO_15 HO_572003 HO_579003 BK571 BK578 HI598 HO695 HO698 HO704 HB HI597
              (try clear hb)
              (try clear hb2)
              (try clear hk)
              (try clear hi)
              (try clear ho0)
              refine hK.out _ _ ⟨bk BK571 0, bk BK571 1, bk BK571 2, bk BK571 3⟩ (fun hHeld => ?_)
              clear hK K
              refine no 257 ?_
              refine pu 10 247 (lm 14 2047) HT_ ?_
              refine pu 11 258 (lm 14 4095) HT_ ?_
              refine pu 12 259 (lm 14 8191) HT_ ?_
              refine pu 13 24 (lm 14 16383) HT_ ?_
              refine done_ (done_of HT_.out (by kernel_rfl)) ?_
              have hnb201 := NB571_578.out
              have hnc201 := NB578_571.out
              have hnb202 := NB571_597.out
              have hnc202 := NB597_571.out
              have hnb203 := NB571_598.out
              have hnc203 := NB598_571.out
              have hcz204_0 := bc BK571 0 rfl
              have hcz204_1 := bc BK571 1 rfl
              have hcz204_2 := bc BK571 2 rfl
              have hcz204_3 := bc BK571 3 rfl
              have hfz204_0 := blk_frozen BK571.out 0
              have hfz204_1 := blk_frozen BK571.out 1
              have hfz204_2 := blk_frozen BK571.out 2
              have hfz204_3 := blk_frozen BK571.out 3
              have hnb205 := NB578_597.out
              have hnc205 := NB597_578.out
              have hnb206 := NB578_598.out
              have hnc206 := NB598_578.out
              have hcz207_0 := bc BK578 0 rfl
              have hcz207_1 := bc BK578 1 rfl
              have hcz207_2 := bc BK578 2 rfl
              have hcz207_3 := bc BK578 3 rfl
              have hfz207_0 := blk_frozen BK578.out 0
              have hfz207_1 := blk_frozen BK578.out 1
              have hfz207_2 := blk_frozen BK578.out 2
              have hfz207_3 := blk_frozen BK578.out 3
              try go_wp2_with (first | ((with_reducible refine gate_callee (f := 8) rfl ?_); refine goesL_ (some 268) rfl rfl Try.func8 (by kernel_rfl) rfl #[.pointer (some ⟨gb597, 0, none⟩), .agg #[.int .i64 t565, .int .i64 t566, .int .i64 (wrap64 ((-1) - (Go.bits .and .i64 a5 7))), .slice Ao25 t568.length co25], .agg #[.int .i64 t572, .int .i64 t573, .int .i64 t574, .slice Ao30 t575.length co30]] rfl ga ?_; (with_reducible refine (mul_Gemm.calls k4 gb597 t706 t565 t566 (wrap64 ((-1) - (Go.bits .and .i64 a5 7))) _ _ t568 t572 t573 t574 _ _ t575 t707 t708 t709 t710 t713 t714 w _ ?side1 ?side2 ?side3 ?side4 ?side5 ?side6 ?side7 ?side8 A169.out).mono ?_); (case side1 => repeat (first | (with_reducible first | exact HI597.out | apply IsS40.alloc | apply IsS40.drewN | apply IsS40.drew | apply IsS40.set_0 | refine IsS40.far ?_ NB597_571.out _ | refine IsS40.far ?_ NB597_578.out _ | refine IsS40.far ?_ NB597_598.out _) | exact HI597.out)); (case side2 => repeat (first | (with_reducible first | exact HB.out | apply below_alloc | apply pw_below_drewN | apply below_drew1 | refine below_set ?_ (IsS40.ge HI597.out) | refine below_set ?_ (IsS40.ge HI598.out) | refine below_set ?_ GE571.out | refine below_set ?_ GE578.out) | exact HB.out)); (case side3 => refine (Kd.R_reads' (e := 33) (base := w.heap.size) (ok := fun k_ => (((some k_ ≠ (.slice Ao54 t585.length co54 : Value).ownBlock ∧ (some k_ ≠ (.slice Ao30 t575.length co30 : Value).ownBlock ∧ some k_ ≠ (.slice Ao198 y693.length co198 : Value).ownBlock)) ∧ some k_ ≠ (.slice Ao199 y696.length co199 : Value).ownBlock) ∧ some k_ ≠ (v703 : Value).ownBlock)) (n := t568.length) (c := co25) ?_).2.2; exact (by (with_reducible repeat (first | apply Kd.R_alloc | apply Kd.R_drewN | apply Kd.R_drew)); exact (Kd.R_mono (Kd.R_far (p := ⟨gb571, 2, none⟩) (Kd.R_types HO_572003.out BK571.out (by decide)) (fun _ hk => hk.2) (.int .i64 (wrap64 ((-1) - (Go.bits .and .i64 a5 7))))) (fun _ h_ => h_.1)))); (case side4 => exact (Kd.R_reads' HO_572003.out).2.1); (case side5 => exact far_slice (IsS40.own_ne HI597.out HO_572003.out (by decide))); (case side6 => refine (Kd.R_reads' (e := 33) (base := w.heap.size) (ok := fun k_ => (((some k_ ≠ (.slice Ao54 t585.length co54 : Value).ownBlock ∧ (some k_ ≠ (.slice Ao25 t568.length co25 : Value).ownBlock ∧ some k_ ≠ (.slice Ao198 y693.length co198 : Value).ownBlock)) ∧ some k_ ≠ (.slice Ao199 y696.length co199 : Value).ownBlock) ∧ some k_ ≠ (v703 : Value).ownBlock)) (n := t575.length) (c := co30) ?_).2.2; exact (by (with_reducible repeat (first | apply Kd.R_alloc | apply Kd.R_drewN | apply Kd.R_drew)); exact (Kd.R_mono (Kd.R_far (p := ⟨gb571, 2, none⟩) (Kd.R_types HO_579003.out BK571.out (by decide)) (fun _ hk => hk.2) (.int .i64 (wrap64 ((-1) - (Go.bits .and .i64 a5 7))))) (fun _ h_ => h_.1)))); (case side7 => exact (Kd.R_reads' HO_579003.out).2.1); (case side8 => exact far_slice (IsS40.own_ne HI597.out HO_579003.out (by decide))); rintro e w208 ⟨v711, rfl, ho0, hi, hb, hk⟩; refine ⟨_, rfl, ?_⟩; refine ax8 (Kd.R_mono (Kd.R_told (Kd.R_oldK (IsS40.apart (show IsS40 w _ gb597 t706 from ss40 HI597) (by (with_reducible repeat (first | apply Kd.R_alloc | apply Kd.R_drewN | apply Kd.R_drew)); exact (Kd.R_mono (Kd.R_far (p := ⟨gb571, 2, none⟩) (Kd.R_types HO_572003.out BK571.out (by decide)) (fun _ hk => hk.2) (.int .i64 (wrap64 ((-1) - (Go.bits .and .i64 a5 7))))) (fun _ h_ => h_.1))) (by decide)) hk) (Kd.R_base ho0)) (fun _ h_ => h_.1)) (Kd.R_mono (Kd.R_told (Kd.R_oldK (IsS40.apart (show IsS40 w _ gb597 t706 from ss40 HI597) (by (with_reducible repeat (first | apply Kd.R_alloc | apply Kd.R_drewN | apply Kd.R_drew)); exact (Kd.R_mono (Kd.R_far (p := ⟨gb571, 2, none⟩) (Kd.R_types HO_579003.out BK571.out (by decide)) (fun _ hk => hk.2) (.int .i64 (wrap64 ((-1) - (Go.bits .and .i64 a5 7))))) (fun _ h_ => h_.1))) (by decide)) hk) (Kd.R_base ho0)) (fun _ h_ => h_.1)) (KeepBut.blk hk (g' := gb571) (o := .cells #[.int .i64 t565, .int .i64 t566, .int .i64 (wrap64 ((-1) - (Go.bits .and .i64 a5 7))), .slice Ao25 t568.length co25] 25 (0, 0)) (bp BK571) NB571_597.out (by simp)) (KeepBut.blk hk (g' := gb578) (o := .cells #[.int .i64 t572, .int .i64 t573, .int .i64 t574, .slice Ao30 t575.length co30] 25 (0, 0)) (bf BK578 NB578_571) NB578_597.out (by simp)) ((show IsS40 w _ gb598 x599000_4 from ⟨KeepBut.blk hk (show IsS40 w _ gb598 x599000_4 from ss40 HI598).1 NB598_597.out (by simp), (show IsS40 w _ gb598 x599000_4 from ss40 HI598).2⟩)) (Kd.R_lower (Kd.R_new' (Kd.R_new' ho0 (Kd.R_lt (by (with_reducible repeat (first | apply Kd.R_alloc | apply Kd.R_drewN | apply Kd.R_drew)); exact (Kd.R_mono (Kd.R_far (p := ⟨gb571, 2, none⟩) (Kd.R_types HO_572003.out BK571.out (by decide)) (fun _ hk => hk.2) (.int .i64 (wrap64 ((-1) - (Go.bits .and .i64 a5 7))))) (fun _ h_ => h_.1))))) (Kd.R_lt (by (with_reducible repeat (first | apply Kd.R_alloc | apply Kd.R_drewN | apply Kd.R_drew)); exact (Kd.R_mono (Kd.R_far (p := ⟨gb571, 2, none⟩) (Kd.R_types HO_579003.out BK571.out (by decide)) (fun _ hk => hk.2) (.int .i64 (wrap64 ((-1) - (Go.bits .and .i64 a5 7))))) (fun _ h_ => h_.1))))) (below_size sb40)) hb hi ?_; clear HO_572003; clear HO_579003; clear BK571; clear BK578; clear HI598; clear HB; clear HI597; intro HO_572003 HO_579003 BK571 BK578 HI598 HO712 HB HI597; (try clear hb); (try clear ho0)) | ((with_reducible refine gate_dst (N := 36) rfl ?_); refine gbox (N := 36) (cs := #[.int .i64 0, .int .i64 0, .int .i64 0, .slice none 0 0]) (t := 25) ?_; intro gb715 hg w209 hbox hb; refine ax11 (Kd.R_below (kr HO712) hb) (IsS40.below (ss40 HI597) hb) (IsS40.below (ss40 HI598) hb) (below_step sb40 hb) hbox ((by rw [hg]; exact (below_size sb40) : w.heap.size ≤ gb715)) ((by rw [hg]; exact (below_size sb40) : w.heap.size ≤ gb715)) ((by rw [hg]; exact Nat.ne_of_lt (IsS40.lt (show IsS40 w _ gb597 t714 from ss40 HI597)) : gb597 ≠ gb715)) ((by rw [hg]; exact Nat.ne_of_gt (IsS40.lt (show IsS40 w _ gb597 t714 from ss40 HI597)) : gb715 ≠ gb597)) ((by rw [hg]; exact Nat.ne_of_lt (IsS40.lt (show IsS40 w _ gb598 x599000_4 from ss40 HI598)) : gb598 ≠ gb715)) ((by rw [hg]; exact Nat.ne_of_gt (IsS40.lt (show IsS40 w _ gb598 x599000_4 from ss40 HI598)) : gb715 ≠ gb598)) ?_; clear HO712; clear HI597; clear HI598; clear HB; intro HO712 HI597 HI598 HB BK715 GW715 GE715 NB597_715 NB715_597 NB598_715 NB715_598; clear hb hbox hg; have hnb210 := NB715_597.out; have hnc210 := NB597_715.out; have hnb211 := NB715_598.out; have hnc211 := NB598_715.out; have hcz212_0 := bc BK715 0 rfl; have hcz212_1 := bc BK715 1 rfl; have hcz212_2 := bc BK715 2 rfl; have hcz212_3 := bc BK715 3 rfl; have hfz212_0 := blk_frozen BK715.out 0; have hfz212_1 := blk_frozen BK715.out 1; have hfz212_2 := blk_frozen BK715.out 2; have hfz212_3 := blk_frozen BK715.out 3; obtain ⟨Ao213, co213, eo213⟩ := Kd.R_slice HO712.out; subst eo213))
              have n0_ : Aside0 (Kd.R (Kd.int .u64) 33 ((((w209.setCell ⟨gb715, 0, none⟩ (.int .i64 t707)).setCell ⟨gb715, 1, none⟩ (.int .i64 t708)).setCell ⟨gb715, 2, none⟩ (.int .i64 t709)).setCell ⟨gb715, 3, none⟩ (.slice Ao213 t710.length co213)) w.heap.size (fun _ => True) (.slice Ao213 t710.length co213) t710) := ⟨by (with_reducible repeat (first | apply Kd.R_alloc | apply Kd.R_drewN | apply Kd.R_drew)); exact Kd.R_mono (Kd.R_far (p := ⟨gb715, 3, none⟩) (Kd.R_far (p := ⟨gb715, 2, none⟩) (Kd.R_far (p := ⟨gb715, 1, none⟩) (Kd.R_far (p := ⟨gb715, 0, none⟩) (Kd.R_types HO712.out BK715.out (by decide)) (fun _ hk => hk.2) (.int .i64 t707)) (fun _ hk => hk.2) (.int .i64 t708)) (fun _ hk => hk.2) (.int .i64 t709)) (fun _ hk => hk.2) (.slice Ao213 t710.length co213)) (fun _ hk => trivial)⟩
              have n1_ : Aside0 (((((w209.setCell ⟨gb715, 0, none⟩ (.int .i64 t707)).setCell ⟨gb715, 1, none⟩ (.int .i64 t708)).setCell ⟨gb715, 2, none⟩ (.int .i64 t709)).setCell ⟨gb715, 3, none⟩ (.slice Ao213 t710.length co213)).heap[gb715]? = some (.cells #[.int .i64 t707, .int .i64 t708, .int .i64 t709, .slice Ao213 t710.length co213] 25 (0, 0))) := ⟨bp BK715⟩
              have n2_ : Aside0 (IsS40 w ((((w209.setCell ⟨gb715, 0, none⟩ (.int .i64 t707)).setCell ⟨gb715, 1, none⟩ (.int .i64 t708)).setCell ⟨gb715, 2, none⟩ (.int .i64 t709)).setCell ⟨gb715, 3, none⟩ (.slice Ao213 t710.length co213)) gb597 t714) := ⟨ss40 HI597⟩
              have n3_ : Aside0 (IsS40 w ((((w209.setCell ⟨gb715, 0, none⟩ (.int .i64 t707)).setCell ⟨gb715, 1, none⟩ (.int .i64 t708)).setCell ⟨gb715, 2, none⟩ (.int .i64 t709)).setCell ⟨gb715, 3, none⟩ (.slice Ao213 t710.length co213)) gb598 x599000_4) := ⟨ss40 HI598⟩
              have n4_ : Aside0 (Below w.heap.size w ((((w209.setCell ⟨gb715, 0, none⟩ (.int .i64 t707)).setCell ⟨gb715, 1, none⟩ (.int .i64 t708)).setCell ⟨gb715, 2, none⟩ (.int .i64 t709)).setCell ⟨gb715, 3, none⟩ (.slice Ao213 t710.length co213))) := ⟨sb40⟩
              (try clear HO712)
              (try clear BK715)
              (try clear HI597)
              (try clear HI598)
              (try clear HB)
              generalize ((((w209.setCell ⟨gb715, 0, none⟩ (.int .i64 t707)).setCell ⟨gb715, 1, none⟩ (.int .i64 t708)).setCell ⟨gb715, 2, none⟩ (.int .i64 t709)).setCell ⟨gb715, 3, none⟩ (.slice Ao213 t710.length co213)) = w214 at n0_ n1_ n2_ n3_ n4_ ⊢
              have HO712 := n0_
              have BK715 := n1_
              have HI597 := n2_
              have HI598 := n3_
              have HB := n4_
              clear n0_ n1_ n2_ n3_ n4_
              refine ax5 (Kd.R_drew HO712.out) (blk_drew BK715.out) (IsS40.drew HI597.out) (IsS40.drew HI598.out) (below_drew1 HB.out) ?_
              clear HO712 BK715 HI597 HI598 HB
              intro HO712 BK715 HI597 HI598 HB
              refine start_ (n := 26) (S := fun w' => w'.cell? ⟨gb597, 0, none⟩ = some (.int .u8 t714) ∧ w'.cell? ⟨gb598, 0, none⟩ = some (.int .u8 x599000_4)) (ds := []) #[false, false, false, false, false, false, false, false, false, false, false, false, false, false, false, false, false, false, false, false, false, false, false, false, false, false] (by kernel_rfl) rfl rfl ⟨(blk_cell HI597.out.1 0).trans rfl, (blk_cell HI598.out.1 0).trans rfl⟩ (fun hHeld => ?_); refine with_tabW gimballaw11_MulSteps.tab51 gimballaw11_MulSteps.bits51 (fun HT_ HW_ => ?_)
              generalize w214.drew = w215 at HO712 BK715 HI597 HI598 HB hHeld ⊢
              refine pu 0 271 (lm 26 1) HT_ ?_
              refine pu 1 272 (lm 26 3) HT_ ?_
              refine pu 2 273 (lm 26 7) HT_ ?_
              refine pu 3 274 (lm 26 15) HT_ ?_
              refine pu 4 275 (lm 26 31) HT_ ?_
              refine pu 5 276 (lm 26 63) HT_ ?_
              refine pu 6 277 (lm 26 127) HT_ ?_
              refine pu 7 278 (lm 26 255) HT_ ?_
              refine pu 8 279 (lm 26 511) HT_ ?_
              refine pu 9 280 (lm 26 1023) HT_ ?_
              refine pu 10 281 (lm 26 2047) HT_ ?_
              refine pu 11 282 (lm 26 4095) HT_ ?_
              refine pu 12 283 (lm 26 8191) HT_ ?_
              refine pu 13 284 (lm 26 16383) HT_ ?_
              refine pu 14 285 (lm 26 32767) HT_ ?_
              refine pu 15 286 (lm 26 65535) HT_ ?_
              refine pu 16 287 (lm 26 131071) HT_ ?_
              refine pu 17 288 (lm 26 262143) HT_ ?_
              refine pu 19 290 (lm 26 786431) HT_ ?_
              refine pu 20 291 (lm 26 1835007) HT_ ?_
              refine pu 21 292 (lm 26 3932159) HT_ ?_
              refine ta 18 289 (lm 26 4194303) HT_ HW_ hHeld ?_
              refine ta 22 293 (lm 26 8388607) HT_ HW_ hHeld ?_
              refine pu 23 294 (lm 26 16777215) HT_ ?_
              refine pu 24 295 (lm 26 33554431) HT_ ?_
              refine pu 25 12 (lm 26 67108863) HT_ ?_
              refine done_ (done_of HT_.out (by kernel_rfl)) ?_
              try go_wp2
              go_ret
              exact ⟨er, by repeat (first | (with_reducible first | exact HB.out | apply below_alloc | apply pw_below_drewN | apply below_drew1 | refine below_set ?_ (IsS40.ge HI597.out) | refine below_set ?_ (IsS40.ge HI598.out) | refine below_set ?_ GE715.out) | exact HB.out)⟩
/-- THE ONE PURE STATEMENT of gimballaw11_MulSteps: yours. -/
def gimballaw11_MulSteps.Pure : Prop := ∀ (a0 : Int) (a1 : Int) (a2 : Int) (l3 : List Int) (a4 : Int) (a5 : Int), (Lit.int .i64 a0).wf = true → (Lit.int .i64 a1).wf = true → (Lit.int .i64 a2).wf = true → l3.length ≤ maxLen → l3.length * 8 ≤ 140737488351232 → (∀ x ∈ l3, (Lit.int .u64 x).wf = true) → (Lit.int .u64 a4).wf = true → (Lit.int .i64 a5).wf = true → ∃ k, gimballaw11_MulSteps.f k a0 a1 a2 l3 a4 a5 = some true
theorem gimballaw11_MulSteps.walk (P : gimballaw11_MulSteps.Pure) (a0 : Int) (a1 : Int) (a2 : Int) (a3 : Option Addr) (len3 cap3 : Nat) (z3 : List Int) (a4 : Int) (a5 : Int) (w : World) (w0 : (Lit.int .i64 a0).wf = true) (w1 : (Lit.int .i64 a1).wf = true) (w2 : (Lit.int .i64 a2).wf = true) (w3 : (a3 = none ∧ len3 = 0 ∧ cap3 = 0 ∧ z3 = []) ∨ ∃ x, a3 = some x ∧ len3 ≤ cap3 ∧ cap3 ≤ maxLen ∧ z3.length = cap3 ∧ (∀ i, i < z3.length → w.cell? (x.add i) = some (.int .u64 (z3.getD i 0))) ∧ ∀ n ∈ z3, (Lit.int .u64 n).wf = true) (y3 : len3 * 8 ≤ 140737488351232) (w4 : (Lit.int .u64 a4).wf = true) (w5 : (Lit.int .i64 a5).wf = true) :
  Calls Try.prog 4 #[.int .i64 a0, .int .i64 a1, .int .i64 a2, .slice a3 len3 cap3, .int .u64 a4, .int .i64 a5] w fun e w' => e = .returned (.bool true) ∧ Below w.heap.size w w' := by
 obtain ⟨l3, rfl, hr3, hm3, hw3, hc3⟩ := ReadsInt.ofRowC w3
 obtain ⟨k, h⟩ := P a0 a1 a2 l3 a4 a5 w0 w1 w2 hm3 y3 hw3 w4 w5
 refine (gimballaw11_MulSteps.calls k a0 a1 a2 _ _ l3 a4 a5 true w (Kd.C_of_reads (d := (0 : Int)) (h1 := fun _ => rfl) hr3) hc3 rfl h).mono ?_
 rintro e w' ⟨rfl, hd⟩
 exact ⟨rfl, hd⟩

end Go.Proofs.Ytfogmgcpajndcaa.F
