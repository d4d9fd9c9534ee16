-- Written by a program of this seat's session (mkprint), out of the translation.
import Derived.Test.YtenegelkbfmjkaaShort
import Derived.Test.YtenegelkbfmjkaaFx0
import Derived.Test.YtenegelkbfmjkaaFx2
import Derived.Test.YtenegelkbfmjkaaFx5
import Derived.Test.YtenegelkbfmjkaaFx6
import Derived.Test.YtenegelkbfmjkaaFx8
namespace Go.Proofs.Ytenegelkbfmjkaa.F
open Go.RowKit Go.Proofs.YtenegelkbfmjkaaW.PrintWords Go.Proofs.YtenegelkbfmjkaaW.PrintLast Go.Proofs.YtenegelkbfmjkaaW.PrintMore
attribute [local go_sem] max2_int min2_int max_two min_two max_three min_three max_four min_four   -- for this text's walks alone
set_option linter.unusedVariables false
set_option linter.unusedSimpArgs false

/-! ### gimballaw09_MatChecks: function 4 -/
mutual
def gimballaw09_MatChecks.l0 : Nat → Int → Int → Int → Int → Int → Int → Int → Int → Int → Int → Int → List Int → Option (Bool)
 | 0, _, _, _, _, _, _, _, _, _, _, _, _ => none
 | k + 1, x0, x1, x2, x3, x4, x5, x33, x34, x283000, x283001, x283002, x283003 => if x34 < x33 then (if 0 ≤ x34 then (if x34 < (x283003.length : Int) then (gimballaw09_MatChecks.l0 k x0 x1 x2 x3 x4 x5 x33 (wrap64 (x34 + 1)) x283000 x283001 x283002 (x283003.set (x34 : Int).toNat (IntKind.u64.wrap (wrap64 (x34 + 5))))) else (none)) else (none)) else (if x0 ≥ 0 then (if x0 ≤ 4096 then (if x1 ≥ 0 then (if x1 ≤ 4096 then (if x2 ≥ x1 then (gimballaw09_MatChecks.j1 k x0 x1 x2 x3 x4 x5 (decide (x2 ≤ 1099511627776)) x283000 x283001 x283002 x283003) else (gimballaw09_MatChecks.j1 k x0 x1 x2 x3 x4 x5 false x283000 x283001 x283002 x283003)) else (gimballaw09_MatChecks.j1 k x0 x1 x2 x3 x4 x5 false x283000 x283001 x283002 x283003)) else (gimballaw09_MatChecks.j1 k x0 x1 x2 x3 x4 x5 false x283000 x283001 x283002 x283003)) else (gimballaw09_MatChecks.j1 k x0 x1 x2 x3 x4 x5 false x283000 x283001 x283002 x283003)) else (gimballaw09_MatChecks.j1 k x0 x1 x2 x3 x4 x5 false x283000 x283001 x283002 x283003))
def gimballaw09_MatChecks.j1 : Nat → Int → Int → Int → Int → Int → Int → Bool → Int → Int → Int → List Int → Option (Bool)
 | 0, _, _, _, _, _, _, _, _, _, _, _ => none
 | k + 1, x0, x1, x2, x3, x4, x5, x15, x283000, x283001, x283002, x283003 => if x15 = true then (if x0 > 0 then (gimballaw09_MatChecks.j2 k x0 x1 x2 x3 x4 x5 x15 (decide (x1 > 0)) x283000 x283001 x283002 x283003) else (gimballaw09_MatChecks.j2 k x0 x1 x2 x3 x4 x5 x15 false x283000 x283001 x283002 x283003)) else (gimballaw09_MatChecks.j2 k x0 x1 x2 x3 x4 x5 x15 false x283000 x283001 x283002 x283003)
def gimballaw09_MatChecks.j2 : Nat → Int → Int → Int → Int → Int → Int → Bool → Bool → Int → Int → Int → List Int → Option (Bool)
 | 0, _, _, _, _, _, _, _, _, _, _, _, _ => none
 | k + 1, x0, x1, x2, x3, x4, x5, x15, x76, x283000, x283001, x283002, x283003 => if x76 = true then (gimballaw09_MatChecks.j3 k x0 x1 x2 x4 x5 (decide ((wrap64 ((wrap64 (x0 - 1)) * x2)) ≤ (wrap64 (x3 - x1)))) x283000 x283001 x283002 x283003) else (gimballaw09_MatChecks.j3 k x0 x1 x2 x4 x5 x15 x283000 x283001 x283002 x283003)
def gimballaw09_MatChecks.j3 : Nat → Int → Int → Int → Int → Int → Bool → Int → Int → Int → List Int → Option (Bool)
 | 0, _, _, _, _, _, _, _, _, _, _ => none
 | k + 1, x0, x1, x2, x4, x5, x15, x283000, x283001, x283002, x283003 => (mat_Matrix_Check.f k x283000 x283001 x283002 x283003).bind fun t284 => (if ((t284 == 0) != x15) = true then (gimballaw09_MatChecks.j4 k x0 x1 x2 x4 x5 x15 true x283000 x283001 x283002 x283003) else (if x15 = true then (gimballaw09_MatChecks.j4 k x0 x1 x2 x4 x5 x15 false x283000 x283001 x283002 x283003) else (gimballaw09_MatChecks.j4 k x0 x1 x2 x4 x5 x15 (t284 != 4) x283000 x283001 x283002 x283003)))
def gimballaw09_MatChecks.j4 : Nat → Int → Int → Int → Int → Int → Bool → Bool → Int → Int → Int → List Int → Option (Bool)
 | 0, _, _, _, _, _, _, _, _, _, _, _ => none
 | k + 1, x0, x1, x2, x4, x5, x15, x98, x283000, x283001, x283002, x283003 => if x98 = true then (some false) else (if x15 = true then (if x4 < 0 then (gimballaw09_MatChecks.j5 k x2 x4 x5 true x283000 x283001 x283002 x283003) else (if x4 ≥ x0 then (gimballaw09_MatChecks.j5 k x2 x4 x5 true x283000 x283001 x283002 x283003) else (if x5 < 0 then (gimballaw09_MatChecks.j5 k x2 x4 x5 true x283000 x283001 x283002 x283003) else (gimballaw09_MatChecks.j5 k x2 x4 x5 (decide (x5 ≥ x1)) x283000 x283001 x283002 x283003)))) else ((mat_Matrix_Cut.f k x283000 x283001 x283002 x283003 0 0 0 0).bind fun bt285 => (some (bt285.2.2.2.2 == 4))))
def gimballaw09_MatChecks.j5 : Nat → Int → Int → Int → Bool → Int → Int → Int → List Int → Option (Bool)
 | 0, _, _, _, _, _, _, _, _ => none
 | k + 1, x2, x4, x5, x123, x283000, x283001, x283002, x283003 => if x123 = true then ((mat_Matrix_Set.f x283000 x283001 x283002 x283003 x4 x5 3).bind fun t293 => (gimballaw09_MatChecks.l1 k x4 x5 (x283003.length : Int) 0 x283000 x283001 x283002 t293)) else ((mat_Matrix_At.f x283000 x283001 x283002 x283003 x4 x5).bind fun t296 => (if t296 = (IntKind.u64.wrap (wrap64 ((wrap64 ((wrap64 (x4 * x2)) + x5)) + 5))) then ((mat_Matrix_Set.f x283000 x283001 x283002 x283003 x4 x5 3).bind fun t297 => ((mat_Matrix_At.f x283000 x283001 x283002 t297 x4 x5).bind fun t298 => (if t298 = 3 then (if 0 ≤ (wrap64 ((wrap64 (x4 * x2)) + x5)) then (if (wrap64 ((wrap64 (x4 * x2)) + x5)) < (x283003.length : Int) then (some ((rd t297 (wrap64 ((wrap64 (x4 * x2)) + x5))) == 3)) else (none)) else (none)) else (some false)))) else (some false)))
def gimballaw09_MatChecks.l1 : Nat → Int → Int → Int → Int → Int → Int → Int → List Int → Option (Bool)
 | 0, _, _, _, _, _, _, _, _ => none
 | k + 1, x4, x5, x130, x131, x283000, x283001, x283002, x283003 => if x131 < x130 then (if 0 ≤ x131 then (if x131 < (x283003.length : Int) then (if (rd x283003 x131) = (IntKind.u64.wrap (wrap64 (x131 + 5))) then (gimballaw09_MatChecks.l1 k x4 x5 x130 (wrap64 (x131 + 1)) x283000 x283001 x283002 x283003) else (some false)) else (none)) else (none)) else ((mat_Matrix_At.f x283000 x283001 x283002 x283003 x4 x5).bind fun t295 => (some (t295 == 9221120237041090560)))
end
def gimballaw09_MatChecks.f (k : Nat) (a0 : Int) (a1 : Int) (a2 : Int) (a3 : Int) (a4 : Int) (a5 : Int) : Option (Bool) := (gimballaw09_head.f k).bind fun t278 => (if t278 = true then (if 0 ≤ (Go.bits .and .i64 a3 255) then (if (Go.bits .and .i64 a3 255 : Int).toNat ≤ 35184372088832 then ((some (List.replicate (Go.bits .and .i64 a3 255 : Int).toNat 0 : List Int)).bind fun y279 => (gimballaw09_MatChecks.l0 k a0 a1 a2 (Go.bits .and .i64 a3 255) a4 a5 (y279.length : Int) 0 a0 a1 a2 y279)) else (none)) else (none)) else (some false))
theorem gimballaw09_MatChecks.mono_l : ∀ k, (∀ y0 y1 y2 y3 y4 y5 y6 y7 y8 y9 y10 y11, LeO (gimballaw09_MatChecks.l0 k y0 y1 y2 y3 y4 y5 y6 y7 y8 y9 y10 y11) (gimballaw09_MatChecks.l0 (k + 1) y0 y1 y2 y3 y4 y5 y6 y7 y8 y9 y10 y11)) ∧ (∀ y0 y1 y2 y3 y4 y5 y6 y7 y8 y9 y10, LeO (gimballaw09_MatChecks.j1 k y0 y1 y2 y3 y4 y5 y6 y7 y8 y9 y10) (gimballaw09_MatChecks.j1 (k + 1) y0 y1 y2 y3 y4 y5 y6 y7 y8 y9 y10)) ∧ (∀ y0 y1 y2 y3 y4 y5 y6 y7 y8 y9 y10 y11, LeO (gimballaw09_MatChecks.j2 k y0 y1 y2 y3 y4 y5 y6 y7 y8 y9 y10 y11) (gimballaw09_MatChecks.j2 (k + 1) y0 y1 y2 y3 y4 y5 y6 y7 y8 y9 y10 y11)) ∧ (∀ y0 y1 y2 y3 y4 y5 y6 y7 y8 y9, LeO (gimballaw09_MatChecks.j3 k y0 y1 y2 y3 y4 y5 y6 y7 y8 y9) (gimballaw09_MatChecks.j3 (k + 1) y0 y1 y2 y3 y4 y5 y6 y7 y8 y9)) ∧ (∀ y0 y1 y2 y3 y4 y5 y6 y7 y8 y9 y10, LeO (gimballaw09_MatChecks.j4 k y0 y1 y2 y3 y4 y5 y6 y7 y8 y9 y10) (gimballaw09_MatChecks.j4 (k + 1) y0 y1 y2 y3 y4 y5 y6 y7 y8 y9 y10)) ∧ (∀ y0 y1 y2 y3 y4 y5 y6 y7, LeO (gimballaw09_MatChecks.j5 k y0 y1 y2 y3 y4 y5 y6 y7) (gimballaw09_MatChecks.j5 (k + 1) y0 y1 y2 y3 y4 y5 y6 y7)) ∧ (∀ y0 y1 y2 y3 y4 y5 y6 y7, LeO (gimballaw09_MatChecks.l1 k y0 y1 y2 y3 y4 y5 y6 y7) (gimballaw09_MatChecks.l1 (k + 1) y0 y1 y2 y3 y4 y5 y6 y7))
 | 0 => ⟨fun _ _ _ _ _ _ _ _ _ _ _ _ r h => by simp [gimballaw09_MatChecks.l0] at h, fun _ _ _ _ _ _ _ _ _ _ _ r h => by simp [gimballaw09_MatChecks.j1] at h, fun _ _ _ _ _ _ _ _ _ _ _ _ r h => by simp [gimballaw09_MatChecks.j2] at h, fun _ _ _ _ _ _ _ _ _ _ r h => by simp [gimballaw09_MatChecks.j3] at h, fun _ _ _ _ _ _ _ _ _ _ _ r h => by simp [gimballaw09_MatChecks.j4] at h, fun _ _ _ _ _ _ _ _ r h => by simp [gimballaw09_MatChecks.j5] at h, fun _ _ _ _ _ _ _ _ r h => by simp [gimballaw09_MatChecks.l1] at h⟩
 | k + 1 => by
  obtain ⟨ih0, ih1, ih2, ih3, ih4, ih5, ih6⟩ := gimballaw09_MatChecks.mono_l k
  refine ⟨?_, ?_, ?_, ?_, ?_, ?_, ?_⟩
  ·
   intro y0 y1 y2 y3 y4 y5 y6 y7 y8 y9 y10 y11
   unfold gimballaw09_MatChecks.l0
   repeat' first
   | (with_reducible exact ih0 _ _ _ _ _ _ _ _ _ _ _ _)
   | (with_reducible exact ih1 _ _ _ _ _ _ _ _ _ _ _)
   | (with_reducible exact ih2 _ _ _ _ _ _ _ _ _ _ _ _)
   | (with_reducible exact ih3 _ _ _ _ _ _ _ _ _ _)
   | (with_reducible exact ih4 _ _ _ _ _ _ _ _ _ _ _)
   | (with_reducible exact ih5 _ _ _ _ _ _ _ _)
   | (with_reducible exact ih6 _ _ _ _ _ _ _ _)
   | (with_reducible exact gimballaw09_head.mono _)
   | (with_reducible exact mat_Matrix_Check.mono _ _ _ _ _)
   | (with_reducible exact mat_Matrix_Cut.mono _ _ _ _ _ _ _ _ _)
   | (with_reducible exact LeO.refl _)
   | (with_reducible exact LeO.none _)
   | (with_reducible refine LeO.ite ?_ ?_)
   | (with_reducible refine LeO.bind ?_ (fun _ => ?_))
   | exact ih0 _ _ _ _ _ _ _ _ _ _ _ _
   | exact ih1 _ _ _ _ _ _ _ _ _ _ _
   | exact ih2 _ _ _ _ _ _ _ _ _ _ _ _
   | exact ih3 _ _ _ _ _ _ _ _ _ _
   | exact ih4 _ _ _ _ _ _ _ _ _ _ _
   | exact ih5 _ _ _ _ _ _ _ _
   | exact ih6 _ _ _ _ _ _ _ _
   | exact gimballaw09_head.mono _
   | exact mat_Matrix_Check.mono _ _ _ _ _
   | exact mat_Matrix_Cut.mono _ _ _ _ _ _ _ _ _
   | exact LeO.none _
   | refine LeO.ite ?_ ?_
   | refine LeO.bind ?_ (fun _ => ?_)
  ·
   intro y0 y1 y2 y3 y4 y5 y6 y7 y8 y9 y10
   unfold gimballaw09_MatChecks.j1
   repeat' first
   | (with_reducible exact ih0 _ _ _ _ _ _ _ _ _ _ _ _)
   | (with_reducible exact ih1 _ _ _ _ _ _ _ _ _ _ _)
   | (with_reducible exact ih2 _ _ _ _ _ _ _ _ _ _ _ _)
   | (with_reducible exact ih3 _ _ _ _ _ _ _ _ _ _)
   | (with_reducible exact ih4 _ _ _ _ _ _ _ _ _ _ _)
   | (with_reducible exact ih5 _ _ _ _ _ _ _ _)
   | (with_reducible exact ih6 _ _ _ _ _ _ _ _)
   | (with_reducible exact gimballaw09_head.mono _)
   | (with_reducible exact mat_Matrix_Check.mono _ _ _ _ _)
   | (with_reducible exact mat_Matrix_Cut.mono _ _ _ _ _ _ _ _ _)
   | (with_reducible exact LeO.refl _)
   | (with_reducible exact LeO.none _)
   | (with_reducible refine LeO.ite ?_ ?_)
   | (with_reducible refine LeO.bind ?_ (fun _ => ?_))
   | exact ih0 _ _ _ _ _ _ _ _ _ _ _ _
   | exact ih1 _ _ _ _ _ _ _ _ _ _ _
   | exact ih2 _ _ _ _ _ _ _ _ _ _ _ _
   | exact ih3 _ _ _ _ _ _ _ _ _ _
   | exact ih4 _ _ _ _ _ _ _ _ _ _ _
   | exact ih5 _ _ _ _ _ _ _ _
   | exact ih6 _ _ _ _ _ _ _ _
   | exact gimballaw09_head.mono _
   | exact mat_Matrix_Check.mono _ _ _ _ _
   | exact mat_Matrix_Cut.mono _ _ _ _ _ _ _ _ _
   | exact LeO.none _
   | refine LeO.ite ?_ ?_
   | refine LeO.bind ?_ (fun _ => ?_)
  ·
   intro y0 y1 y2 y3 y4 y5 y6 y7 y8 y9 y10 y11
   unfold gimballaw09_MatChecks.j2
   repeat' first
   | (with_reducible exact ih0 _ _ _ _ _ _ _ _ _ _ _ _)
   | (with_reducible exact ih1 _ _ _ _ _ _ _ _ _ _ _)
   | (with_reducible exact ih2 _ _ _ _ _ _ _ _ _ _ _ _)
   | (with_reducible exact ih3 _ _ _ _ _ _ _ _ _ _)
   | (with_reducible exact ih4 _ _ _ _ _ _ _ _ _ _ _)
   | (with_reducible exact ih5 _ _ _ _ _ _ _ _)
   | (with_reducible exact ih6 _ _ _ _ _ _ _ _)
   | (with_reducible exact gimballaw09_head.mono _)
   | (with_reducible exact mat_Matrix_Check.mono _ _ _ _ _)
   | (with_reducible exact mat_Matrix_Cut.mono _ _ _ _ _ _ _ _ _)
   | (with_reducible exact LeO.refl _)
   | (with_reducible exact LeO.none _)
   | (with_reducible refine LeO.ite ?_ ?_)
   | (with_reducible refine LeO.bind ?_ (fun _ => ?_))
   | exact ih0 _ _ _ _ _ _ _ _ _ _ _ _
   | exact ih1 _ _ _ _ _ _ _ _ _ _ _
   | exact ih2 _ _ _ _ _ _ _ _ _ _ _ _
   | exact ih3 _ _ _ _ _ _ _ _ _ _
   | exact ih4 _ _ _ _ _ _ _ _ _ _ _
   | exact ih5 _ _ _ _ _ _ _ _
   | exact ih6 _ _ _ _ _ _ _ _
   | exact gimballaw09_head.mono _
   | exact mat_Matrix_Check.mono _ _ _ _ _
   | exact mat_Matrix_Cut.mono _ _ _ _ _ _ _ _ _
   | exact LeO.none _
   | refine LeO.ite ?_ ?_
   | refine LeO.bind ?_ (fun _ => ?_)
  ·
   intro y0 y1 y2 y3 y4 y5 y6 y7 y8 y9
   unfold gimballaw09_MatChecks.j3
   repeat' first
   | (with_reducible exact ih0 _ _ _ _ _ _ _ _ _ _ _ _)
   | (with_reducible exact ih1 _ _ _ _ _ _ _ _ _ _ _)
   | (with_reducible exact ih2 _ _ _ _ _ _ _ _ _ _ _ _)
   | (with_reducible exact ih3 _ _ _ _ _ _ _ _ _ _)
   | (with_reducible exact ih4 _ _ _ _ _ _ _ _ _ _ _)
   | (with_reducible exact ih5 _ _ _ _ _ _ _ _)
   | (with_reducible exact ih6 _ _ _ _ _ _ _ _)
   | (with_reducible exact gimballaw09_head.mono _)
   | (with_reducible exact mat_Matrix_Check.mono _ _ _ _ _)
   | (with_reducible exact mat_Matrix_Cut.mono _ _ _ _ _ _ _ _ _)
   | (with_reducible exact LeO.refl _)
   | (with_reducible exact LeO.none _)
   | (with_reducible refine LeO.ite ?_ ?_)
   | (with_reducible refine LeO.bind ?_ (fun _ => ?_))
   | exact ih0 _ _ _ _ _ _ _ _ _ _ _ _
   | exact ih1 _ _ _ _ _ _ _ _ _ _ _
   | exact ih2 _ _ _ _ _ _ _ _ _ _ _ _
   | exact ih3 _ _ _ _ _ _ _ _ _ _
   | exact ih4 _ _ _ _ _ _ _ _ _ _ _
   | exact ih5 _ _ _ _ _ _ _ _
   | exact ih6 _ _ _ _ _ _ _ _
   | exact gimballaw09_head.mono _
   | exact mat_Matrix_Check.mono _ _ _ _ _
   | exact mat_Matrix_Cut.mono _ _ _ _ _ _ _ _ _
   | exact LeO.none _
   | refine LeO.ite ?_ ?_
   | refine LeO.bind ?_ (fun _ => ?_)
  ·
   intro y0 y1 y2 y3 y4 y5 y6 y7 y8 y9 y10
   unfold gimballaw09_MatChecks.j4
   repeat' first
   | (with_reducible exact ih0 _ _ _ _ _ _ _ _ _ _ _ _)
   | (with_reducible exact ih1 _ _ _ _ _ _ _ _ _ _ _)
   | (with_reducible exact ih2 _ _ _ _ _ _ _ _ _ _ _ _)
   | (with_reducible exact ih3 _ _ _ _ _ _ _ _ _ _)
   | (with_reducible exact ih4 _ _ _ _ _ _ _ _ _ _ _)
   | (with_reducible exact ih5 _ _ _ _ _ _ _ _)
   | (with_reducible exact ih6 _ _ _ _ _ _ _ _)
   | (with_reducible exact gimballaw09_head.mono _)
   | (with_reducible exact mat_Matrix_Check.mono _ _ _ _ _)
   | (with_reducible exact mat_Matrix_Cut.mono _ _ _ _ _ _ _ _ _)
   | (with_reducible exact LeO.refl _)
   | (with_reducible exact LeO.none _)
   | (with_reducible refine LeO.ite ?_ ?_)
   | (with_reducible refine LeO.bind ?_ (fun _ => ?_))
   | exact ih0 _ _ _ _ _ _ _ _ _ _ _ _
   | exact ih1 _ _ _ _ _ _ _ _ _ _ _
   | exact ih2 _ _ _ _ _ _ _ _ _ _ _ _
   | exact ih3 _ _ _ _ _ _ _ _ _ _
   | exact ih4 _ _ _ _ _ _ _ _ _ _ _
   | exact ih5 _ _ _ _ _ _ _ _
   | exact ih6 _ _ _ _ _ _ _ _
   | exact gimballaw09_head.mono _
   | exact mat_Matrix_Check.mono _ _ _ _ _
   | exact mat_Matrix_Cut.mono _ _ _ _ _ _ _ _ _
   | exact LeO.none _
   | refine LeO.ite ?_ ?_
   | refine LeO.bind ?_ (fun _ => ?_)
  ·
   intro y0 y1 y2 y3 y4 y5 y6 y7
   unfold gimballaw09_MatChecks.j5
   repeat' first
   | (with_reducible exact ih0 _ _ _ _ _ _ _ _ _ _ _ _)
   | (with_reducible exact ih1 _ _ _ _ _ _ _ _ _ _ _)
   | (with_reducible exact ih2 _ _ _ _ _ _ _ _ _ _ _ _)
   | (with_reducible exact ih3 _ _ _ _ _ _ _ _ _ _)
   | (with_reducible exact ih4 _ _ _ _ _ _ _ _ _ _ _)
   | (with_reducible exact ih5 _ _ _ _ _ _ _ _)
   | (with_reducible exact ih6 _ _ _ _ _ _ _ _)
   | (with_reducible exact gimballaw09_head.mono _)
   | (with_reducible exact mat_Matrix_Check.mono _ _ _ _ _)
   | (with_reducible exact mat_Matrix_Cut.mono _ _ _ _ _ _ _ _ _)
   | (with_reducible exact LeO.refl _)
   | (with_reducible exact LeO.none _)
   | (with_reducible refine LeO.ite ?_ ?_)
   | (with_reducible refine LeO.bind ?_ (fun _ => ?_))
   | exact ih0 _ _ _ _ _ _ _ _ _ _ _ _
   | exact ih1 _ _ _ _ _ _ _ _ _ _ _
   | exact ih2 _ _ _ _ _ _ _ _ _ _ _ _
   | exact ih3 _ _ _ _ _ _ _ _ _ _
   | exact ih4 _ _ _ _ _ _ _ _ _ _ _
   | exact ih5 _ _ _ _ _ _ _ _
   | exact ih6 _ _ _ _ _ _ _ _
   | exact gimballaw09_head.mono _
   | exact mat_Matrix_Check.mono _ _ _ _ _
   | exact mat_Matrix_Cut.mono _ _ _ _ _ _ _ _ _
   | exact LeO.none _
   | refine LeO.ite ?_ ?_
   | refine LeO.bind ?_ (fun _ => ?_)
  ·
   intro y0 y1 y2 y3 y4 y5 y6 y7
   unfold gimballaw09_MatChecks.l1
   repeat' first
   | (with_reducible exact ih0 _ _ _ _ _ _ _ _ _ _ _ _)
   | (with_reducible exact ih1 _ _ _ _ _ _ _ _ _ _ _)
   | (with_reducible exact ih2 _ _ _ _ _ _ _ _ _ _ _ _)
   | (with_reducible exact ih3 _ _ _ _ _ _ _ _ _ _)
   | (with_reducible exact ih4 _ _ _ _ _ _ _ _ _ _ _)
   | (with_reducible exact ih5 _ _ _ _ _ _ _ _)
   | (with_reducible exact ih6 _ _ _ _ _ _ _ _)
   | (with_reducible exact gimballaw09_head.mono _)
   | (with_reducible exact mat_Matrix_Check.mono _ _ _ _ _)
   | (with_reducible exact mat_Matrix_Cut.mono _ _ _ _ _ _ _ _ _)
   | (with_reducible exact LeO.refl _)
   | (with_reducible exact LeO.none _)
   | (with_reducible refine LeO.ite ?_ ?_)
   | (with_reducible refine LeO.bind ?_ (fun _ => ?_))
   | exact ih0 _ _ _ _ _ _ _ _ _ _ _ _
   | exact ih1 _ _ _ _ _ _ _ _ _ _ _
   | exact ih2 _ _ _ _ _ _ _ _ _ _ _ _
   | exact ih3 _ _ _ _ _ _ _ _ _ _
   | exact ih4 _ _ _ _ _ _ _ _ _ _ _
   | exact ih5 _ _ _ _ _ _ _ _
   | exact ih6 _ _ _ _ _ _ _ _
   | exact gimballaw09_head.mono _
   | exact mat_Matrix_Check.mono _ _ _ _ _
   | exact mat_Matrix_Cut.mono _ _ _ _ _ _ _ _ _
   | exact LeO.none _
   | refine LeO.ite ?_ ?_
   | refine LeO.bind ?_ (fun _ => ?_)
theorem gimballaw09_MatChecks.mono : ∀ a0 a1 a2 a3 a4 a5 k, LeO (gimballaw09_MatChecks.f k a0 a1 a2 a3 a4 a5) (gimballaw09_MatChecks.f (k + 1) a0 a1 a2 a3 a4 a5) := by
 intro a0 a1 a2 a3 a4 a5 k
 obtain ⟨ih0, ih1, ih2, ih3, ih4, ih5, ih6⟩ := gimballaw09_MatChecks.mono_l k
 unfold gimballaw09_MatChecks.f
 repeat' first
   | (with_reducible exact ih0 _ _ _ _ _ _ _ _ _ _ _ _)
   | (with_reducible exact ih1 _ _ _ _ _ _ _ _ _ _ _)
   | (with_reducible exact ih2 _ _ _ _ _ _ _ _ _ _ _ _)
   | (with_reducible exact ih3 _ _ _ _ _ _ _ _ _ _)
   | (with_reducible exact ih4 _ _ _ _ _ _ _ _ _ _ _)
   | (with_reducible exact ih5 _ _ _ _ _ _ _ _)
   | (with_reducible exact ih6 _ _ _ _ _ _ _ _)
   | (with_reducible exact gimballaw09_head.mono _)
   | (with_reducible exact mat_Matrix_Check.mono _ _ _ _ _)
   | (with_reducible exact mat_Matrix_Cut.mono _ _ _ _ _ _ _ _ _)
   | (with_reducible exact LeO.refl _)
   | (with_reducible exact LeO.none _)
   | (with_reducible refine LeO.ite ?_ ?_)
   | (with_reducible refine LeO.bind ?_ (fun _ => ?_))
   | exact ih0 _ _ _ _ _ _ _ _ _ _ _ _
   | exact ih1 _ _ _ _ _ _ _ _ _ _ _
   | exact ih2 _ _ _ _ _ _ _ _ _ _ _ _
   | exact ih3 _ _ _ _ _ _ _ _ _ _
   | exact ih4 _ _ _ _ _ _ _ _ _ _ _
   | exact ih5 _ _ _ _ _ _ _ _
   | exact ih6 _ _ _ _ _ _ _ _
   | exact gimballaw09_head.mono _
   | exact mat_Matrix_Check.mono _ _ _ _ _
   | exact mat_Matrix_Cut.mono _ _ _ _ _ _ _ _ _
   | exact LeO.none _
   | refine LeO.ite ?_ ?_
   | refine LeO.bind ?_ (fun _ => ?_)
set_option maxHeartbeats 8000000 in
set_option maxRecDepth 100000 in
theorem gimballaw09_MatChecks.calls (k : Nat) (a0 : Int) (a1 : Int) (a2 : Int) (a3 : Int) (a4 : Int) (a5 : Int) (r : Bool) (w : World) (h : gimballaw09_MatChecks.f k a0 a1 a2 a3 a4 a5 = some r) :
  Calls Try.prog 4 #[.int .i64 a0, .int .i64 a1, .int .i64 a2, .int .i64 a3, .int .i64 a4, .int .i64 a5] w fun e w' => e = .returned (.bool r) ∧ Below w.heap.size w w' := by
 have hu25 := Try.underlying25
 have HB := Aside0.mk (Below.refl w.heap.size w)
 have H : ((gimballaw09_head.f k).bind fun t278 => (if t278 = true then (if 0 ≤ (Go.bits .and .i64 a3 255) then (if (Go.bits .and .i64 a3 255 : Int).toNat ≤ 35184372088832 then ((some (List.replicate (Go.bits .and .i64 a3 255 : Int).toNat 0 : List Int)).bind fun y279 => (gimballaw09_MatChecks.l0 k a0 a1 a2 (Go.bits .and .i64 a3 255) a4 a5 (y279.length : Int) 0 a0 a1 a2 y279)) else (none)) else (none)) else (some false))) = some r := h
 clear h
 obtain ⟨t278, A70, H⟩ := Option.bind_eq_some_iff.mp H
 (try dsimp -simprocs only at H)
 have A7 := Aside0.mk A70
 clear A70
 by_cases c8 : t278 = true
 ·
  subst c8
  rw [if_pos rfl] at H
  by_cases c9 : 0 ≤ (Go.bits .and .i64 a3 255)
  ·
   rw [if_pos c9] at H
   have c9b0 := eq_true c9
   have c9b1 : decide (0 ≤ (Go.bits .and .i64 a3 255)) = true := decide_eq_true c9
   clear c9
   by_cases c10 : (Go.bits .and .i64 a3 255 : Int).toNat ≤ 35184372088832
   ·
    rw [if_pos c10] at H
    have c10b0 := eq_true c10
    have c10b1 : decide ((Go.bits .and .i64 a3 255 : Int).toNat ≤ 35184372088832) = true := decide_eq_true c10
    clear c10
    obtain ⟨y279, hy279⟩ : ∃ y_ : List Int, y_ = (List.replicate (Go.bits .and .i64 a3 255 : Int).toNat 0) := ⟨_, rfl⟩
    replace H : (gimballaw09_MatChecks.l0 k a0 a1 a2 (Go.bits .and .i64 a3 255) a4 a5 (y279.length : Int) 0 a0 a1 a2 y279) = some r := by first | (rw [hy279]; with_reducible exact H) | (have H2_ := (Option.bind_some _ _).symm.trans H; rw [hy279]; with_reducible exact H2_) | (have H2_ := (Option.bind_some _ _).symm.trans H; with_reducible exact H2_) | with_reducible exact H | (rw [hy279]; exact H) | exact H
    have Ny279 := Aside0.mk hy279
    clear hy279
    have H' := Aside0.mk H
    clear H
    go_enter Try.func4, Try.ntmps4
    go_wp2_with (first | ((with_reducible refine gate_callee (f := 7) rfl ?_); refine goesL_ (some 21) rfl rfl Try.func7 (by kernel_rfl) rfl #[] rfl ga ?_; (with_reducible refine (gimballaw09_head.calls k  true _ A7.out).mono ?_); rintro e w11 ⟨rfl, hb⟩; refine ⟨_, rfl, ?_⟩; have n0_ := Aside0.mk (below_step bel hb); clear HB; have HB := n0_; clear n0_; (try clear hb)) | ((with_reducible refine gate_dst (N := 29) rfl ?_); refine Kd.R_make (Kd.int .u64) _ 30 rfl (N := 29) rfl 22 _ _ rfl (Go.bits .and .i64 a3 255) rfl rfl Try.underlying22 (.int .u64 0) 8 info30 rfl (by decide) (by omega) 0 (ok := fun _ => True) (okp := fun _ => True) rfl (fun _ hk => hk) trivial (of_decide_eq_true (by first | (with_reducible assumption) | assumption)) (Nat.le_trans (Nat.mul_le_mul_right _ (of_decide_eq_true (by first | (with_reducible assumption) | assumption) : (Go.bits .and .i64 a3 255).toNat ≤ 35184372088832)) (by omega)) (Below.refl _ _) (Nat.le_refl _) ?_; intro v280 w12 ho13 hb hg_ hnew_; clear hg_ hnew_; (first | rw [← Ny279.out] at ho13 | (simp only [Int.reduceToNat] at ho13; rw [← Ny279.out] at ho13)); have n0_ := Aside0.mk (Kd.R_lower ho13 (below_size bel)); have n1_ := Aside0.mk (below_step bel hb); clear HB; have HO281 := n0_; have HB := n1_; clear n0_ n1_; clear hb ho13; obtain ⟨Ao14, co14, eo14⟩ := Kd.R_slice HO281.out; subst eo14) | ((with_reducible refine gate_dst (N := 13) rfl ?_); refine box_event ?hg (N := 13) ?hd (cs := #[.int .i64 0, .int .i64 0, .int .i64 0, .slice none 0 0]) (t := 25) ?hr ?_; (case hd => rfl); (case hg => rfl); (case hr => first | (go_simp; done) | (go_simp; rfl)); intro gb282 hg w15 hbox hb; have n0_ := Aside0.mk (Kd.R_below (kr HO281) hb); have n1_ := Aside0.mk (below_step bel hb); have n2_ := Aside0.mk (hbox); have n3_ := Aside0.mk ((by rw [hg]; exact (below_size bel) : w.heap.size ≤ gb282)); have n4_ := Aside0.mk ((by rw [hg]; exact (below_size bel) : w.heap.size ≤ gb282)); clear HO281; clear HB; have HO281 := n0_; have HB := n1_; have BK282 := n2_; have GW282 := n3_; have GE282 := n4_; clear n0_ n1_ n2_ n3_ n4_; clear hb hbox hg; have hcz16_0 : w15.cell? ⟨gb282, 0, none⟩ = some (.int .i64 0) := (blk_cell BK282.out 0).trans rfl; have hcz16_1 : w15.cell? ⟨gb282, 1, none⟩ = some (.int .i64 0) := (blk_cell BK282.out 1).trans rfl; have hcz16_2 : w15.cell? ⟨gb282, 2, none⟩ = some (.int .i64 0) := (blk_cell BK282.out 2).trans rfl; have hcz16_3 : w15.cell? ⟨gb282, 3, none⟩ = some (.slice none 0 0) := (blk_cell BK282.out 3).trans rfl; have hfz16_0 := blk_frozen BK282.out 0; have hfz16_1 := blk_frozen BK282.out 1; have hfz16_2 := blk_frozen BK282.out 2; have hfz16_3 := blk_frozen BK282.out 3))
    go_loopg [34] k (fun kq v34 w' => ∃ (x34_1 : Int) (x283003_1 : List Int) (u283003 : Value), v34 = .int .i64 x34_1 ∧ Aside0 (gimballaw09_MatChecks.l0 kq a0 a1 a2 (Go.bits .and .i64 a3 255) a4 a5 (y279.length : Int) x34_1 a0 a1 a2 x283003_1 = some r) ∧ Aside0 (kq ≤ k) ∧ Aside0 (Kd.R (Kd.int .u64) 30 w' w.heap.size (fun _ => True) u283003 x283003_1) ∧ Aside0 (w'.heap[gb282]? = some (.cells #[.int .i64 a0, .int .i64 a1, .int .i64 a2, u283003] 25 (0, 0))) ∧ Aside0 (Below w.heap.size w w'))
    case atStart => exact ⟨(0), (y279), (.slice Ao14 y279.length co14), (by first | rfl | (simp; done) | (simp [*]; done)), H', ⟨Nat.le_refl _⟩, ⟨by (with_reducible repeat (first | apply Kd.R_alloc | apply Kd.R_drewN | apply Kd.R_drew)); exact Kd.R_mono (Kd.R_far (p := ⟨gb282, 3, none⟩) (Kd.R_far (p := ⟨gb282, 2, none⟩) (Kd.R_far (p := ⟨gb282, 1, none⟩) (Kd.R_far (p := ⟨gb282, 0, none⟩) (Kd.R_types HO281.out BK282.out (by decide)) (fun _ hk => hk.2) (.int .i64 a0)) (fun _ hk => hk.2) (.int .i64 a1)) (fun _ hk => hk.2) (.int .i64 a2)) (fun _ hk => hk.2) (.slice Ao14 y279.length co14)) (fun _ hk => trivial)⟩, ⟨by (with_reducible repeat (first | refine blk_drewN ?_ _ | refine blk_drew ?_ | refine blk_alloc ?_ _)); refine blk_put (cs := #[.int .i64 a0, .int .i64 a1, .int .i64 a2, .slice none 0 0]) ?_ 3 _ rfl; (with_reducible repeat (first | refine blk_drewN ?_ _ | refine blk_drew ?_ | refine blk_alloc ?_ _)); refine blk_put (cs := #[.int .i64 a0, .int .i64 a1, .int .i64 0, .slice none 0 0]) ?_ 2 _ rfl; (with_reducible repeat (first | refine blk_drewN ?_ _ | refine blk_drew ?_ | refine blk_alloc ?_ _)); refine blk_put (cs := #[.int .i64 a0, .int .i64 0, .int .i64 0, .slice none 0 0]) ?_ 1 _ rfl; (with_reducible repeat (first | refine blk_drewN ?_ _ | refine blk_drew ?_ | refine blk_alloc ?_ _)); refine blk_put (cs := #[.int .i64 0, .int .i64 0, .int .i64 0, .slice none 0 0]) ?_ 0 _ rfl; (with_reducible repeat (first | refine blk_drewN ?_ _ | refine blk_drew ?_ | refine blk_alloc ?_ _)); exact BK282.out⟩, ⟨bes⟩⟩
    case round =>
     clear H'
     try clear c1
     try clear p2
     try clear c4
     try clear c7
     try clear c8
     try clear c9
     try clear c9b0
     try clear c9b1
     try clear c10
     try clear c10b0
     try clear c10b1
     try clear hcz16_0
     try clear hcz16_1
     try clear hcz16_2
     try clear hcz16_3
     try clear hfz16_0
     try clear hfz16_1
     try clear hfz16_2
     try clear hfz16_3
     obtain ⟨x34_1, x283003_1, u283003, rfl, HA, HK1, HO_283003, BK282, HB⟩ := hrel
     cases gk with
     | zero => exact absurd HA.out (by simp [gimballaw09_MatChecks.l0])
     | succ k1 =>
      have H := HA.out
      clear HA
      simp only [gimballaw09_MatChecks.l0] at H
      by_cases c17 : x34_1 < (y279.length : Int)
      ·
       rw [if_pos c17] at H
       have c17b0 : decide (x34_1 < (y279.length : Int)) = true := decide_eq_true c17
       clear c17
       by_cases c18 : 0 ≤ x34_1
       ·
        rw [if_pos c18] at H
        have c18b0 : decide (0 ≤ x34_1) = true := decide_eq_true c18
        clear c18
        by_cases c19 : x34_1 < (x283003_1.length : Int)
        ·
         rw [if_pos c19] at H
         have c19b0 : decide (x34_1 < (x283003_1.length : Int)) = true := decide_eq_true c19
         clear c19
         obtain ⟨y283, hy283⟩ : ∃ y_ : List Int, y_ = (x283003_1.set (x34_1 : Int).toNat (IntKind.u64.wrap (wrap64 (x34_1 + 5)))) := ⟨_, rfl⟩
         replace H : (gimballaw09_MatChecks.l0 k1 a0 a1 a2 (Go.bits .and .i64 a3 255) a4 a5 (y279.length : Int) (wrap64 (x34_1 + 1)) a0 a1 a2 y283) = some r := by first | (rw [hy283]; with_reducible exact H) | (have H2_ := (Option.bind_some _ _).symm.trans H; rw [hy283]; with_reducible exact H2_) | (have H2_ := (Option.bind_some _ _).symm.trans H; with_reducible exact H2_) | with_reducible exact H | (rw [hy283]; exact H) | exact H
         have Ny283 := Aside0.mk hy283
         clear hy283
         have H' := Aside0.mk H
         clear H
         have hcz21_0 : wr.cell? ⟨gb282, 0, none⟩ = some (.int .i64 a0) := (blk_cell BK282.out 0).trans rfl
         have hcz21_1 : wr.cell? ⟨gb282, 1, none⟩ = some (.int .i64 a1) := (blk_cell BK282.out 1).trans rfl
         have hcz21_2 : wr.cell? ⟨gb282, 2, none⟩ = some (.int .i64 a2) := (blk_cell BK282.out 2).trans rfl
         have hcz21_3 : wr.cell? ⟨gb282, 3, none⟩ = some (u283003) := (blk_cell BK282.out 3).trans rfl
         have hfz21_0 := blk_frozen BK282.out 0
         have hfz21_1 := blk_frozen BK282.out 1
         have hfz21_2 := blk_frozen BK282.out 2
         have hfz21_3 := blk_frozen BK282.out 3
         have p20 : 0 ≤ (x34_1 : Int) := of_decide_eq_true (by first | (with_reducible assumption) | assumption)
         have q20 : (x34_1 : Int) < ((x283003_1.length : Int) : Int) := of_decide_eq_true (by first | (with_reducible assumption) | assumption)
         obtain ⟨go20, co20, eo20, gb20, gl20, cl20, HG20⟩ := Kd.R_form HO_283003.out (by omega)
         (first | cases eo20 | (injection eo20 with ea_ en_ ec_; (first | subst ea_ | (injection ea_ with ea_; subst ea_)); subst ec_; clear en_))
         have GB20 := Aside0.mk gb20
         have GG20 := Aside0.mk HG20
         clear gb20 gl20 HG20
         obtain ⟨hx20_0, hf20_0⟩ := Kd.R_celln 0 HO_283003.out (x34_1 : Int) p20 q20
         replace p20 := eq_true p20
         replace q20 := eq_true q20
         have HP22 := Kd.R_putg HO_283003.out (x34_1 : Int) (IntKind.u64.wrap (wrap64 (x34_1 + 5)))
         go_wp2_with (first | ((with_reducible refine gate_store (t := 30) (p := 43) rfl ?_); refine store_event (t := 30) (p := 43) (v := ?vo_w23) (w1 := (wr.setCell ⟨go20, (x34_1 : Int).toNat, none⟩ (.int .u64 (IntKind.u64.wrap (wrap64 (x34_1 + 5)))))) ?hg ?ho ?hn ?hr ?_; (case ho => rfl); (case hg => rfl); (case hn => rfl); (case hr => first | (go_simp; done) | (go_simp; rfl)); intro w23 hw; have hg : wr.grownBy w23 (some go20) := (by rw [hw]; exact HP22.2); have hp_ : Kd.R (Kd.int .u64) 30 w23 w.heap.size (fun _ => True) (.slice (some ⟨go20, 0, none⟩) x283003_1.length co20) y283 := (by rw [hw, Ny283.out]; exact HP22.1); clear HP22; have n0_ := Aside0.mk (hp_); have n1_ := Aside0.mk (blk_grown (g := gb282) (o := .cells #[.int .i64 a0, .int .i64 a1, .int .i64 a2, .slice (some ⟨go20, 0, none⟩) x283003_1.length co20] 25 (0, 0)) (kb BK282) hg (Kd.R_ne HO_283003.out BK282.out (by decide))); have n2_ := Aside0.mk ((by rw [hw]; exact below_set (HB.out) GB20.out : Below w.heap.size w w23)); clear HO_283003; clear BK282; clear HB; have HO_283003 := n0_; have BK282 := n1_; have HB := n2_; clear n0_ n1_ n2_; clear hg hw hp_))
         go_roundg k1
         case measure => have := HK1.out; omega
         case rel => exact ⟨(wrap64 (x34_1 + 1)), (y283), (.slice (some ⟨go20, 0, none⟩) x283003_1.length co20), (by first | rfl | (simp; done) | (simp [*]; done)), H', ⟨by have := HK1.out; omega⟩, ⟨by (with_reducible repeat (first | apply Kd.R_alloc | apply Kd.R_drewN | apply Kd.R_drew)); exact HO_283003.out⟩, ⟨kb BK282⟩, ⟨bes⟩⟩
        ·
         rw [if_neg c19] at H
         exact absurd H (by simp)
       ·
        rw [if_neg c18] at H
        exact absurd H (by simp)
      ·
       rw [if_neg c17] at H
       have c17b0 : decide (x34_1 < (y279.length : Int)) = false := decide_eq_false c17
       clear c17
       have HC24 := Aside0.mk H
       clear H
       go_upto_region 10 with (fail)
       go_cut [15] (fun v15 wc => ∃ (kq : Nat) (x15_23 : Bool), v15 = .bool x15_23 ∧ Aside0 (gimballaw09_MatChecks.j1 kq a0 a1 a2 (Go.bits .and .i64 a3 255) a4 a5 x15_23 a0 a1 a2 x283003_1 = some r) ∧ Aside0 (kq ≤ k1) ∧ Aside0 (Kd.R (Kd.int .u64) 30 wc w.heap.size (fun _ => True) u283003 x283003_1) ∧ Aside0 (wc.heap[gb282]? = some (.cells #[.int .i64 a0, .int .i64 a1, .int .i64 a2, u283003] 25 (0, 0))) ∧ Aside0 (Below w.heap.size w wc))
       case first =>
        have H := HC24.out
        clear HC24
        by_cases c25 : a0 ≥ 0
        ·
         rw [if_pos c25] at H
         have c25b0 : decide (0 ≤ a0) = true := decide_eq_true c25
         clear c25
         (first | rw [c25b0] | (simp only [i64_w, i32_w]; rw [c25b0]) | skip)
         by_cases c26 : a0 ≤ 4096
         ·
          rw [if_pos c26] at H
          have c26b0 : decide (a0 ≤ 4096) = true := decide_eq_true c26
          clear c26
          by_cases c27 : a1 ≥ 0
          ·
           rw [if_pos c27] at H
           have c27b0 : decide (0 ≤ a1) = true := decide_eq_true c27
           clear c27
           by_cases c28 : a1 ≤ 4096
           ·
            rw [if_pos c28] at H
            have c28b0 : decide (a1 ≤ 4096) = true := decide_eq_true c28
            clear c28
            by_cases c29 : a2 ≥ a1
            ·
             rw [if_pos c29] at H
             have c29b0 : decide (a1 ≤ a2) = true := decide_eq_true c29
             clear c29
             have H' := Aside0.mk H
             clear H
             go_wp2
             go_meet
             case rel => exact ⟨_, (decide (a2 ≤ 1099511627776)), (by first | rfl | (simp; done) | (simp [*]; done)), H', ⟨by have := HK1.out; first | omega | exact Nat.le_refl _⟩, ⟨by (with_reducible repeat (first | apply Kd.R_alloc | apply Kd.R_drewN | apply Kd.R_drew)); exact HO_283003.out⟩, ⟨kb BK282⟩, ⟨bes⟩⟩
            ·
             rw [if_neg c29] at H
             have c29b0 : decide (a1 ≤ a2) = false := decide_eq_false c29
             clear c29
             have H' := Aside0.mk H
             clear H
             go_wp2
             go_meet
             case rel => exact ⟨_, (false), (by first | rfl | (simp; done) | (simp [*]; done)), H', ⟨by have := HK1.out; first | omega | exact Nat.le_refl _⟩, ⟨by (with_reducible repeat (first | apply Kd.R_alloc | apply Kd.R_drewN | apply Kd.R_drew)); exact HO_283003.out⟩, ⟨kb BK282⟩, ⟨bes⟩⟩
           ·
            rw [if_neg c28] at H
            have c28b0 : decide (a1 ≤ 4096) = false := decide_eq_false c28
            clear c28
            have H' := Aside0.mk H
            clear H
            go_wp2
            go_meet
            case rel => exact ⟨_, (false), (by first | rfl | (simp; done) | (simp [*]; done)), H', ⟨by have := HK1.out; first | omega | exact Nat.le_refl _⟩, ⟨by (with_reducible repeat (first | apply Kd.R_alloc | apply Kd.R_drewN | apply Kd.R_drew)); exact HO_283003.out⟩, ⟨kb BK282⟩, ⟨bes⟩⟩
          ·
           rw [if_neg c27] at H
           have c27b0 : decide (0 ≤ a1) = false := decide_eq_false c27
           clear c27
           have H' := Aside0.mk H
           clear H
           go_wp2
           go_meet
           case rel => exact ⟨_, (false), (by first | rfl | (simp; done) | (simp [*]; done)), H', ⟨by have := HK1.out; first | omega | exact Nat.le_refl _⟩, ⟨by (with_reducible repeat (first | apply Kd.R_alloc | apply Kd.R_drewN | apply Kd.R_drew)); exact HO_283003.out⟩, ⟨kb BK282⟩, ⟨bes⟩⟩
         ·
          rw [if_neg c26] at H
          have c26b0 : decide (a0 ≤ 4096) = false := decide_eq_false c26
          clear c26
          have H' := Aside0.mk H
          clear H
          go_wp2
          go_meet
          case rel => exact ⟨_, (false), (by first | rfl | (simp; done) | (simp [*]; done)), H', ⟨by have := HK1.out; first | omega | exact Nat.le_refl _⟩, ⟨by (with_reducible repeat (first | apply Kd.R_alloc | apply Kd.R_drewN | apply Kd.R_drew)); exact HO_283003.out⟩, ⟨kb BK282⟩, ⟨bes⟩⟩
        ·
         rw [if_neg c25] at H
         have c25b0 : decide (0 ≤ a0) = false := decide_eq_false c25
         clear c25
         (first | rw [c25b0] | (simp only [i64_w, i32_w]; rw [c25b0]) | skip)
         have H' := Aside0.mk H
         clear H
         go_wp2
         go_meet
         case rel => exact ⟨_, (false), (by first | rfl | (simp; done) | (simp [*]; done)), H', ⟨by have := HK1.out; first | omega | exact Nat.le_refl _⟩, ⟨by (with_reducible repeat (first | apply Kd.R_alloc | apply Kd.R_drewN | apply Kd.R_drew)); exact HO_283003.out⟩, ⟨kb BK282⟩, ⟨bes⟩⟩
       case rest =>
        clear HC24
        try clear c1
        try clear c2
        try clear p2
        try clear q2
        try clear hx2
        try clear c4
        try clear p6
        try clear c7
        try clear c8
        try clear c9
        try clear c9b0
        try clear c9b1
        try clear c10
        try clear c10b0
        try clear c10b1
        try clear c17
        try clear c17b0
        try clear c18
        try clear c18b0
        try clear c19
        try clear c19b0
        try clear p20
        try clear q20
        try clear hx20
        try clear hf20
        try clear c25
        try clear c25b0
        try clear c26
        try clear c26b0
        try clear c27
        try clear c27b0
        try clear c28
        try clear c28b0
        try clear c29
        try clear c29b0
        try clear hcz16_0
        try clear hcz16_1
        try clear hcz16_2
        try clear hcz16_3
        try clear hcz21_0
        try clear hcz21_1
        try clear hcz21_2
        try clear hcz21_3
        try clear hfz16_0
        try clear hfz16_1
        try clear hfz16_2
        try clear hfz16_3
        try clear hfz21_0
        try clear hfz21_1
        try clear hfz21_2
        try clear hfz21_3
        try clear hx20_0
        try clear p2
        try clear p20
        try clear q20
        obtain ⟨kq, x15_23, rfl, HA, HJ23, HO_283003, BK282, HB⟩ := hcut
        cases kq with
        | zero => exact absurd HA.out (by simp [gimballaw09_MatChecks.j1])
        | succ kj23 =>
         have H := HA.out
         clear HA
         simp only [gimballaw09_MatChecks.j1] at H
         have HC30 := Aside0.mk H
         clear H
         go_upto_region 11 with (fail)
         go_cut [76] (fun v76 wc => ∃ (kq : Nat) (x76_29 : Bool), v76 = .bool x76_29 ∧ Aside0 (gimballaw09_MatChecks.j2 kq a0 a1 a2 (Go.bits .and .i64 a3 255) a4 a5 x15_23 x76_29 a0 a1 a2 x283003_1 = some r) ∧ Aside0 (kq ≤ kj23) ∧ Aside0 (Kd.R (Kd.int .u64) 30 wc w.heap.size (fun _ => True) u283003 x283003_1) ∧ Aside0 (wc.heap[gb282]? = some (.cells #[.int .i64 a0, .int .i64 a1, .int .i64 a2, u283003] 25 (0, 0))) ∧ Aside0 (Below w.heap.size w wc))
         case first =>
          have H := HC30.out
          clear HC30
          by_cases c31 : x15_23 = true
          ·
           subst c31
           rw [if_pos rfl] at H
           by_cases c32 : a0 > 0
           ·
            rw [if_pos c32] at H
            have c32b0 : decide (0 < a0) = true := decide_eq_true c32
            clear c32
            (first | rw [c32b0] | (simp only [i64_w, i32_w]; rw [c32b0]) | skip)
            have H' := Aside0.mk H
            clear H
            go_wp2
            go_meet
            case rel => exact ⟨_, (decide (a1 > 0)), (by first | rfl | (simp; done) | (simp [*]; done)), H', ⟨by have := HK1.out; have := HJ23.out; first | omega | exact Nat.le_refl _⟩, ⟨by (with_reducible repeat (first | apply Kd.R_alloc | apply Kd.R_drewN | apply Kd.R_drew)); exact HO_283003.out⟩, ⟨kb BK282⟩, ⟨bes⟩⟩
           ·
            rw [if_neg c32] at H
            have c32b0 : decide (0 < a0) = false := decide_eq_false c32
            clear c32
            (first | rw [c32b0] | (simp only [i64_w, i32_w]; rw [c32b0]) | skip)
            have H' := Aside0.mk H
            clear H
            go_wp2
            go_meet
            case rel => exact ⟨_, (false), (by first | rfl | (simp; done) | (simp [*]; done)), H', ⟨by have := HK1.out; have := HJ23.out; first | omega | exact Nat.le_refl _⟩, ⟨by (with_reducible repeat (first | apply Kd.R_alloc | apply Kd.R_drewN | apply Kd.R_drew)); exact HO_283003.out⟩, ⟨kb BK282⟩, ⟨bes⟩⟩
          ·
           replace c31 := Bool.eq_false_iff.mpr c31
           subst c31
           rw [if_neg (show ¬ (false = true) by decide)] at H
           have H' := Aside0.mk H
           clear H
           go_wp2
           go_meet
           case rel => exact ⟨_, (false), (by first | rfl | (simp; done) | (simp [*]; done)), H', ⟨by have := HK1.out; have := HJ23.out; first | omega | exact Nat.le_refl _⟩, ⟨by (with_reducible repeat (first | apply Kd.R_alloc | apply Kd.R_drewN | apply Kd.R_drew)); exact HO_283003.out⟩, ⟨kb BK282⟩, ⟨bes⟩⟩
         case rest =>
          clear HC30
          try clear c1
          try clear c2
          try clear p2
          try clear q2
          try clear hx2
          try clear c3
          try clear c4
          try clear p6
          try clear c7
          try clear c8
          try clear c9
          try clear c9b0
          try clear c9b1
          try clear c10
          try clear c10b0
          try clear c10b1
          try clear c17
          try clear c17b0
          try clear c18
          try clear c18b0
          try clear c19
          try clear c19b0
          try clear p20
          try clear q20
          try clear hx20
          try clear hf20
          try clear c25
          try clear c25b0
          try clear c26
          try clear c26b0
          try clear c27
          try clear c27b0
          try clear c28
          try clear c28b0
          try clear c29
          try clear c29b0
          try clear c31
          try clear c32
          try clear c32b0
          try clear hcz16_0
          try clear hcz16_1
          try clear hcz16_2
          try clear hcz16_3
          try clear hcz21_0
          try clear hcz21_1
          try clear hcz21_2
          try clear hcz21_3
          try clear hfz16_0
          try clear hfz16_1
          try clear hfz16_2
          try clear hfz16_3
          try clear hfz21_0
          try clear hfz21_1
          try clear hfz21_2
          try clear hfz21_3
          try clear hx20_0
          try clear p2
          try clear p20
          try clear p6
          try clear q2
          try clear q20
          obtain ⟨kq, x76_29, rfl, HA, HJ29, HO_283003, BK282, HB⟩ := hcut
          cases kq with
          | zero => exact absurd HA.out (by simp [gimballaw09_MatChecks.j2])
          | succ kj29 =>
           have H := HA.out
           clear HA
           simp only [gimballaw09_MatChecks.j2] at H
           have HC33 := Aside0.mk H
           clear H
           go_upto_if 76 with (fail)
           go_cut [15] (fun v15 wc => ∃ (kq : Nat) (x15_32 : Bool), v15 = .bool x15_32 ∧ Aside0 (gimballaw09_MatChecks.j3 kq a0 a1 a2 a4 a5 x15_32 a0 a1 a2 x283003_1 = some r) ∧ Aside0 (kq ≤ kj29) ∧ Aside0 (Kd.R (Kd.int .u64) 30 wc w.heap.size (fun _ => True) u283003 x283003_1) ∧ Aside0 (wc.heap[gb282]? = some (.cells #[.int .i64 a0, .int .i64 a1, .int .i64 a2, u283003] 25 (0, 0))) ∧ Aside0 (Below w.heap.size w wc))
           case first =>
            have H := HC33.out
            clear HC33
            by_cases c34 : x76_29 = true
            ·
             subst c34
             rw [if_pos rfl] at H
             have H' := Aside0.mk H
             clear H
             go_wp2
             go_meet
             case rel => exact ⟨_, (decide ((wrap64 ((wrap64 (a0 - 1)) * a2)) ≤ (wrap64 ((Go.bits .and .i64 a3 255) - a1)))), (by first | rfl | (simp; done) | (simp [*]; done)), H', ⟨by have := HK1.out; have := HJ23.out; have := HJ29.out; first | omega | exact Nat.le_refl _⟩, ⟨by (with_reducible repeat (first | apply Kd.R_alloc | apply Kd.R_drewN | apply Kd.R_drew)); exact HO_283003.out⟩, ⟨kb BK282⟩, ⟨bes⟩⟩
            ·
             replace c34 := Bool.eq_false_iff.mpr c34
             subst c34
             rw [if_neg (show ¬ (false = true) by decide)] at H
             have H' := Aside0.mk H
             clear H
             go_wp2
             go_meet
             case rel => exact ⟨_, (x15_23), (by first | rfl | (simp; done) | (simp [*]; done)), H', ⟨by have := HK1.out; have := HJ23.out; have := HJ29.out; first | omega | exact Nat.le_refl _⟩, ⟨by (with_reducible repeat (first | apply Kd.R_alloc | apply Kd.R_drewN | apply Kd.R_drew)); exact HO_283003.out⟩, ⟨kb BK282⟩, ⟨bes⟩⟩
           case rest =>
            clear HC33
            try clear c1
            try clear c2
            try clear p2
            try clear q2
            try clear hx2
            try clear c3
            try clear c4
            try clear p6
            try clear c7
            try clear c8
            try clear c9
            try clear c9b0
            try clear c9b1
            try clear c10
            try clear c10b0
            try clear c10b1
            try clear c17
            try clear c17b0
            try clear c18
            try clear c18b0
            try clear c19
            try clear c19b0
            try clear p20
            try clear q20
            try clear hx20
            try clear hf20
            try clear c25
            try clear c25b0
            try clear c26
            try clear c26b0
            try clear c27
            try clear c27b0
            try clear c28
            try clear c28b0
            try clear c29
            try clear c29b0
            try clear c31
            try clear c32
            try clear c32b0
            try clear c34
            try clear hcz16_0
            try clear hcz16_1
            try clear hcz16_2
            try clear hcz16_3
            try clear hcz21_0
            try clear hcz21_1
            try clear hcz21_2
            try clear hcz21_3
            try clear hfz16_0
            try clear hfz16_1
            try clear hfz16_2
            try clear hfz16_3
            try clear hfz21_0
            try clear hfz21_1
            try clear hfz21_2
            try clear hfz21_3
            try clear hx20_0
            try clear p2
            try clear p20
            try clear p6
            try clear q2
            try clear q20
            obtain ⟨kq, x15_32, rfl, HA, HJ32, HO_283003, BK282, HB⟩ := hcut
            cases kq with
            | zero => exact absurd HA.out (by simp [gimballaw09_MatChecks.j3])
            | succ kj32 =>
             have H := HA.out
             clear HA
             simp only [gimballaw09_MatChecks.j3] at H
             obtain ⟨t284, A350, H⟩ := Option.bind_eq_some_iff.mp H
             (try dsimp -simprocs only at H)
             have A35 := Aside0.mk A350
             clear A350
             have HC36 := Aside0.mk H
             clear H
             have hcz37_0 : wc.cell? ⟨gb282, 0, none⟩ = some (.int .i64 a0) := (blk_cell BK282.out 0).trans rfl
             have hcz37_1 : wc.cell? ⟨gb282, 1, none⟩ = some (.int .i64 a1) := (blk_cell BK282.out 1).trans rfl
             have hcz37_2 : wc.cell? ⟨gb282, 2, none⟩ = some (.int .i64 a2) := (blk_cell BK282.out 2).trans rfl
             have hcz37_3 : wc.cell? ⟨gb282, 3, none⟩ = some (u283003) := (blk_cell BK282.out 3).trans rfl
             have hfz37_0 := blk_frozen BK282.out 0
             have hfz37_1 := blk_frozen BK282.out 1
             have hfz37_2 := blk_frozen BK282.out 2
             have hfz37_3 := blk_frozen BK282.out 3
             obtain ⟨Ao38, co38, eo38⟩ := Kd.R_slice HO_283003.out
             subst eo38
             go_upto_region 14 with (first | ((with_reducible refine gate_callee (f := 12) rfl ?_); refine goesL_ (some 86) rfl rfl Try.func12 (by kernel_rfl) rfl #[.agg #[.int .i64 a0, .int .i64 a1, .int .i64 a2, .slice Ao38 x283003_1.length co38]] rfl ga ?_; (with_reducible refine (mat_Matrix_Check.calls kj32 a0 a1 a2 _ _ x283003_1 t284 _ ?side1 ?side2 A35.out).mono ?_); (case side1 => exact ks HO_283003); (case side2 => exact (Kd.R_reads' HO_283003.out).2.1); rintro e w39 ⟨rfl, hb⟩; refine ⟨_, rfl, ?_⟩; have n0_ := Aside0.mk (Kd.R_below (kr HO_283003) hb); have n1_ := Aside0.mk (blk_below (g := gb282) (o := .cells #[.int .i64 a0, .int .i64 a1, .int .i64 a2, .slice Ao38 x283003_1.length co38] 25 (0, 0)) (kb BK282) hb); have n2_ := Aside0.mk (below_step bes hb); clear HO_283003; clear BK282; clear HB; have HO_283003 := n0_; have BK282 := n1_; have HB := n2_; clear n0_ n1_ n2_; (try clear hb)))
             (try simp only [Act.put, List.setIfInBounds_toArray, List.set_cons_zero, List.set_cons_succ])
             go_cut [98] (fun v98 wc => ∃ (kq : Nat) (x98_35 : Bool), v98 = .bool x98_35 ∧ Aside0 (gimballaw09_MatChecks.j4 kq a0 a1 a2 a4 a5 x15_32 x98_35 a0 a1 a2 x283003_1 = some r) ∧ Aside0 (kq ≤ kj32) ∧ Aside0 (Kd.R (Kd.int .u64) 30 wc w.heap.size (fun _ => True) (.slice Ao38 x283003_1.length co38) x283003_1) ∧ Aside0 (wc.heap[gb282]? = some (.cells #[.int .i64 a0, .int .i64 a1, .int .i64 a2, (.slice Ao38 x283003_1.length co38)] 25 (0, 0))) ∧ Aside0 (Below w.heap.size w wc))
             case first =>
              have H := HC36.out
              clear HC36
              by_cases c40 : ((t284 == 0) != x15_32) = true
              ·
               rw [if_pos c40] at H
               have c40b0 : ((t284 == 0) != x15_32) = true := c40
               (try (have c40b1 : decide ((t284 == 0) = x15_32) = false := by simpa using c40))
               (try (have c40b2 : ((t284 == 0) == x15_32) = false := by simpa using c40))
               (try (have c40b3 : ¬ ((t284 == 0) = x15_32) := by simpa using c40))
               clear c40
               (first | rw [c40b0] | (simp only [i64_w, i32_w]; rw [c40b0]) | skip)
               have H' := Aside0.mk H
               clear H
               go_wp2
               go_meet
               case rel => exact ⟨_, (true), (by first | rfl | (simp; done) | (simp [*]; done)), H', ⟨by have := HK1.out; have := HJ23.out; have := HJ29.out; have := HJ32.out; first | omega | exact Nat.le_refl _⟩, ⟨by (with_reducible repeat (first | apply Kd.R_alloc | apply Kd.R_drewN | apply Kd.R_drew)); exact HO_283003.out⟩, ⟨kb BK282⟩, ⟨bes⟩⟩
              ·
               rw [if_neg c40] at H
               have c40b0 : ((t284 == 0) != x15_32) = false := by simpa using c40
               (try (have c40b1 : decide ((t284 == 0) = x15_32) = true := by simpa using c40))
               (try (have c40b2 : ((t284 == 0) == x15_32) = true := by simpa using c40))
               clear c40
               (first | rw [c40b0] | (simp only [i64_w, i32_w]; rw [c40b0]) | skip)
               by_cases c41 : x15_32 = true
               ·
                subst c41
                rw [if_pos rfl] at H
                have H' := Aside0.mk H
                clear H
                go_wp2
                go_meet
                case rel => exact ⟨_, (false), (by first | rfl | (simp; done) | (simp [*]; done)), H', ⟨by have := HK1.out; have := HJ23.out; have := HJ29.out; have := HJ32.out; first | omega | exact Nat.le_refl _⟩, ⟨by (with_reducible repeat (first | apply Kd.R_alloc | apply Kd.R_drewN | apply Kd.R_drew)); exact HO_283003.out⟩, ⟨kb BK282⟩, ⟨bes⟩⟩
               ·
                replace c41 := Bool.eq_false_iff.mpr c41
                subst c41
                rw [if_neg (show ¬ (false = true) by decide)] at H
                have H' := Aside0.mk H
                clear H
                go_wp2
                go_meet
                case rel => exact ⟨_, ((t284 != 4)), (by first | rfl | (simp; done) | (simp [*]; done)), H', ⟨by have := HK1.out; have := HJ23.out; have := HJ29.out; have := HJ32.out; first | omega | exact Nat.le_refl _⟩, ⟨by (with_reducible repeat (first | apply Kd.R_alloc | apply Kd.R_drewN | apply Kd.R_drew)); exact HO_283003.out⟩, ⟨kb BK282⟩, ⟨bes⟩⟩
             case rest =>
              clear HC36
              try clear c1
              try clear c2
              try clear p2
              try clear q2
              try clear hx2
              try clear c3
              try clear c4
              try clear p6
              try clear c7
              try clear c8
              try clear c9
              try clear c9b0
              try clear c9b1
              try clear c10
              try clear c10b0
              try clear c10b1
              try clear c12
              try clear c17
              try clear c17b0
              try clear c18
              try clear c18b0
              try clear c19
              try clear c19b0
              try clear p20
              try clear q20
              try clear hx20
              try clear hf20
              try clear c25
              try clear c25b0
              try clear c26
              try clear c26b0
              try clear c27
              try clear c27b0
              try clear c28
              try clear c28b0
              try clear c29
              try clear c29b0
              try clear c31
              try clear c32
              try clear c32b0
              try clear c34
              try clear c40
              try clear c40b0
              try clear c40b1
              try clear c40b2
              try clear c41
              try clear hcz16_0
              try clear hcz16_1
              try clear hcz16_2
              try clear hcz16_3
              try clear hcz21_0
              try clear hcz21_1
              try clear hcz21_2
              try clear hcz21_3
              try clear hcz37_0
              try clear hcz37_1
              try clear hcz37_2
              try clear hcz37_3
              try clear hfz16_0
              try clear hfz16_1
              try clear hfz16_2
              try clear hfz16_3
              try clear hfz21_0
              try clear hfz21_1
              try clear hfz21_2
              try clear hfz21_3
              try clear hfz37_0
              try clear hfz37_1
              try clear hfz37_2
              try clear hfz37_3
              try clear hx20_0
              try clear p2
              try clear p20
              try clear p6
              try clear q2
              try clear q20
              obtain ⟨kq, x98_35, rfl, HA, HJ35, HO_283003, BK282, HB⟩ := hcut
              cases kq with
              | zero => exact absurd HA.out (by simp [gimballaw09_MatChecks.j4])
              | succ kj35 =>
               have H := HA.out
               clear HA
               simp only [gimballaw09_MatChecks.j4] at H
               by_cases c42 : x98_35 = true
               ·
                subst c42
                rw [if_pos rfl] at H
                obtain rfl := Option.some.inj H
                go_wp2
                go_ret
                exact ⟨er, bes⟩
               ·
                replace c42 := Bool.eq_false_iff.mpr c42
                subst c42
                rw [if_neg (show ¬ (false = true) by decide)] at H
                by_cases c43 : x15_32 = true
                ·
                 subst c43
                 rw [if_pos rfl] at H
                 have HC44 := Aside0.mk H
                 clear H
                 go_upto_region 19 with (fail)
                 go_cut [123] (fun v123 wc => ∃ (kq : Nat) (x123_43 : Bool), v123 = .bool x123_43 ∧ Aside0 (gimballaw09_MatChecks.j5 kq a2 a4 a5 x123_43 a0 a1 a2 x283003_1 = some r) ∧ Aside0 (kq ≤ kj35) ∧ Aside0 (Kd.R (Kd.int .u64) 30 wc w.heap.size (fun _ => True) (.slice Ao38 x283003_1.length co38) x283003_1) ∧ Aside0 (wc.heap[gb282]? = some (.cells #[.int .i64 a0, .int .i64 a1, .int .i64 a2, (.slice Ao38 x283003_1.length co38)] 25 (0, 0))) ∧ Aside0 (Below w.heap.size w wc))
                 case first =>
                  have H := HC44.out
                  clear HC44
                  by_cases c45 : a4 < 0
                  ·
                   rw [if_pos c45] at H
                   have c45b0 : decide (a4 < 0) = true := decide_eq_true c45
                   clear c45
                   (first | rw [c45b0] | (simp only [i64_w, i32_w]; rw [c45b0]) | skip)
                   have H' := Aside0.mk H
                   clear H
                   go_wp2
                   go_meet
                   case rel => exact ⟨_, (true), (by first | rfl | (simp; done) | (simp [*]; done)), H', ⟨by have := HK1.out; have := HJ23.out; have := HJ29.out; have := HJ32.out; have := HJ35.out; first | omega | exact Nat.le_refl _⟩, ⟨by (with_reducible repeat (first | apply Kd.R_alloc | apply Kd.R_drewN | apply Kd.R_drew)); exact HO_283003.out⟩, ⟨kb BK282⟩, ⟨bes⟩⟩
                  ·
                   rw [if_neg c45] at H
                   have c45b0 : decide (a4 < 0) = false := decide_eq_false c45
                   clear c45
                   (first | rw [c45b0] | (simp only [i64_w, i32_w]; rw [c45b0]) | skip)
                   by_cases c46 : a4 ≥ a0
                   ·
                    rw [if_pos c46] at H
                    have c46b0 : decide (a0 ≤ a4) = true := decide_eq_true c46
                    clear c46
                    have H' := Aside0.mk H
                    clear H
                    go_wp2
                    go_meet
                    case rel => exact ⟨_, (true), (by first | rfl | (simp; done) | (simp [*]; done)), H', ⟨by have := HK1.out; have := HJ23.out; have := HJ29.out; have := HJ32.out; have := HJ35.out; first | omega | exact Nat.le_refl _⟩, ⟨by (with_reducible repeat (first | apply Kd.R_alloc | apply Kd.R_drewN | apply Kd.R_drew)); exact HO_283003.out⟩, ⟨kb BK282⟩, ⟨bes⟩⟩
                   ·
                    rw [if_neg c46] at H
                    have c46b0 : decide (a0 ≤ a4) = false := decide_eq_false c46
                    clear c46
                    by_cases c47 : a5 < 0
                    ·
                     rw [if_pos c47] at H
                     have c47b0 : decide (a5 < 0) = true := decide_eq_true c47
                     clear c47
                     have H' := Aside0.mk H
                     clear H
                     go_wp2
                     go_meet
                     case rel => exact ⟨_, (true), (by first | rfl | (simp; done) | (simp [*]; done)), H', ⟨by have := HK1.out; have := HJ23.out; have := HJ29.out; have := HJ32.out; have := HJ35.out; first | omega | exact Nat.le_refl _⟩, ⟨by (with_reducible repeat (first | apply Kd.R_alloc | apply Kd.R_drewN | apply Kd.R_drew)); exact HO_283003.out⟩, ⟨kb BK282⟩, ⟨bes⟩⟩
                    ·
                     rw [if_neg c47] at H
                     have c47b0 : decide (a5 < 0) = false := decide_eq_false c47
                     clear c47
                     have H' := Aside0.mk H
                     clear H
                     go_wp2
                     go_meet
                     case rel => exact ⟨_, (decide (a5 ≥ a1)), (by first | rfl | (simp; done) | (simp [*]; done)), H', ⟨by have := HK1.out; have := HJ23.out; have := HJ29.out; have := HJ32.out; have := HJ35.out; first | omega | exact Nat.le_refl _⟩, ⟨by (with_reducible repeat (first | apply Kd.R_alloc | apply Kd.R_drewN | apply Kd.R_drew)); exact HO_283003.out⟩, ⟨kb BK282⟩, ⟨bes⟩⟩
                 case rest =>
                  clear HC44
                  try clear c1
                  try clear c2
                  try clear p2
                  try clear q2
                  try clear hx2
                  try clear c3
                  try clear c4
                  try clear p6
                  try clear c7
                  try clear c8
                  try clear c9
                  try clear c9b0
                  try clear c9b1
                  try clear c10
                  try clear c10b0
                  try clear c10b1
                  try clear c12
                  try clear c17
                  try clear c17b0
                  try clear c18
                  try clear c18b0
                  try clear c19
                  try clear c19b0
                  try clear p20
                  try clear q20
                  try clear hx20
                  try clear hf20
                  try clear c25
                  try clear c25b0
                  try clear c26
                  try clear c26b0
                  try clear c27
                  try clear c27b0
                  try clear c28
                  try clear c28b0
                  try clear c29
                  try clear c29b0
                  try clear c31
                  try clear c32
                  try clear c32b0
                  try clear c34
                  try clear c40
                  try clear c40b0
                  try clear c40b1
                  try clear c40b2
                  try clear c41
                  try clear c42
                  try clear c43
                  try clear c45
                  try clear c45b0
                  try clear c46
                  try clear c46b0
                  try clear c47
                  try clear c47b0
                  try clear hcz16_0
                  try clear hcz16_1
                  try clear hcz16_2
                  try clear hcz16_3
                  try clear hcz21_0
                  try clear hcz21_1
                  try clear hcz21_2
                  try clear hcz21_3
                  try clear hcz37_0
                  try clear hcz37_1
                  try clear hcz37_2
                  try clear hcz37_3
                  try clear hfz16_0
                  try clear hfz16_1
                  try clear hfz16_2
                  try clear hfz16_3
                  try clear hfz21_0
                  try clear hfz21_1
                  try clear hfz21_2
                  try clear hfz21_3
                  try clear hfz37_0
                  try clear hfz37_1
                  try clear hfz37_2
                  try clear hfz37_3
                  try clear hx20_0
                  try clear p2
                  try clear p20
                  try clear p6
                  try clear q2
                  try clear q20
                  obtain ⟨kq, x123_43, rfl, HA, HJ43, HO_283003, BK282, HB⟩ := hcut
                  cases kq with
                  | zero => exact absurd HA.out (by simp [gimballaw09_MatChecks.j5])
                  | succ kj43 =>
                   have H := HA.out
                   clear HA
                   simp only [gimballaw09_MatChecks.j5] at H
                   by_cases c48 : x123_43 = true
                   ·
                    subst c48
                    rw [if_pos rfl] at H
                    obtain ⟨t293, A490, H⟩ := Option.bind_eq_some_iff.mp H
                    (try dsimp -simprocs only at H)
                    have A49 := Aside0.mk A490
                    clear A490
                    have H' := Aside0.mk H
                    clear H
                    have hcz50_0 : wc.cell? ⟨gb282, 0, none⟩ = some (.int .i64 a0) := (blk_cell BK282.out 0).trans rfl
                    have hcz50_1 : wc.cell? ⟨gb282, 1, none⟩ = some (.int .i64 a1) := (blk_cell BK282.out 1).trans rfl
                    have hcz50_2 : wc.cell? ⟨gb282, 2, none⟩ = some (.int .i64 a2) := (blk_cell BK282.out 2).trans rfl
                    have hcz50_3 : wc.cell? ⟨gb282, 3, none⟩ = some (.slice Ao38 x283003_1.length co38) := (blk_cell BK282.out 3).trans rfl
                    have hfz50_0 := blk_frozen BK282.out 0
                    have hfz50_1 := blk_frozen BK282.out 1
                    have hfz50_2 := blk_frozen BK282.out 2
                    have hfz50_3 := blk_frozen BK282.out 3
                    go_wp2_with (first | ((with_reducible refine gate_callee (f := 14) rfl ?_); refine goesL_ (some 127) rfl rfl Try.func14 (by kernel_rfl) rfl #[.agg #[.int .i64 a0, .int .i64 a1, .int .i64 a2, .slice Ao38 x283003_1.length co38], .int .i64 a4, .int .i64 a5, .int .u64 3] rfl ga ?_; (with_reducible refine (mat_Matrix_Set.calls a0 a1 a2 (fun k_ => some k_ = (.slice Ao38 x283003_1.length co38 : Value).ownBlock) (.slice Ao38 x283003_1.length co38) x283003_1 a4 a5 3 t293 w _ ?side1 ?side2 A49.out).mono ?_); (case side1 => repeat (first | (with_reducible first | exact HB.out | apply below_alloc | apply pw_below_drewN | apply below_drew1 | refine below_set ?_ GE282.out) | exact HB.out)); (case side2 => exact Kd.R_tight rfl HO_283003.out); rintro e w51 ⟨rfl, hy0, hb, hkp⟩; refine ⟨_, rfl, ?_⟩; have n0_ := Aside0.mk (Kd.R_reok rfl hy0 (fun k_ e_ => HO_283003.out.1 k_ e_)); have n1_ := Aside0.mk (blk_kept (kb BK282) hkp (fun hs_ => (fun e_ => (Kd.R_ne HO_283003.out BK282.out (by decide)) e_) hs_)); have n2_ := Aside0.mk (hb); clear HO_283003; clear BK282; clear HB; have HO_283003 := n0_; have BK282 := n1_; have HB := n2_; clear n0_ n1_ n2_; (try clear hb); (try clear hkp); (try clear hy0); have hcz52_0 : w51.cell? ⟨gb282, 0, none⟩ = some (.int .i64 a0) := (blk_cell BK282.out 0).trans rfl; have hcz52_1 : w51.cell? ⟨gb282, 1, none⟩ = some (.int .i64 a1) := (blk_cell BK282.out 1).trans rfl; have hcz52_2 : w51.cell? ⟨gb282, 2, none⟩ = some (.int .i64 a2) := (blk_cell BK282.out 2).trans rfl; have hcz52_3 : w51.cell? ⟨gb282, 3, none⟩ = some (.slice Ao38 x283003_1.length co38) := (blk_cell BK282.out 3).trans rfl; have hfz52_0 := blk_frozen BK282.out 0; have hfz52_1 := blk_frozen BK282.out 1; have hfz52_2 := blk_frozen BK282.out 2; have hfz52_3 := blk_frozen BK282.out 3))
                    go_loopg [131] kj43 (fun kq v131 w' => ∃ (x131_7 : Int), v131 = .int .i64 x131_7 ∧ Aside0 (gimballaw09_MatChecks.l1 kq a4 a5 (x283003_1.length : Int) x131_7 a0 a1 a2 t293 = some r) ∧ Aside0 (kq ≤ kj43) ∧ Aside0 (Kd.R (Kd.int .u64) 30 w' w.heap.size (fun _ => True) (.slice Ao38 x283003_1.length co38) t293) ∧ Aside0 (w'.heap[gb282]? = some (.cells #[.int .i64 a0, .int .i64 a1, .int .i64 a2, (.slice Ao38 x283003_1.length co38)] 25 (0, 0))) ∧ Aside0 (Below w.heap.size w w'))
                    case atStart => exact ⟨(0), (by first | rfl | (simp; done) | (simp [*]; done)), H', ⟨Nat.le_refl _⟩, ⟨by (with_reducible repeat (first | apply Kd.R_alloc | apply Kd.R_drewN | apply Kd.R_drew)); exact HO_283003.out⟩, ⟨kb BK282⟩, ⟨bes⟩⟩
                    case round =>
                     clear H'
                     try clear c1
                     try clear c2
                     try clear p2
                     try clear q2
                     try clear hx2
                     try clear c3
                     try clear c4
                     try clear p6
                     try clear c7
                     try clear c8
                     try clear c9
                     try clear c9b0
                     try clear c9b1
                     try clear c10
                     try clear c10b0
                     try clear c10b1
                     try clear c12
                     try clear c14
                     try clear c17
                     try clear c17b0
                     try clear c18
                     try clear c18b0
                     try clear c19
                     try clear c19b0
                     try clear p20
                     try clear q20
                     try clear hx20
                     try clear hf20
                     try clear c25
                     try clear c25b0
                     try clear c26
                     try clear c26b0
                     try clear c27
                     try clear c27b0
                     try clear c28
                     try clear c28b0
                     try clear c29
                     try clear c29b0
                     try clear c31
                     try clear c32
                     try clear c32b0
                     try clear c34
                     try clear c40
                     try clear c40b0
                     try clear c40b1
                     try clear c40b2
                     try clear c41
                     try clear c42
                     try clear c43
                     try clear c45
                     try clear c45b0
                     try clear c46
                     try clear c46b0
                     try clear c47
                     try clear c47b0
                     try clear c48
                     try clear hcz16_0
                     try clear hcz16_1
                     try clear hcz16_2
                     try clear hcz16_3
                     try clear hcz21_0
                     try clear hcz21_1
                     try clear hcz21_2
                     try clear hcz21_3
                     try clear hcz37_0
                     try clear hcz37_1
                     try clear hcz37_2
                     try clear hcz37_3
                     try clear hcz50_0
                     try clear hcz50_1
                     try clear hcz50_2
                     try clear hcz50_3
                     try clear hcz52_0
                     try clear hcz52_1
                     try clear hcz52_2
                     try clear hcz52_3
                     try clear hfz16_0
                     try clear hfz16_1
                     try clear hfz16_2
                     try clear hfz16_3
                     try clear hfz21_0
                     try clear hfz21_1
                     try clear hfz21_2
                     try clear hfz21_3
                     try clear hfz37_0
                     try clear hfz37_1
                     try clear hfz37_2
                     try clear hfz37_3
                     try clear hfz50_0
                     try clear hfz50_1
                     try clear hfz50_2
                     try clear hfz50_3
                     try clear hfz52_0
                     try clear hfz52_1
                     try clear hfz52_2
                     try clear hfz52_3
                     try clear hx20_0
                     try clear p2
                     try clear p20
                     try clear p6
                     try clear q2
                     try clear q20
                     obtain ⟨x131_7, rfl, HA, HK7, HO_283003, BK282, HB⟩ := hrel
                     have hl283003_7 := (Kd.R_reads' HO_283003.out).1
                     rw [hl283003_7] at HO_283003
                     (try simp only [hl283003_7])
                     (try simp only [hl283003_7] at BK282)
                     cases gk with
                     | zero => exact absurd HA.out (by simp [gimballaw09_MatChecks.l1])
                     | succ k7 =>
                      have H := HA.out
                      clear HA
                      simp only [gimballaw09_MatChecks.l1] at H
                      by_cases c53 : x131_7 < (x283003_1.length : Int)
                      ·
                       rw [if_pos c53] at H
                       have c53b0 : decide (x131_7 < (x283003_1.length : Int)) = true := decide_eq_true c53
                       (try (have c53b0_ := c53b0; simp only [hl283003_7] at c53b0_))
                       clear c53
                       by_cases c54 : 0 ≤ x131_7
                       ·
                        rw [if_pos c54] at H
                        have c54b0 : decide (0 ≤ x131_7) = true := decide_eq_true c54
                        clear c54
                        by_cases c55 : x131_7 < (t293.length : Int)
                        ·
                         rw [if_pos c55] at H
                         have c55b0 : decide (x131_7 < (t293.length : Int)) = true := decide_eq_true c55
                         (try (have c55b0_ := c55b0; simp only [hl283003_7] at c55b0_))
                         clear c55
                         by_cases c56 : (rd t293 x131_7) = (IntKind.u64.wrap (wrap64 (x131_7 + 5)))
                         ·
                          rw [if_pos c56] at H
                          have c56b0 : ((rd t293 x131_7) == (IntKind.u64.wrap (wrap64 (x131_7 + 5)))) = true := beq_iff_eq.mpr c56
                          have c56b1 : ((rd t293 x131_7) != (IntKind.u64.wrap (wrap64 (x131_7 + 5)))) = false := bne_eq_false_iff_eq.mpr c56
                          clear c56
                          have H' := Aside0.mk H
                          clear H
                          have hcz57_0 : wr.cell? ⟨gb282, 0, none⟩ = some (.int .i64 a0) := (blk_cell BK282.out 0).trans rfl
                          have hcz57_1 : wr.cell? ⟨gb282, 1, none⟩ = some (.int .i64 a1) := (blk_cell BK282.out 1).trans rfl
                          have hcz57_2 : wr.cell? ⟨gb282, 2, none⟩ = some (.int .i64 a2) := (blk_cell BK282.out 2).trans rfl
                          have hcz57_3 : wr.cell? ⟨gb282, 3, none⟩ = some (.slice Ao38 t293.length co38) := (blk_cell BK282.out 3).trans rfl
                          have hfz57_0 := blk_frozen BK282.out 0
                          have hfz57_1 := blk_frozen BK282.out 1
                          have hfz57_2 := blk_frozen BK282.out 2
                          have hfz57_3 := blk_frozen BK282.out 3
                          have p294 : 0 ≤ (x131_7 : Int) := of_decide_eq_true (by first | (with_reducible assumption) | assumption)
                          have q294 : x131_7 < (t293.length : Int) := of_decide_eq_true (by first | (with_reducible assumption) | assumption)
                          obtain ⟨ad294, e294, hx294_0⟩ := Kd.at_int (Kd.R_reads' HO_283003.out).2.2 x131_7 p294 q294
                          cases e294
                          replace p294 := eq_true p294
                          replace q294 := eq_true q294
                          go_wp2
                          (try simp only [← hl283003_7])
                          go_roundg k7
                          case measure => have := HK1.out; have := HJ23.out; have := HJ29.out; have := HJ32.out; have := HJ35.out; have := HJ43.out; have := HK7.out; omega
                          case rel => exact ⟨(wrap64 (x131_7 + 1)), (by first | rfl | (simp; done) | (simp [*]; done)), H', ⟨by have := HK1.out; have := HJ23.out; have := HJ29.out; have := HJ32.out; have := HJ35.out; have := HJ43.out; have := HK7.out; omega⟩, ⟨by (try simp only [hl283003_7]); (with_reducible repeat (first | apply Kd.R_alloc | apply Kd.R_drewN | apply Kd.R_drew)); exact HO_283003.out⟩, ⟨by (try simp only [hl283003_7]); (with_reducible repeat (first | refine blk_drewN ?_ _ | refine blk_drew ?_ | refine blk_alloc ?_ _)); exact BK282.out⟩, ⟨bes⟩⟩
                         ·
                          rw [if_neg c56] at H
                          have c56b0 : ((rd t293 x131_7) == (IntKind.u64.wrap (wrap64 (x131_7 + 5)))) = false := beq_eq_false_iff_ne.mpr c56
                          have c56b1 : ((rd t293 x131_7) != (IntKind.u64.wrap (wrap64 (x131_7 + 5)))) = true := bne_iff_ne.mpr c56
                          obtain rfl := Option.some.inj H
                          have hcz58_0 : wr.cell? ⟨gb282, 0, none⟩ = some (.int .i64 a0) := (blk_cell BK282.out 0).trans rfl
                          have hcz58_1 : wr.cell? ⟨gb282, 1, none⟩ = some (.int .i64 a1) := (blk_cell BK282.out 1).trans rfl
                          have hcz58_2 : wr.cell? ⟨gb282, 2, none⟩ = some (.int .i64 a2) := (blk_cell BK282.out 2).trans rfl
                          have hcz58_3 : wr.cell? ⟨gb282, 3, none⟩ = some (.slice Ao38 t293.length co38) := (blk_cell BK282.out 3).trans rfl
                          have hfz58_0 := blk_frozen BK282.out 0
                          have hfz58_1 := blk_frozen BK282.out 1
                          have hfz58_2 := blk_frozen BK282.out 2
                          have hfz58_3 := blk_frozen BK282.out 3
                          have p294 : 0 ≤ (x131_7 : Int) := of_decide_eq_true (by first | (with_reducible assumption) | assumption)
                          have q294 : x131_7 < (t293.length : Int) := of_decide_eq_true (by first | (with_reducible assumption) | assumption)
                          obtain ⟨ad294, e294, hx294_0⟩ := Kd.at_int (Kd.R_reads' HO_283003.out).2.2 x131_7 p294 q294
                          cases e294
                          replace p294 := eq_true p294
                          replace q294 := eq_true q294
                          go_wp2
                          go_ret
                          exact ⟨er, bes⟩
                        ·
                         rw [if_neg c55] at H
                         exact absurd H (by simp)
                       ·
                        rw [if_neg c54] at H
                        exact absurd H (by simp)
                      ·
                       rw [if_neg c53] at H
                       have c53b0 : decide (x131_7 < (x283003_1.length : Int)) = false := decide_eq_false c53
                       (try (have c53b0_ := c53b0; simp only [hl283003_7] at c53b0_))
                       clear c53
                       obtain ⟨t295, A590, H⟩ := Option.bind_eq_some_iff.mp H
                       (try dsimp -simprocs only at H)
                       have A59 := Aside0.mk A590
                       clear A590
                       obtain rfl := Option.some.inj H
                       have hcz60_0 : wr.cell? ⟨gb282, 0, none⟩ = some (.int .i64 a0) := (blk_cell BK282.out 0).trans rfl
                       have hcz60_1 : wr.cell? ⟨gb282, 1, none⟩ = some (.int .i64 a1) := (blk_cell BK282.out 1).trans rfl
                       have hcz60_2 : wr.cell? ⟨gb282, 2, none⟩ = some (.int .i64 a2) := (blk_cell BK282.out 2).trans rfl
                       have hcz60_3 : wr.cell? ⟨gb282, 3, none⟩ = some (.slice Ao38 t293.length co38) := (blk_cell BK282.out 3).trans rfl
                       have hfz60_0 := blk_frozen BK282.out 0
                       have hfz60_1 := blk_frozen BK282.out 1
                       have hfz60_2 := blk_frozen BK282.out 2
                       have hfz60_3 := blk_frozen BK282.out 3
                       go_wp2_with (first | ((with_reducible refine gate_callee (f := 11) rfl ?_); refine goesL_ (some 147) rfl rfl Try.func11 (by kernel_rfl) rfl #[.agg #[.int .i64 a0, .int .i64 a1, .int .i64 a2, .slice Ao38 t293.length co38], .int .i64 a4, .int .i64 a5] rfl ga ?_; (with_reducible refine (mat_Matrix_At.calls a0 a1 a2 _ _ t293 a4 a5 t295 _ ?side1 ?side2 A59.out).mono ?_); (case side1 => exact ks HO_283003); (case side2 => exact (Kd.R_reads' HO_283003.out).2.1); rintro e w61 ⟨rfl, hb⟩; refine ⟨_, rfl, ?_⟩; have n0_ := Aside0.mk (Kd.R_below (kr HO_283003) hb); have n1_ := Aside0.mk (blk_below (g := gb282) (o := .cells #[.int .i64 a0, .int .i64 a1, .int .i64 a2, .slice Ao38 t293.length co38] 25 (0, 0)) (kb BK282) hb); have n2_ := Aside0.mk (below_step bes hb); clear HO_283003; clear BK282; clear HB; have HO_283003 := n0_; have BK282 := n1_; have HB := n2_; clear n0_ n1_ n2_; (try clear hb)))
                       go_ret
                       exact ⟨er, bes⟩
                   ·
                    replace c48 := Bool.eq_false_iff.mpr c48
                    subst c48
                    rw [if_neg (show ¬ (false = true) by decide)] at H
                    obtain ⟨t296, A620, H⟩ := Option.bind_eq_some_iff.mp H
                    (try dsimp -simprocs only at H)
                    have A62 := Aside0.mk A620
                    clear A620
                    by_cases c63 : t296 = (IntKind.u64.wrap (wrap64 ((wrap64 ((wrap64 (a4 * a2)) + a5)) + 5)))
                    ·
                     rw [if_pos c63] at H
                     have c63b0 : (t296 == (IntKind.u64.wrap (wrap64 ((wrap64 ((wrap64 (a4 * a2)) + a5)) + 5)))) = true := beq_iff_eq.mpr c63
                     have c63b1 : (t296 != (IntKind.u64.wrap (wrap64 ((wrap64 ((wrap64 (a4 * a2)) + a5)) + 5)))) = false := bne_eq_false_iff_eq.mpr c63
                     clear c63
                     obtain ⟨t297, A640, H⟩ := Option.bind_eq_some_iff.mp H
                     (try dsimp -simprocs only at H)
                     have A64 := Aside0.mk A640
                     clear A640
                     obtain ⟨t298, A650, H⟩ := Option.bind_eq_some_iff.mp H
                     (try dsimp -simprocs only at H)
                     have A65 := Aside0.mk A650
                     clear A650
                     by_cases c66 : t298 = 3
                     ·
                      rw [if_pos c66] at H
                      have c66b0 : (t298 == 3) = true := beq_iff_eq.mpr c66
                      have c66b1 : (t298 != 3) = false := bne_eq_false_iff_eq.mpr c66
                      clear c66
                      obtain ⟨ji67, hji67⟩ : ∃ j_ : Int, (wrap64 ((wrap64 (a4 * a2)) + a5)) = j_ := ⟨_, rfl⟩
                      replace H : (if 0 ≤ (ji67) then (if (ji67) < (x283003_1.length : Int) then (some ((rd t297 (ji67)) == 3)) else (none)) else (none)) = some r := by first | (rw [hji67] at H; exact H) | (simp only [hji67] at H ⊢; exact H)
                      (try rw [hji67] at c63b0)
                      (try rw [hji67] at c63b1)
                      (try rw [hji67] at A62)
                      (try rw [hji67] at A64)
                      (try rw [hji67] at A65)
                      have hji67w : (IntKind.i64.wrap ((wrap64 (a4 * a2)) + a5)) = ji67 := (i64_w _).trans hji67
                      by_cases c68 : 0 ≤ (ji67)
                      ·
                       rw [if_pos c68] at H
                       have c68b0 : decide (0 ≤ (ji67)) = true := decide_eq_true c68
                       clear c68
                       by_cases c69 : (ji67) < (x283003_1.length : Int)
                       ·
                        rw [if_pos c69] at H
                        have c69b0 : decide ((ji67) < (x283003_1.length : Int)) = true := decide_eq_true c69
                        (try (have c69b0_ := c69b0; simp only [hl283003_7] at c69b0_))
                        clear c69
                        obtain rfl := Option.some.inj H
                        have hcz70_0 : wc.cell? ⟨gb282, 0, none⟩ = some (.int .i64 a0) := (blk_cell BK282.out 0).trans rfl
                        have hcz70_1 : wc.cell? ⟨gb282, 1, none⟩ = some (.int .i64 a1) := (blk_cell BK282.out 1).trans rfl
                        have hcz70_2 : wc.cell? ⟨gb282, 2, none⟩ = some (.int .i64 a2) := (blk_cell BK282.out 2).trans rfl
                        have hcz70_3 : wc.cell? ⟨gb282, 3, none⟩ = some (.slice Ao38 x283003_1.length co38) := (blk_cell BK282.out 3).trans rfl
                        have hfz70_0 := blk_frozen BK282.out 0
                        have hfz70_1 := blk_frozen BK282.out 1
                        have hfz70_2 := blk_frozen BK282.out 2
                        have hfz70_3 := blk_frozen BK282.out 3
                        go_wp2_with (first | ((with_reducible refine gate_callee (f := 11) rfl ?_); refine goesL_ (some 157) rfl rfl Try.func11 (by kernel_rfl) rfl #[.agg #[.int .i64 a0, .int .i64 a1, .int .i64 a2, .slice Ao38 x283003_1.length co38], .int .i64 a4, .int .i64 a5] rfl ga ?_; (with_reducible refine (mat_Matrix_At.calls a0 a1 a2 _ _ x283003_1 a4 a5 t296 _ ?side1 ?side2 A62.out).mono ?_); (case side1 => exact ks HO_283003); (case side2 => exact (Kd.R_reads' HO_283003.out).2.1); rintro e w71 ⟨rfl, hb⟩; refine ⟨_, rfl, ?_⟩; have n0_ := Aside0.mk (Kd.R_below (kr HO_283003) hb); have n1_ := Aside0.mk (blk_below (g := gb282) (o := .cells #[.int .i64 a0, .int .i64 a1, .int .i64 a2, .slice Ao38 x283003_1.length co38] 25 (0, 0)) (kb BK282) hb); have n2_ := Aside0.mk (below_step bes hb); clear HO_283003; clear BK282; clear HB; have HO_283003 := n0_; have BK282 := n1_; have HB := n2_; clear n0_ n1_ n2_; (try clear hb); have hcz72_0 : w71.cell? ⟨gb282, 0, none⟩ = some (.int .i64 a0) := (blk_cell BK282.out 0).trans rfl; have hcz72_1 : w71.cell? ⟨gb282, 1, none⟩ = some (.int .i64 a1) := (blk_cell BK282.out 1).trans rfl; have hcz72_2 : w71.cell? ⟨gb282, 2, none⟩ = some (.int .i64 a2) := (blk_cell BK282.out 2).trans rfl; have hcz72_3 : w71.cell? ⟨gb282, 3, none⟩ = some (.slice Ao38 x283003_1.length co38) := (blk_cell BK282.out 3).trans rfl; have hfz72_0 := blk_frozen BK282.out 0; have hfz72_1 := blk_frozen BK282.out 1; have hfz72_2 := blk_frozen BK282.out 2; have hfz72_3 := blk_frozen BK282.out 3) | ((with_reducible refine gate_callee (f := 14) rfl ?_); refine goesL_ (some 165) rfl rfl Try.func14 (by kernel_rfl) rfl #[.agg #[.int .i64 a0, .int .i64 a1, .int .i64 a2, .slice Ao38 x283003_1.length co38], .int .i64 a4, .int .i64 a5, .int .u64 3] rfl ga ?_; (with_reducible refine (mat_Matrix_Set.calls a0 a1 a2 (fun k_ => some k_ = (.slice Ao38 x283003_1.length co38 : Value).ownBlock) (.slice Ao38 x283003_1.length co38) x283003_1 a4 a5 3 t297 w _ ?side1 ?side2 A64.out).mono ?_); (case side1 => repeat (first | (with_reducible first | exact HB.out | apply below_alloc | apply pw_below_drewN | apply below_drew1 | refine below_set ?_ GE282.out) | exact HB.out)); (case side2 => exact Kd.R_tight rfl HO_283003.out); rintro e w73 ⟨rfl, hy0, hb, hkp⟩; refine ⟨_, rfl, ?_⟩; have n0_ := Aside0.mk (Kd.R_reok rfl hy0 (fun k_ e_ => HO_283003.out.1 k_ e_)); have n1_ := Aside0.mk (blk_kept (kb BK282) hkp (fun hs_ => (fun e_ => (Kd.R_ne HO_283003.out BK282.out (by decide)) e_) hs_)); have n2_ := Aside0.mk (hb); clear HO_283003; clear BK282; clear HB; have HO_283003 := n0_; have BK282 := n1_; have HB := n2_; clear n0_ n1_ n2_; (try clear hb); (try clear hkp); (try clear hy0); have hcz74_0 : w73.cell? ⟨gb282, 0, none⟩ = some (.int .i64 a0) := (blk_cell BK282.out 0).trans rfl; have hcz74_1 : w73.cell? ⟨gb282, 1, none⟩ = some (.int .i64 a1) := (blk_cell BK282.out 1).trans rfl; have hcz74_2 : w73.cell? ⟨gb282, 2, none⟩ = some (.int .i64 a2) := (blk_cell BK282.out 2).trans rfl; have hcz74_3 : w73.cell? ⟨gb282, 3, none⟩ = some (.slice Ao38 x283003_1.length co38) := (blk_cell BK282.out 3).trans rfl; have hfz74_0 := blk_frozen BK282.out 0; have hfz74_1 := blk_frozen BK282.out 1; have hfz74_2 := blk_frozen BK282.out 2; have hfz74_3 := blk_frozen BK282.out 3) | ((with_reducible refine gate_callee (f := 11) rfl ?_); refine goesL_ (some 169) rfl rfl Try.func11 (by kernel_rfl) rfl #[.agg #[.int .i64 a0, .int .i64 a1, .int .i64 a2, .slice Ao38 t297.length co38], .int .i64 a4, .int .i64 a5] rfl (by (try simp only [List.map_toArray, List.map_cons, List.map_nil]); first | done | (rw [show t297.length = x283003_1.length from (Kd.R_reads' HO_283003.out).1.symm] <;> rfl) | rfl | (simp only [List.length_drop, List.length_take]; rfl)) ?_; (with_reducible refine (mat_Matrix_At.calls a0 a1 a2 _ _ t297 a4 a5 t298 _ ?side1 ?side2 A65.out).mono ?_); (case side1 => exact ks HO_283003); (case side2 => rw [show t297.length = x283003_1.length from (Kd.R_reads' HO_283003.out).1.symm]; exact (Kd.R_reads' HO_283003.out).2.1); rintro e w75 ⟨rfl, hb⟩; refine ⟨_, rfl, ?_⟩; have n0_ := Aside0.mk (Kd.R_below (kr HO_283003) hb); have n1_ := Aside0.mk (blk_below (g := gb282) (o := .cells #[.int .i64 a0, .int .i64 a1, .int .i64 a2, .slice Ao38 x283003_1.length co38] 25 (0, 0)) (kb BK282) hb); have n2_ := Aside0.mk (below_step bes hb); clear HO_283003; clear BK282; clear HB; have HO_283003 := n0_; have BK282 := n1_; have HB := n2_; clear n0_ n1_ n2_; (try clear hb); have hcz76_0 : w75.cell? ⟨gb282, 0, none⟩ = some (.int .i64 a0) := (blk_cell BK282.out 0).trans rfl; have hcz76_1 : w75.cell? ⟨gb282, 1, none⟩ = some (.int .i64 a1) := (blk_cell BK282.out 1).trans rfl; have hcz76_2 : w75.cell? ⟨gb282, 2, none⟩ = some (.int .i64 a2) := (blk_cell BK282.out 2).trans rfl; have hcz76_3 : w75.cell? ⟨gb282, 3, none⟩ = some (.slice Ao38 x283003_1.length co38) := (blk_cell BK282.out 3).trans rfl; have hfz76_0 := blk_frozen BK282.out 0; have hfz76_1 := blk_frozen BK282.out 1; have hfz76_2 := blk_frozen BK282.out 2; have hfz76_3 := blk_frozen BK282.out 3; have p299 : 0 ≤ ((ji67) : Int) := of_decide_eq_true (by first | (with_reducible assumption) | assumption); have q299 : (ji67) < (t297.length : Int) := (by have h_ : ((ji67) : Int) < ((x283003_1.length : Int) : Int) := of_decide_eq_true (by first | (with_reducible assumption) | assumption); have e_ := (Kd.R_reads' HO_283003.out).1; omega); have ql299 : (((ji67) : Int) < ((x283003_1.length : Int) : Int)) = True := eq_true (of_decide_eq_true (by first | (with_reducible assumption) | assumption)); obtain ⟨ad299, e299, hx299_0⟩ := Kd.at_int (Kd.R_reads' HO_283003.out).2.2 (ji67) p299 q299; cases e299; replace p299 := eq_true p299; replace q299 := eq_true q299))
                        go_ret
                        exact ⟨by first | rfl | (simp [errW_none, errW_some] <;> rfl) | (simp only [← hji67]; first | rfl | (simp [errW_none, errW_some] <;> rfl)) | (simp [*, errW_none, errW_some] <;> rfl), bes⟩
                       ·
                        rw [if_neg c69] at H
                        exact absurd H (by simp)
                      ·
                       rw [if_neg c68] at H
                       exact absurd H (by simp)
                     ·
                      rw [if_neg c66] at H
                      have c66b0 : (t298 == 3) = false := beq_eq_false_iff_ne.mpr c66
                      have c66b1 : (t298 != 3) = true := bne_iff_ne.mpr c66
                      obtain rfl := Option.some.inj H
                      have hcz77_0 : wc.cell? ⟨gb282, 0, none⟩ = some (.int .i64 a0) := (blk_cell BK282.out 0).trans rfl
                      have hcz77_1 : wc.cell? ⟨gb282, 1, none⟩ = some (.int .i64 a1) := (blk_cell BK282.out 1).trans rfl
                      have hcz77_2 : wc.cell? ⟨gb282, 2, none⟩ = some (.int .i64 a2) := (blk_cell BK282.out 2).trans rfl
                      have hcz77_3 : wc.cell? ⟨gb282, 3, none⟩ = some (.slice Ao38 x283003_1.length co38) := (blk_cell BK282.out 3).trans rfl
                      have hfz77_0 := blk_frozen BK282.out 0
                      have hfz77_1 := blk_frozen BK282.out 1
                      have hfz77_2 := blk_frozen BK282.out 2
                      have hfz77_3 := blk_frozen BK282.out 3
                      go_wp2_with (first | ((with_reducible refine gate_callee (f := 11) rfl ?_); refine goesL_ (some 157) rfl rfl Try.func11 (by kernel_rfl) rfl #[.agg #[.int .i64 a0, .int .i64 a1, .int .i64 a2, .slice Ao38 x283003_1.length co38], .int .i64 a4, .int .i64 a5] rfl ga ?_; (with_reducible refine (mat_Matrix_At.calls a0 a1 a2 _ _ x283003_1 a4 a5 t296 _ ?side1 ?side2 A62.out).mono ?_); (case side1 => exact ks HO_283003); (case side2 => exact (Kd.R_reads' HO_283003.out).2.1); rintro e w78 ⟨rfl, hb⟩; refine ⟨_, rfl, ?_⟩; have n0_ := Aside0.mk (Kd.R_below (kr HO_283003) hb); have n1_ := Aside0.mk (blk_below (g := gb282) (o := .cells #[.int .i64 a0, .int .i64 a1, .int .i64 a2, .slice Ao38 x283003_1.length co38] 25 (0, 0)) (kb BK282) hb); have n2_ := Aside0.mk (below_step bes hb); clear HO_283003; clear BK282; clear HB; have HO_283003 := n0_; have BK282 := n1_; have HB := n2_; clear n0_ n1_ n2_; (try clear hb); have hcz79_0 : w78.cell? ⟨gb282, 0, none⟩ = some (.int .i64 a0) := (blk_cell BK282.out 0).trans rfl; have hcz79_1 : w78.cell? ⟨gb282, 1, none⟩ = some (.int .i64 a1) := (blk_cell BK282.out 1).trans rfl; have hcz79_2 : w78.cell? ⟨gb282, 2, none⟩ = some (.int .i64 a2) := (blk_cell BK282.out 2).trans rfl; have hcz79_3 : w78.cell? ⟨gb282, 3, none⟩ = some (.slice Ao38 x283003_1.length co38) := (blk_cell BK282.out 3).trans rfl; have hfz79_0 := blk_frozen BK282.out 0; have hfz79_1 := blk_frozen BK282.out 1; have hfz79_2 := blk_frozen BK282.out 2; have hfz79_3 := blk_frozen BK282.out 3) | ((with_reducible refine gate_callee (f := 14) rfl ?_); refine goesL_ (some 165) rfl rfl Try.func14 (by kernel_rfl) rfl #[.agg #[.int .i64 a0, .int .i64 a1, .int .i64 a2, .slice Ao38 x283003_1.length co38], .int .i64 a4, .int .i64 a5, .int .u64 3] rfl ga ?_; (with_reducible refine (mat_Matrix_Set.calls a0 a1 a2 (fun k_ => some k_ = (.slice Ao38 x283003_1.length co38 : Value).ownBlock) (.slice Ao38 x283003_1.length co38) x283003_1 a4 a5 3 t297 w _ ?side1 ?side2 A64.out).mono ?_); (case side1 => repeat (first | (with_reducible first | exact HB.out | apply below_alloc | apply pw_below_drewN | apply below_drew1 | refine below_set ?_ GE282.out) | exact HB.out)); (case side2 => exact Kd.R_tight rfl HO_283003.out); rintro e w80 ⟨rfl, hy0, hb, hkp⟩; refine ⟨_, rfl, ?_⟩; have n0_ := Aside0.mk (Kd.R_reok rfl hy0 (fun k_ e_ => HO_283003.out.1 k_ e_)); have n1_ := Aside0.mk (blk_kept (kb BK282) hkp (fun hs_ => (fun e_ => (Kd.R_ne HO_283003.out BK282.out (by decide)) e_) hs_)); have n2_ := Aside0.mk (hb); clear HO_283003; clear BK282; clear HB; have HO_283003 := n0_; have BK282 := n1_; have HB := n2_; clear n0_ n1_ n2_; (try clear hb); (try clear hkp); (try clear hy0); have hcz81_0 : w80.cell? ⟨gb282, 0, none⟩ = some (.int .i64 a0) := (blk_cell BK282.out 0).trans rfl; have hcz81_1 : w80.cell? ⟨gb282, 1, none⟩ = some (.int .i64 a1) := (blk_cell BK282.out 1).trans rfl; have hcz81_2 : w80.cell? ⟨gb282, 2, none⟩ = some (.int .i64 a2) := (blk_cell BK282.out 2).trans rfl; have hcz81_3 : w80.cell? ⟨gb282, 3, none⟩ = some (.slice Ao38 x283003_1.length co38) := (blk_cell BK282.out 3).trans rfl; have hfz81_0 := blk_frozen BK282.out 0; have hfz81_1 := blk_frozen BK282.out 1; have hfz81_2 := blk_frozen BK282.out 2; have hfz81_3 := blk_frozen BK282.out 3) | ((with_reducible refine gate_callee (f := 11) rfl ?_); refine goesL_ (some 169) rfl rfl Try.func11 (by kernel_rfl) rfl #[.agg #[.int .i64 a0, .int .i64 a1, .int .i64 a2, .slice Ao38 t297.length co38], .int .i64 a4, .int .i64 a5] rfl (by (try simp only [List.map_toArray, List.map_cons, List.map_nil]); first | done | (rw [show t297.length = x283003_1.length from (Kd.R_reads' HO_283003.out).1.symm] <;> rfl) | rfl | (simp only [List.length_drop, List.length_take]; rfl)) ?_; (with_reducible refine (mat_Matrix_At.calls a0 a1 a2 _ _ t297 a4 a5 t298 _ ?side1 ?side2 A65.out).mono ?_); (case side1 => exact ks HO_283003); (case side2 => rw [show t297.length = x283003_1.length from (Kd.R_reads' HO_283003.out).1.symm]; exact (Kd.R_reads' HO_283003.out).2.1); rintro e w82 ⟨rfl, hb⟩; refine ⟨_, rfl, ?_⟩; have n0_ := Aside0.mk (Kd.R_below (kr HO_283003) hb); have n1_ := Aside0.mk (blk_below (g := gb282) (o := .cells #[.int .i64 a0, .int .i64 a1, .int .i64 a2, .slice Ao38 x283003_1.length co38] 25 (0, 0)) (kb BK282) hb); have n2_ := Aside0.mk (below_step bes hb); clear HO_283003; clear BK282; clear HB; have HO_283003 := n0_; have BK282 := n1_; have HB := n2_; clear n0_ n1_ n2_; (try clear hb)))
                      go_ret
                      exact ⟨er, bes⟩
                    ·
                     rw [if_neg c63] at H
                     have c63b0 : (t296 == (IntKind.u64.wrap (wrap64 ((wrap64 ((wrap64 (a4 * a2)) + a5)) + 5)))) = false := beq_eq_false_iff_ne.mpr c63
                     have c63b1 : (t296 != (IntKind.u64.wrap (wrap64 ((wrap64 ((wrap64 (a4 * a2)) + a5)) + 5)))) = true := bne_iff_ne.mpr c63
                     obtain rfl := Option.some.inj H
                     have hcz83_0 : wc.cell? ⟨gb282, 0, none⟩ = some (.int .i64 a0) := (blk_cell BK282.out 0).trans rfl
                     have hcz83_1 : wc.cell? ⟨gb282, 1, none⟩ = some (.int .i64 a1) := (blk_cell BK282.out 1).trans rfl
                     have hcz83_2 : wc.cell? ⟨gb282, 2, none⟩ = some (.int .i64 a2) := (blk_cell BK282.out 2).trans rfl
                     have hcz83_3 : wc.cell? ⟨gb282, 3, none⟩ = some (.slice Ao38 x283003_1.length co38) := (blk_cell BK282.out 3).trans rfl
                     have hfz83_0 := blk_frozen BK282.out 0
                     have hfz83_1 := blk_frozen BK282.out 1
                     have hfz83_2 := blk_frozen BK282.out 2
                     have hfz83_3 := blk_frozen BK282.out 3
                     go_wp2_with (first | ((with_reducible refine gate_callee (f := 11) rfl ?_); refine goesL_ (some 157) rfl rfl Try.func11 (by kernel_rfl) rfl #[.agg #[.int .i64 a0, .int .i64 a1, .int .i64 a2, .slice Ao38 x283003_1.length co38], .int .i64 a4, .int .i64 a5] rfl ga ?_; (with_reducible refine (mat_Matrix_At.calls a0 a1 a2 _ _ x283003_1 a4 a5 t296 _ ?side1 ?side2 A62.out).mono ?_); (case side1 => exact ks HO_283003); (case side2 => exact (Kd.R_reads' HO_283003.out).2.1); rintro e w84 ⟨rfl, hb⟩; refine ⟨_, rfl, ?_⟩; have n0_ := Aside0.mk (Kd.R_below (kr HO_283003) hb); have n1_ := Aside0.mk (blk_below (g := gb282) (o := .cells #[.int .i64 a0, .int .i64 a1, .int .i64 a2, .slice Ao38 x283003_1.length co38] 25 (0, 0)) (kb BK282) hb); have n2_ := Aside0.mk (below_step bes hb); clear HO_283003; clear BK282; clear HB; have HO_283003 := n0_; have BK282 := n1_; have HB := n2_; clear n0_ n1_ n2_; (try clear hb)))
                     go_ret
                     exact ⟨er, bes⟩
                ·
                 replace c43 := Bool.eq_false_iff.mpr c43
                 subst c43
                 rw [if_neg (show ¬ (false = true) by decide)] at H
                 obtain ⟨⟨t285, t286, t287, t288, t291⟩, A850, H⟩ := Option.bind_eq_some_iff.mp H
                 (try dsimp -simprocs only at H)
                 have A85 := Aside0.mk A850
                 clear A850
                 obtain rfl := Option.some.inj H
                 have hcz86_0 : wc.cell? ⟨gb282, 0, none⟩ = some (.int .i64 a0) := (blk_cell BK282.out 0).trans rfl
                 have hcz86_1 : wc.cell? ⟨gb282, 1, none⟩ = some (.int .i64 a1) := (blk_cell BK282.out 1).trans rfl
                 have hcz86_2 : wc.cell? ⟨gb282, 2, none⟩ = some (.int .i64 a2) := (blk_cell BK282.out 2).trans rfl
                 have hcz86_3 : wc.cell? ⟨gb282, 3, none⟩ = some (.slice Ao38 x283003_1.length co38) := (blk_cell BK282.out 3).trans rfl
                 have hfz86_0 := blk_frozen BK282.out 0
                 have hfz86_1 := blk_frozen BK282.out 1
                 have hfz86_2 := blk_frozen BK282.out 2
                 have hfz86_3 := blk_frozen BK282.out 3
                 go_wp2_with (first | ((with_reducible refine gate_callee (f := 13) rfl ?_); refine goesL_ (some 103) rfl rfl Try.func13 (by kernel_rfl) rfl #[.agg #[.int .i64 a0, .int .i64 a1, .int .i64 a2, .slice Ao38 x283003_1.length co38], .int .i64 0, .int .i64 0, .int .i64 0, .int .i64 0] rfl ga ?_; (with_reducible refine (mat_Matrix_Cut.calls kj35 a0 a1 a2 _ _ x283003_1 0 0 0 0 t285 t286 t287 t288 t291 _ ?side1 ?side2 A85.out).mono ?_); (case side1 => exact ks HO_283003); (case side2 => exact (Kd.R_reads' HO_283003.out).2.1); rintro e w87 ⟨v289, rfl, ho0, hb⟩; refine ⟨_, rfl, ?_⟩; have n0_ := Aside0.mk (Kd.R_elder' (kr HO_283003) (Kd.R_base ho0) hb); have n1_ := Aside0.mk (Kd.R_lower (Kd.R_new' ho0 (Kd.R_lt (kr HO_283003))) (below_size bes)); have n2_ := Aside0.mk (blk_below (g := gb282) (o := .cells #[.int .i64 a0, .int .i64 a1, .int .i64 a2, .slice Ao38 x283003_1.length co38] 25 (0, 0)) (kb BK282) hb); have n3_ := Aside0.mk (below_step bes hb); clear HO_283003; clear BK282; clear HB; have HO_283003 := n0_; have HO290 := n1_; have BK282 := n2_; have HB := n3_; clear n0_ n1_ n2_ n3_; (try clear hb); (try clear ho0)) | ((with_reducible refine gate_dst (N := 17) rfl ?_); refine box_event ?hg (N := 17) ?hd (cs := #[.int .i64 0, .int .i64 0, .int .i64 0, .slice none 0 0]) (t := 25) ?hr ?_; (case hd => rfl); (case hg => rfl); (case hr => first | (go_simp; done) | (go_simp; rfl)); intro gb292 hg w88 hbox hb; have n0_ := Aside0.mk (Kd.R_below (kr HO_283003) hb); have n1_ := Aside0.mk (Kd.R_below (kr HO290) hb); have n2_ := Aside0.mk (blk_below (g := gb282) (o := .cells #[.int .i64 a0, .int .i64 a1, .int .i64 a2, .slice Ao38 x283003_1.length co38] 25 (0, 0)) (kb BK282) hb); have n3_ := Aside0.mk (below_step bes hb); have n4_ := Aside0.mk (hbox); have n5_ := Aside0.mk ((by rw [hg]; exact (below_size bes) : w.heap.size ≤ gb292)); have n6_ := Aside0.mk ((by rw [hg]; exact (below_size bes) : w.heap.size ≤ gb292)); have n7_ := Aside0.mk ((by rw [hg]; exact Nat.ne_of_lt (blk_lt (g := gb282) (o := .cells #[.int .i64 a0, .int .i64 a1, .int .i64 a2, .slice Ao38 x283003_1.length co38] 25 (0, 0)) (kb BK282)) : gb282 ≠ gb292)); have n8_ := Aside0.mk ((by rw [hg]; exact Nat.ne_of_gt (blk_lt (g := gb282) (o := .cells #[.int .i64 a0, .int .i64 a1, .int .i64 a2, .slice Ao38 x283003_1.length co38] 25 (0, 0)) (kb BK282)) : gb292 ≠ gb282)); clear HO_283003; clear HO290; clear BK282; clear HB; have HO_283003 := n0_; have HO290 := n1_; have BK282 := n2_; have HB := n3_; have BK292 := n4_; have GW292 := n5_; have GE292 := n6_; have NB282_292 := n7_; have NB292_282 := n8_; clear n0_ n1_ n2_ n3_ n4_ n5_ n6_ n7_ n8_; clear hb hbox hg; have hnb89 := NB292_282.out; have hnc89 := NB282_292.out; have hcz90_0 : w88.cell? ⟨gb292, 0, none⟩ = some (.int .i64 0) := (blk_cell BK292.out 0).trans rfl; have hcz90_1 : w88.cell? ⟨gb292, 1, none⟩ = some (.int .i64 0) := (blk_cell BK292.out 1).trans rfl; have hcz90_2 : w88.cell? ⟨gb292, 2, none⟩ = some (.int .i64 0) := (blk_cell BK292.out 2).trans rfl; have hcz90_3 : w88.cell? ⟨gb292, 3, none⟩ = some (.slice none 0 0) := (blk_cell BK292.out 3).trans rfl; have hfz90_0 := blk_frozen BK292.out 0; have hfz90_1 := blk_frozen BK292.out 1; have hfz90_2 := blk_frozen BK292.out 2; have hfz90_3 := blk_frozen BK292.out 3; obtain ⟨Ao91, co91, eo91⟩ := Kd.R_slice HO290.out; subst eo91))
                 go_ret
                 exact ⟨er, bes⟩
   ·
    rw [if_neg c10] at H
    exact absurd H (by simp)
  ·
   rw [if_neg c9] at H
   exact absurd H (by simp)
 ·
  replace c8 := Bool.eq_false_iff.mpr c8
  subst c8
  rw [if_neg (show ¬ (false = true) by decide)] at H
  obtain rfl := Option.some.inj H
  go_enter Try.func4, Try.ntmps4
  go_wp2_with (first | ((with_reducible refine gate_callee (f := 7) rfl ?_); refine goesL_ (some 21) rfl rfl Try.func7 (by kernel_rfl) rfl #[] rfl ga ?_; (with_reducible refine (gimballaw09_head.calls k  false _ A7.out).mono ?_); rintro e w92 ⟨rfl, hb⟩; refine ⟨_, rfl, ?_⟩; have n0_ := Aside0.mk (below_step bel hb); clear HB; have HB := n0_; clear n0_; (try clear hb)))
  go_ret
  exact ⟨er, bel⟩

/-- THE ONE PURE STATEMENT of gimballaw09_MatChecks: yours. -/
def gimballaw09_MatChecks.Pure : Prop := ∀ (a0 : Int) (a1 : Int) (a2 : Int) (a3 : Int) (a4 : Int) (a5 : Int), (Lit.int .i64 a0).wf = true → (Lit.int .i64 a1).wf = true → (Lit.int .i64 a2).wf = true → (Lit.int .i64 a3).wf = true → (Lit.int .i64 a4).wf = true → (Lit.int .i64 a5).wf = true → ∃ k, gimballaw09_MatChecks.f k a0 a1 a2 a3 a4 a5 = some true
theorem gimballaw09_MatChecks.walk (P : gimballaw09_MatChecks.Pure) (a0 : Int) (a1 : Int) (a2 : Int) (a3 : Int) (a4 : Int) (a5 : Int) (w : World) (w0 : (Lit.int .i64 a0).wf = true) (w1 : (Lit.int .i64 a1).wf = true) (w2 : (Lit.int .i64 a2).wf = true) (w3 : (Lit.int .i64 a3).wf = true) (w4 : (Lit.int .i64 a4).wf = true) (w5 : (Lit.int .i64 a5).wf = true) :
  Calls Try.prog 4 #[.int .i64 a0, .int .i64 a1, .int .i64 a2, .int .i64 a3, .int .i64 a4, .int .i64 a5] w fun e w' => e = .returned (.bool true) ∧ Below w.heap.size w w' := by
 obtain ⟨k, h⟩ := P a0 a1 a2 a3 a4 a5 w0 w1 w2 w3 w4 w5
 refine (gimballaw09_MatChecks.calls k a0 a1 a2 a3 a4 a5 true w h).mono ?_
 rintro e w' ⟨rfl, hd⟩
 exact ⟨rfl, hd⟩

end Go.Proofs.Ytenegelkbfmjkaa.F
