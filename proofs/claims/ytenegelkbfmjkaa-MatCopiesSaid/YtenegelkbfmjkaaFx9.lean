-- Written by a program of this seat's session (mkprint), out of the translation.
import Derived.Test.YtenegelkbfmjkaaShort
import Derived.Test.YtenegelkbfmjkaaFx0
import Derived.Test.YtenegelkbfmjkaaFx2
import Derived.Test.YtenegelkbfmjkaaFx5
import Derived.Test.YtenegelkbfmjkaaFx6
import Derived.Test.YtenegelkbfmjkaaFx7
import Derived.Test.YtenegelkbfmjkaaFx8
namespace Go.Proofs.Ytenegelkbfmjkaa.F
open Go.RowKit Go.Proofs.YtenegelkbfmjkaaW.PrintWords Go.Proofs.YtenegelkbfmjkaaW.PrintLast Go.Proofs.YtenegelkbfmjkaaW.PrintMore
attribute [local go_sem] max2_int min2_int max_two min_two max_three min_three max_four min_four   -- for this text's walks alone
set_option linter.unusedVariables false
set_option linter.unusedSimpArgs false

/-! ### gimballaw09_MatCopies: function 5 -/
mutual
def gimballaw09_MatCopies.j0 : Nat → Int → Int → Int → List Int → Int → Int → Bool → Int → Int → Int → List Int → Int → Int → Int → List Int → Int → Int → Int → List Int → Option (Bool)
 | 0, _, _, _, _, _, _, _, _, _, _, _, _, _, _, _, _, _, _, _ => none
 | k + 1, x0, x1, x2, x3, x4, x5, x83, x280000, x280001, x280002, x280003, x287000, x287001, x287002, x287003, x294000, x294001, x294002, x294003 => if x83 = true then (some false) else (gimballaw09_MatCopies.l0 k x0 x1 x2 x3 x4 x5 0 x280000 x280001 x280002 x280003 x287000 x287001 x287002 x287003 x294000 x294001 x294002 x294003)
def gimballaw09_MatCopies.l0 : Nat → Int → Int → Int → List Int → Int → Int → Int → Int → Int → Int → List Int → Int → Int → Int → List Int → Int → Int → Int → List Int → Option (Bool)
 | 0, _, _, _, _, _, _, _, _, _, _, _, _, _, _, _, _, _, _, _ => none
 | k + 1, x0, x1, x2, x3, x4, x5, x16, x280000, x280001, x280002, x280003, x287000, x287001, x287002, x287003, x294000, x294001, x294002, x294003 => if x16 < x280000 then (gimballaw09_MatCopies.l1 k x0 x1 x2 x3 x4 x5 x16 0 x280000 x280001 x280002 x280003 x287000 x287001 x287002 x287003 x294000 x294001 x294002 x294003) else (gimballaw09_MatCopies.l2 k x0 x1 x2 x3 x4 x5 (x287003.length : Int) 0 x280000 x280001 x280002 x280003 x287000 x287001 x287002 x287003 x294000 x294001 x294002 x294003)
def gimballaw09_MatCopies.l1 : Nat → Int → Int → Int → List Int → Int → Int → Int → Int → Int → Int → Int → List Int → Int → Int → Int → List Int → Int → Int → Int → List Int → Option (Bool)
 | 0, _, _, _, _, _, _, _, _, _, _, _, _, _, _, _, _, _, _, _, _ => none
 | k + 1, x0, x1, x2, x3, x4, x5, x16, x17, x280000, x280001, x280002, x280003, x287000, x287001, x287002, x287003, x294000, x294001, x294002, x294003 => if x17 < x280001 then ((mat_Matrix_At.f x294000 x294001 x294002 x294003 x17 x16).bind fun t304 => ((mat_Matrix_At.f x280000 x280001 x280002 x280003 x16 x17).bind fun t305 => (if t304 = t305 then (gimballaw09_MatCopies.l1 k x0 x1 x2 x3 x4 x5 x16 (wrap64 (x17 + 1)) x280000 x280001 x280002 x280003 x287000 x287001 x287002 x287003 x294000 x294001 x294002 x294003) else (some false)))) else (gimballaw09_MatCopies.l0 k x0 x1 x2 x3 x4 x5 (wrap64 (x16 + 1)) x280000 x280001 x280002 x280003 x287000 x287001 x287002 x287003 x294000 x294001 x294002 x294003)
def gimballaw09_MatCopies.l2 : Nat → Int → Int → Int → List Int → Int → Int → Int → Int → Int → Int → Int → List Int → Int → Int → Int → List Int → Int → Int → Int → List Int → Option (Bool)
 | 0, _, _, _, _, _, _, _, _, _, _, _, _, _, _, _, _, _, _, _, _ => none
 | k + 1, x0, x1, x2, x3, x4, x5, x107, x108, x280000, x280001, x280002, x280003, x287000, x287001, x287002, x287003, x294000, x294001, x294002, x294003 => if x108 < x107 then (if 0 ≤ x108 then (if x108 < (x287003.length : Int) then (gimballaw09_MatCopies.l2 k x0 x1 x2 x3 x4 x5 x107 (wrap64 (x108 + 1)) x280000 x280001 x280002 x280003 x287000 x287001 x287002 (x287003.set (x108 : Int).toNat 1) x294000 x294001 x294002 x294003) else (none)) else (none)) else (gimballaw09_MatCopies.l3 k x0 x1 x2 x3 x4 x5 (x294003.length : Int) 0 x280000 x280001 x280002 x280003 x294000 x294001 x294002 x294003)
def gimballaw09_MatCopies.l3 : Nat → Int → Int → Int → List Int → Int → Int → Int → Int → Int → Int → Int → List Int → Int → Int → Int → List Int → Option (Bool)
 | 0, _, _, _, _, _, _, _, _, _, _, _, _, _, _, _, _ => none
 | k + 1, x0, x1, x2, x3, x4, x5, x118, x119, x280000, x280001, x280002, x280003, x294000, x294001, x294002, x294003 => if x119 < x118 then (if 0 ≤ x119 then (if x119 < (x294003.length : Int) then (gimballaw09_MatCopies.l3 k x0 x1 x2 x3 x4 x5 x118 (wrap64 (x119 + 1)) x280000 x280001 x280002 x280003 x294000 x294001 x294002 (x294003.set (x119 : Int).toNat 1)) else (none)) else (none)) else ((gimballaw09_Made.f k x0 x1 x2 x3).bind fun bt308 => ((mat_Matrix_Same.f k x280000 x280001 x280002 x280003 bt308.1 bt308.2.1 bt308.2.2.1 bt308.2.2.2).bind fun t314 => (if t314 = true then ((mat_Matrix_Cut.f k x280000 x280001 x280002 x280003 x4 x5 1 1).bind fun bt315 => (if x4 < 0 then (gimballaw09_MatCopies.j5 k x4 x5 bt315.2.2.2.2 true x280000 x280001 x280002 x280003 bt315.1 bt315.2.1 bt315.2.2.1 bt315.2.2.2.1) else (if x5 < 0 then (gimballaw09_MatCopies.j5 k x4 x5 bt315.2.2.2.2 true x280000 x280001 x280002 x280003 bt315.1 bt315.2.1 bt315.2.2.1 bt315.2.2.2.1) else (if x4 ≥ x280000 then (gimballaw09_MatCopies.j5 k x4 x5 bt315.2.2.2.2 true x280000 x280001 x280002 x280003 bt315.1 bt315.2.1 bt315.2.2.1 bt315.2.2.2.1) else (gimballaw09_MatCopies.j5 k x4 x5 bt315.2.2.2.2 (decide (x5 ≥ x280001)) x280000 x280001 x280002 x280003 bt315.1 bt315.2.1 bt315.2.2.1 bt315.2.2.2.1))))) else (some false))))
def gimballaw09_MatCopies.j5 : Nat → Int → Int → Int → Bool → Int → Int → Int → List Int → Int → Int → Int → List Int → Option (Bool)
 | 0, _, _, _, _, _, _, _, _, _, _, _, _ => none
 | k + 1, x4, x5, x21, x159, x280000, x280001, x280002, x280003, x323000, x323001, x323002, x323003 => if x159 = true then (some (x21 == 4)) else ((mat_Matrix_Cut.f k x280000 x280001 x280002 x280003 x4 x5 (wrap64 (x280000 - x4)) (wrap64 (x280001 - x5))).bind fun bt323 => ((mat_Matrix_Cut.f k x280000 x280001 x280002 x280003 x4 x5 (wrap64 ((wrap64 (x280000 - x4)) + 1)) 1).bind fun bt331 => (if x21 = 0 then (if bt323.2.2.2.2 = 0 then (if bt331.2.2.2.2 = 4 then ((mat_Matrix_At.f x323000 x323001 x323002 x323003 0 0).bind fun t339 => ((mat_Matrix_At.f x280000 x280001 x280002 x280003 x4 x5).bind fun t340 => (gimballaw09_MatCopies.j6 k x4 x5 (t339 != t340) x280000 x280001 x280002 x280003 bt323.1 bt323.2.1 bt323.2.2.1 bt323.2.2.2.1))) else (gimballaw09_MatCopies.j6 k x4 x5 true x280000 x280001 x280002 x280003 bt323.1 bt323.2.1 bt323.2.2.1 bt323.2.2.2.1)) else (gimballaw09_MatCopies.j6 k x4 x5 true x280000 x280001 x280002 x280003 bt323.1 bt323.2.1 bt323.2.2.1 bt323.2.2.2.1)) else (gimballaw09_MatCopies.j6 k x4 x5 true x280000 x280001 x280002 x280003 bt323.1 bt323.2.1 bt323.2.2.1 bt323.2.2.2.1))))
def gimballaw09_MatCopies.j6 : Nat → Int → Int → Bool → Int → Int → Int → List Int → Int → Int → Int → List Int → Option (Bool)
 | 0, _, _, _, _, _, _, _, _, _, _, _ => none
 | k + 1, x4, x5, x207, x280000, x280001, x280002, x280003, x331000, x331001, x331002, x331003 => if x207 = true then (some false) else (gimballaw09_MatCopies.l4 k x4 x5 0 x280000 x280001 x280002 x280003 x331000 x331001 x331002 x331003)
def gimballaw09_MatCopies.l4 : Nat → Int → Int → Int → Int → Int → Int → List Int → Int → Int → Int → List Int → Option (Bool)
 | 0, _, _, _, _, _, _, _, _, _, _, _ => none
 | k + 1, x4, x5, x26, x280000, x280001, x280002, x280003, x331000, x331001, x331002, x331003 => if x26 < x331000 then (gimballaw09_MatCopies.l5 k x4 x5 x26 0 x280000 x280001 x280002 x280003 x331000 x331001 x331002 x331003) else (some true)
def gimballaw09_MatCopies.l5 : Nat → Int → Int → Int → Int → Int → Int → Int → List Int → Int → Int → Int → List Int → Option (Bool)
 | 0, _, _, _, _, _, _, _, _, _, _, _, _ => none
 | k + 1, x4, x5, x26, x27, x280000, x280001, x280002, x280003, x331000, x331001, x331002, x331003 => if x27 < x331001 then ((mat_Matrix_At.f x331000 x331001 x331002 x331003 x26 x27).bind fun t341 => ((mat_Matrix_At.f x280000 x280001 x280002 x280003 (wrap64 (x4 + x26)) (wrap64 (x5 + x27))).bind fun t342 => (if t341 = t342 then (gimballaw09_MatCopies.l5 k x4 x5 x26 (wrap64 (x27 + 1)) x280000 x280001 x280002 x280003 x331000 x331001 x331002 x331003) else (some false)))) else (gimballaw09_MatCopies.l4 k x4 x5 (wrap64 (x26 + 1)) x280000 x280001 x280002 x280003 x331000 x331001 x331002 x331003)
end
def gimballaw09_MatCopies.f (k : Nat) (a0 : Int) (a1 : Int) (a2 : Int) (l3 : List Int) (a4 : Int) (a5 : Int) : Option (Bool) := (gimballaw09_head.f k).bind fun t272 => (if t272 = true then (if (l3.length : Int) > 100 then (some true) else ((gimballaw09_Made.f k a0 a1 a2 l3).bind fun bt273 => ((mat_Matrix_Clone.f k bt273.1 bt273.2.1 bt273.2.2.1 bt273.2.2.2).bind fun bt280 => ((mat_Matrix_Turn.f k bt273.1 bt273.2.1 bt273.2.2.1 bt273.2.2.2).bind fun bt287 => ((mat_Matrix_Same.f k bt280.1 bt280.2.1 bt280.2.2.1 bt280.2.2.2 bt273.1 bt273.2.1 bt273.2.2.1 bt273.2.2.2).bind fun t294 => (if t294 = true then (if bt280.2.2.1 = bt280.2.1 then ((mat_Matrix_Check.f k bt280.1 bt280.2.1 bt280.2.2.1 bt280.2.2.2).bind fun t295 => (if t295 = 0 then ((mat_Matrix_Check.f k bt287.1 bt287.2.1 bt287.2.2.1 bt287.2.2.2).bind fun t296 => (if t296 = 0 then (if bt287.1 = bt273.2.1 then (if bt287.2.1 = bt273.1 then ((mat_Matrix_Turn.f k bt287.1 bt287.2.1 bt287.2.2.1 bt287.2.2.2).bind fun bt297 => ((mat_Matrix_Same.f k bt297.1 bt297.2.1 bt297.2.2.1 bt297.2.2.2 bt273.1 bt273.2.1 bt273.2.2.1 bt273.2.2.2).bind fun t303 => (gimballaw09_MatCopies.j0 k a0 a1 a2 l3 a4 a5 (!t303) bt273.1 bt273.2.1 bt273.2.2.1 bt273.2.2.2 bt280.1 bt280.2.1 bt280.2.2.1 bt280.2.2.2 bt287.1 bt287.2.1 bt287.2.2.1 bt287.2.2.2))) else (gimballaw09_MatCopies.j0 k a0 a1 a2 l3 a4 a5 true bt273.1 bt273.2.1 bt273.2.2.1 bt273.2.2.2 bt280.1 bt280.2.1 bt280.2.2.1 bt280.2.2.2 bt287.1 bt287.2.1 bt287.2.2.1 bt287.2.2.2)) else (gimballaw09_MatCopies.j0 k a0 a1 a2 l3 a4 a5 true bt273.1 bt273.2.1 bt273.2.2.1 bt273.2.2.2 bt280.1 bt280.2.1 bt280.2.2.1 bt280.2.2.2 bt287.1 bt287.2.1 bt287.2.2.1 bt287.2.2.2)) else (gimballaw09_MatCopies.j0 k a0 a1 a2 l3 a4 a5 true bt273.1 bt273.2.1 bt273.2.2.1 bt273.2.2.2 bt280.1 bt280.2.1 bt280.2.2.1 bt280.2.2.2 bt287.1 bt287.2.1 bt287.2.2.1 bt287.2.2.2))) else (gimballaw09_MatCopies.j0 k a0 a1 a2 l3 a4 a5 true bt273.1 bt273.2.1 bt273.2.2.1 bt273.2.2.2 bt280.1 bt280.2.1 bt280.2.2.1 bt280.2.2.2 bt287.1 bt287.2.1 bt287.2.2.1 bt287.2.2.2))) else (gimballaw09_MatCopies.j0 k a0 a1 a2 l3 a4 a5 true bt273.1 bt273.2.1 bt273.2.2.1 bt273.2.2.2 bt280.1 bt280.2.1 bt280.2.2.1 bt280.2.2.2 bt287.1 bt287.2.1 bt287.2.2.1 bt287.2.2.2)) else (gimballaw09_MatCopies.j0 k a0 a1 a2 l3 a4 a5 true bt273.1 bt273.2.1 bt273.2.2.1 bt273.2.2.2 bt280.1 bt280.2.1 bt280.2.2.1 bt280.2.2.2 bt287.1 bt287.2.1 bt287.2.2.1 bt287.2.2.2))))))) else (some false))
theorem gimballaw09_MatCopies.mono_l : ∀ k, (∀ y0 y1 y2 y3 y4 y5 y6 y7 y8 y9 y10 y11 y12 y13 y14 y15 y16 y17 y18, LeO (gimballaw09_MatCopies.j0 k y0 y1 y2 y3 y4 y5 y6 y7 y8 y9 y10 y11 y12 y13 y14 y15 y16 y17 y18) (gimballaw09_MatCopies.j0 (k + 1) y0 y1 y2 y3 y4 y5 y6 y7 y8 y9 y10 y11 y12 y13 y14 y15 y16 y17 y18)) ∧ (∀ y0 y1 y2 y3 y4 y5 y6 y7 y8 y9 y10 y11 y12 y13 y14 y15 y16 y17 y18, LeO (gimballaw09_MatCopies.l0 k y0 y1 y2 y3 y4 y5 y6 y7 y8 y9 y10 y11 y12 y13 y14 y15 y16 y17 y18) (gimballaw09_MatCopies.l0 (k + 1) y0 y1 y2 y3 y4 y5 y6 y7 y8 y9 y10 y11 y12 y13 y14 y15 y16 y17 y18)) ∧ (∀ y0 y1 y2 y3 y4 y5 y6 y7 y8 y9 y10 y11 y12 y13 y14 y15 y16 y17 y18 y19, LeO (gimballaw09_MatCopies.l1 k y0 y1 y2 y3 y4 y5 y6 y7 y8 y9 y10 y11 y12 y13 y14 y15 y16 y17 y18 y19) (gimballaw09_MatCopies.l1 (k + 1) y0 y1 y2 y3 y4 y5 y6 y7 y8 y9 y10 y11 y12 y13 y14 y15 y16 y17 y18 y19)) ∧ (∀ y0 y1 y2 y3 y4 y5 y6 y7 y8 y9 y10 y11 y12 y13 y14 y15 y16 y17 y18 y19, LeO (gimballaw09_MatCopies.l2 k y0 y1 y2 y3 y4 y5 y6 y7 y8 y9 y10 y11 y12 y13 y14 y15 y16 y17 y18 y19) (gimballaw09_MatCopies.l2 (k + 1) y0 y1 y2 y3 y4 y5 y6 y7 y8 y9 y10 y11 y12 y13 y14 y15 y16 y17 y18 y19)) ∧ (∀ y0 y1 y2 y3 y4 y5 y6 y7 y8 y9 y10 y11 y12 y13 y14 y15, LeO (gimballaw09_MatCopies.l3 k y0 y1 y2 y3 y4 y5 y6 y7 y8 y9 y10 y11 y12 y13 y14 y15) (gimballaw09_MatCopies.l3 (k + 1) y0 y1 y2 y3 y4 y5 y6 y7 y8 y9 y10 y11 y12 y13 y14 y15)) ∧ (∀ y0 y1 y2 y3 y4 y5 y6 y7 y8 y9 y10 y11, LeO (gimballaw09_MatCopies.j5 k y0 y1 y2 y3 y4 y5 y6 y7 y8 y9 y10 y11) (gimballaw09_MatCopies.j5 (k + 1) y0 y1 y2 y3 y4 y5 y6 y7 y8 y9 y10 y11)) ∧ (∀ y0 y1 y2 y3 y4 y5 y6 y7 y8 y9 y10, LeO (gimballaw09_MatCopies.j6 k y0 y1 y2 y3 y4 y5 y6 y7 y8 y9 y10) (gimballaw09_MatCopies.j6 (k + 1) y0 y1 y2 y3 y4 y5 y6 y7 y8 y9 y10)) ∧ (∀ y0 y1 y2 y3 y4 y5 y6 y7 y8 y9 y10, LeO (gimballaw09_MatCopies.l4 k y0 y1 y2 y3 y4 y5 y6 y7 y8 y9 y10) (gimballaw09_MatCopies.l4 (k + 1) y0 y1 y2 y3 y4 y5 y6 y7 y8 y9 y10)) ∧ (∀ y0 y1 y2 y3 y4 y5 y6 y7 y8 y9 y10 y11, LeO (gimballaw09_MatCopies.l5 k y0 y1 y2 y3 y4 y5 y6 y7 y8 y9 y10 y11) (gimballaw09_MatCopies.l5 (k + 1) y0 y1 y2 y3 y4 y5 y6 y7 y8 y9 y10 y11))
 | 0 => ⟨fun _ _ _ _ _ _ _ _ _ _ _ _ _ _ _ _ _ _ _ r h => by simp [gimballaw09_MatCopies.j0] at h, fun _ _ _ _ _ _ _ _ _ _ _ _ _ _ _ _ _ _ _ r h => by simp [gimballaw09_MatCopies.l0] at h, fun _ _ _ _ _ _ _ _ _ _ _ _ _ _ _ _ _ _ _ _ r h => by simp [gimballaw09_MatCopies.l1] at h, fun _ _ _ _ _ _ _ _ _ _ _ _ _ _ _ _ _ _ _ _ r h => by simp [gimballaw09_MatCopies.l2] at h, fun _ _ _ _ _ _ _ _ _ _ _ _ _ _ _ _ r h => by simp [gimballaw09_MatCopies.l3] at h, fun _ _ _ _ _ _ _ _ _ _ _ _ r h => by simp [gimballaw09_MatCopies.j5] at h, fun _ _ _ _ _ _ _ _ _ _ _ r h => by simp [gimballaw09_MatCopies.j6] at h, fun _ _ _ _ _ _ _ _ _ _ _ r h => by simp [gimballaw09_MatCopies.l4] at h, fun _ _ _ _ _ _ _ _ _ _ _ _ r h => by simp [gimballaw09_MatCopies.l5] at h⟩
 | k + 1 => by
  obtain ⟨ih0, ih1, ih2, ih3, ih4, ih5, ih6, ih7, ih8⟩ := gimballaw09_MatCopies.mono_l k
  refine ⟨?_, ?_, ?_, ?_, ?_, ?_, ?_, ?_, ?_⟩ <;> intros <;> (first | unfold gimballaw09_MatCopies.j0 | unfold gimballaw09_MatCopies.l0 | unfold gimballaw09_MatCopies.l1 | unfold gimballaw09_MatCopies.l2 | unfold gimballaw09_MatCopies.l3 | unfold gimballaw09_MatCopies.j5 | unfold gimballaw09_MatCopies.j6 | unfold gimballaw09_MatCopies.l4 | unfold gimballaw09_MatCopies.l5) <;>
   repeat' with_reducible first | apply ih0 | apply ih1 | apply ih2 | apply ih3 | apply ih4 | apply ih5 | apply ih6 | apply ih7 | apply ih8 | apply gimballaw09_Made.mono | apply gimballaw09_head.mono | apply mat_Matrix_Check.mono | apply mat_Matrix_Clone.mono | apply mat_Matrix_Cut.mono | apply mat_Matrix_Same.mono | apply mat_Matrix_Turn.mono | exact LeO.refl _ | exact LeO.none _ | refine LeO.ite ?_ ?_ | refine LeO.bind ?_ (fun _ => ?_)
theorem gimballaw09_MatCopies.mono : ∀ a0 a1 a2 a3 a4 a5 k, LeO (gimballaw09_MatCopies.f k a0 a1 a2 a3 a4 a5) (gimballaw09_MatCopies.f (k + 1) a0 a1 a2 a3 a4 a5) := by
 intro a0 a1 a2 a3 a4 a5 k
 obtain ⟨ih0, ih1, ih2, ih3, ih4, ih5, ih6, ih7, ih8⟩ := gimballaw09_MatCopies.mono_l k
 unfold gimballaw09_MatCopies.f
 repeat' with_reducible first | apply ih0 | apply ih1 | apply ih2 | apply ih3 | apply ih4 | apply ih5 | apply ih6 | apply ih7 | apply ih8 | apply gimballaw09_Made.mono | apply gimballaw09_head.mono | apply mat_Matrix_Check.mono | apply mat_Matrix_Clone.mono | apply mat_Matrix_Cut.mono | apply mat_Matrix_Same.mono | apply mat_Matrix_Turn.mono | exact LeO.refl _ | exact LeO.none _ | refine LeO.ite ?_ ?_ | refine LeO.bind ?_ (fun _ => ?_)
def gimballaw09_MatCopies.T8 : Bool × List (List Nat × List Nat) := (true, [([], []), ([], []), ([0, 1], [0, 1]), ([2], [2]), ([3, 2], [3]), ([4], [4]), ([5, 4], [4, 5]), ([4], [4]), ([7, 4], [4, 7]), ([6, 8, 4], [4, 6, 8]), ([4, 9], [4, 9]), ([10, 4], [10]), ([11], [11]), ([12, 11, 11], [11, 12]), ([13, 11], [11, 13]), ([11, 14], [11, 14]), ([15, 13], [15]), ([16], [16]), ([17, 16, 16], [16, 17]), ([18, 16], [16, 18]), ([16, 19], [16, 19]), ([20, 18], [20]), ([21], [21]), ([22, 21], [21, 22]), ([21], [21]), ([24, 21], [21, 24]), ([23, 25, 21], [21, 23, 25]), ([21, 26], [21, 26]), ([27, 21], [27]), ([28], [28]), ([29, 28], [28, 29]), ([28], [28]), ([31, 28], [28, 31]), ([30, 32, 28], [28, 30, 32]), ([28, 33], [28, 33]), ([34, 28], [34]), ([35], [35]), ([36, 35, 35], [35, 36]), ([35], [35]), ([37, 38, 37, 35], [35, 37, 38]), ([39, 35], [35, 39]), ([35, 40], [35, 40])])
def gimballaw09_MatCopies.B8 : List Nat := [0, 0, 3, 7, 15, 31, 63, 31, 159, 511, 1023, 2047, 4095, 8191, 16383, 32767, 65535, 131071, 262143, 524287, 1048575, 2097151, 4194303, 8388607, 4194303, 20971519, 67108863, 134217727, 268435455, 536870911, 1073741823, 536870911, 2684354559, 8589934591, 17179869183, 34359738367, 68719476735, 137438953471, 68719476735, 549755813887, 1099511627775, 2199023255551]
theorem gimballaw09_MatCopies.tab8 : rtab .any (opsOf Try.f5 8) = gimballaw09_MatCopies.T8 := by kernel_rfl
theorem gimballaw09_MatCopies.bits8 : waitsOk gimballaw09_MatCopies.T8.2 gimballaw09_MatCopies.B8 = true := by kernel_rfl
def gimballaw09_MatCopies.T16 : Bool × List (List Nat × List Nat) := (true, [([], []), ([], []), ([], []), ([0, 1, 2], [0, 1, 2]), ([], []), ([], []), ([], []), ([4, 5, 6, 3], [4, 5, 6]), ([3, 7], [3, 7])])
def gimballaw09_MatCopies.B16 : List Nat := [0, 0, 0, 7, 0, 0, 0, 127, 255]
theorem gimballaw09_MatCopies.tab16 : rtab .any (opsOf Try.f5 16) = gimballaw09_MatCopies.T16 := by kernel_rfl
theorem gimballaw09_MatCopies.bits16 : waitsOk gimballaw09_MatCopies.T16.2 gimballaw09_MatCopies.B16 = true := by kernel_rfl
def gimballaw09_MatCopies.T28 : Bool × List (List Nat × List Nat) := (true, [([], []), ([], []), ([], []), ([], []), ([], []), ([1, 2, 3, 4], [1, 2, 3, 4]), ([0, 5, 5], [0, 5]), ([6], [6])])
def gimballaw09_MatCopies.B28 : List Nat := [0, 0, 0, 0, 0, 30, 63, 127]
theorem gimballaw09_MatCopies.tab28 : rtab .any (opsOf Try.f5 28) = gimballaw09_MatCopies.T28 := by kernel_rfl
theorem gimballaw09_MatCopies.bits28 : waitsOk gimballaw09_MatCopies.T28.2 gimballaw09_MatCopies.B28 = true := by kernel_rfl
def gimballaw09_MatCopies.T35 : Bool × List (List Nat × List Nat) := (true, [([], []), ([0], [0]), ([1], [1]), ([2], [2]), ([3, 2], [2, 3]), ([2, 4], [2, 4]), ([5, 2], [5]), ([6], [6]), ([7, 6], [6, 7]), ([6, 8], [6, 8]), ([9, 6], [9]), ([10], [10]), ([11, 10, 10], [10, 11]), ([10], [10]), ([10], [10]), ([10], [10]), ([13, 14, 15, 12, 10], [10, 13, 14, 15]), ([12, 16, 10], [10, 12, 16]), ([10, 17], [10, 17])])
def gimballaw09_MatCopies.B35 : List Nat := [0, 1, 3, 7, 15, 31, 63, 127, 255, 511, 1023, 2047, 4095, 2047, 2047, 2047, 65535, 131071, 262143]
theorem gimballaw09_MatCopies.tab35 : rtab .any (opsOf Try.f5 35) = gimballaw09_MatCopies.T35 := by kernel_rfl
theorem gimballaw09_MatCopies.bits35 : waitsOk gimballaw09_MatCopies.T35.2 gimballaw09_MatCopies.B35 = true := by kernel_rfl
def gimballaw09_MatCopies.T43 : Bool × List (List Nat × List Nat) := (true, [([], []), ([], []), ([], []), ([0, 1, 2], [0, 1, 2]), ([], []), ([], []), ([], []), ([5, 6], [5, 6]), ([], []), ([], []), ([8, 9], [8, 9]), ([4, 7, 10, 3], [4, 7, 10]), ([3, 11], [3, 11])])
def gimballaw09_MatCopies.B43 : List Nat := [0, 0, 0, 7, 0, 0, 0, 96, 0, 0, 768, 2047, 4095]
theorem gimballaw09_MatCopies.tab43 : rtab .any (opsOf Try.f5 43) = gimballaw09_MatCopies.T43 := by kernel_rfl
theorem gimballaw09_MatCopies.bits43 : waitsOk gimballaw09_MatCopies.T43.2 gimballaw09_MatCopies.B43 = true := by kernel_rfl
set_option maxHeartbeats 8000000 in
set_option maxRecDepth 100000 in
theorem gimballaw09_MatCopies.calls (k : Nat) (a0 : Int) (a1 : Int) (a2 : Int) (A3 : Option Addr) (c3 : Nat) (l3 : List Int) (a4 : Int) (a5 : Int) (r : Bool) (w : World) (hr3 : Kd.C (Kd.int .u64) w A3 l3.length l3) (hc3 : l3.length ≤ c3) (hLW : r = true) (h : gimballaw09_MatCopies.f k a0 a1 a2 l3 a4 a5 = some r) :
  Calls Try.prog 5 #[.int .i64 a0, .int .i64 a1, .int .i64 a2, .slice A3 l3.length c3, .int .i64 a4, .int .i64 a5] w fun e w' => e = .returned (.bool r) ∧ Below w.heap.size w w' := by
 have hu25 := Try.underlying25
 have HR3 := Aside0.mk hr3
 have HC3 := Aside0.mk hc3
 clear hr3 hc3
 have HB := Aside0.mk (Below.refl w.heap.size w)
 have H : ((gimballaw09_head.f k).bind fun t272 => (if t272 = true then (if (l3.length : Int) > 100 then (some true) else ((gimballaw09_Made.f k a0 a1 a2 l3).bind fun bt273 => ((mat_Matrix_Clone.f k bt273.1 bt273.2.1 bt273.2.2.1 bt273.2.2.2).bind fun bt280 => ((mat_Matrix_Turn.f k bt273.1 bt273.2.1 bt273.2.2.1 bt273.2.2.2).bind fun bt287 => ((mat_Matrix_Same.f k bt280.1 bt280.2.1 bt280.2.2.1 bt280.2.2.2 bt273.1 bt273.2.1 bt273.2.2.1 bt273.2.2.2).bind fun t294 => (if t294 = true then (if bt280.2.2.1 = bt280.2.1 then ((mat_Matrix_Check.f k bt280.1 bt280.2.1 bt280.2.2.1 bt280.2.2.2).bind fun t295 => (if t295 = 0 then ((mat_Matrix_Check.f k bt287.1 bt287.2.1 bt287.2.2.1 bt287.2.2.2).bind fun t296 => (if t296 = 0 then (if bt287.1 = bt273.2.1 then (if bt287.2.1 = bt273.1 then ((mat_Matrix_Turn.f k bt287.1 bt287.2.1 bt287.2.2.1 bt287.2.2.2).bind fun bt297 => ((mat_Matrix_Same.f k bt297.1 bt297.2.1 bt297.2.2.1 bt297.2.2.2 bt273.1 bt273.2.1 bt273.2.2.1 bt273.2.2.2).bind fun t303 => (gimballaw09_MatCopies.j0 k a0 a1 a2 l3 a4 a5 (!t303) bt273.1 bt273.2.1 bt273.2.2.1 bt273.2.2.2 bt280.1 bt280.2.1 bt280.2.2.1 bt280.2.2.2 bt287.1 bt287.2.1 bt287.2.2.1 bt287.2.2.2))) else (gimballaw09_MatCopies.j0 k a0 a1 a2 l3 a4 a5 true bt273.1 bt273.2.1 bt273.2.2.1 bt273.2.2.2 bt280.1 bt280.2.1 bt280.2.2.1 bt280.2.2.2 bt287.1 bt287.2.1 bt287.2.2.1 bt287.2.2.2)) else (gimballaw09_MatCopies.j0 k a0 a1 a2 l3 a4 a5 true bt273.1 bt273.2.1 bt273.2.2.1 bt273.2.2.2 bt280.1 bt280.2.1 bt280.2.2.1 bt280.2.2.2 bt287.1 bt287.2.1 bt287.2.2.1 bt287.2.2.2)) else (gimballaw09_MatCopies.j0 k a0 a1 a2 l3 a4 a5 true bt273.1 bt273.2.1 bt273.2.2.1 bt273.2.2.2 bt280.1 bt280.2.1 bt280.2.2.1 bt280.2.2.2 bt287.1 bt287.2.1 bt287.2.2.1 bt287.2.2.2))) else (gimballaw09_MatCopies.j0 k a0 a1 a2 l3 a4 a5 true bt273.1 bt273.2.1 bt273.2.2.1 bt273.2.2.2 bt280.1 bt280.2.1 bt280.2.2.1 bt280.2.2.2 bt287.1 bt287.2.1 bt287.2.2.1 bt287.2.2.2))) else (gimballaw09_MatCopies.j0 k a0 a1 a2 l3 a4 a5 true bt273.1 bt273.2.1 bt273.2.2.1 bt273.2.2.2 bt280.1 bt280.2.1 bt280.2.2.1 bt280.2.2.2 bt287.1 bt287.2.1 bt287.2.2.1 bt287.2.2.2)) else (gimballaw09_MatCopies.j0 k a0 a1 a2 l3 a4 a5 true bt273.1 bt273.2.1 bt273.2.2.1 bt273.2.2.2 bt280.1 bt280.2.1 bt280.2.2.1 bt280.2.2.2 bt287.1 bt287.2.1 bt287.2.2.1 bt287.2.2.2))))))) else (some false))) = some r := h
 clear h
 obtain ⟨t272, A70, H⟩ := Option.bind_eq_some_iff.mp H
 (try dsimp -simprocs only at H)
 have A7 := Aside0.mk A70
 clear A70
 by_cases c8 : t272 = true
 rotate_left
 ·
  replace c8 := Bool.eq_false_iff.mpr c8
  subst c8
  rw [if_neg (show ¬ (false = true) by decide)] at H
  rw [hLW] at H
  exact absurd H (by simp)

 subst c8
 rw [if_pos rfl] at H
 by_cases c9 : (l3.length : Int) > 100
 ·
  rw [if_pos c9] at H
  have c9b0 : decide (100 < (l3.length : Int)) = true := decide_eq_true c9
  have c9b1 : decide (100 < l3.length) = true := decide_eq_true (by omega)
  clear c9
  obtain rfl := Option.some.inj H
  go_enter Try.func5, Try.ntmps5
  go_wp2_with (first | ((with_reducible refine gate_callee (f := 7) rfl ?_); refine goesL_ (some 28) rfl rfl Try.func7 (by kernel_rfl) rfl #[] rfl ga ?_; (with_reducible refine (gimballaw09_head.calls k  true _ A7.out).mono ?_); rintro e w10 ⟨rfl, hb⟩; refine ⟨_, rfl, ?_⟩; refine ax1 (below_step bel hb) ?_; clear HB; intro HB; (try clear hb)))
  go_ret
  exact ⟨er, bel⟩
 ·
  rw [if_neg c9] at H
  have c9b0 : decide (100 < (l3.length : Int)) = false := decide_eq_false c9
  have c9b1 : decide (100 < l3.length) = false := decide_eq_false (by omega)
  clear c9
  obtain ⟨⟨t273, t274, t275, t276⟩, A110, H⟩ := Option.bind_eq_some_iff.mp H
  (try dsimp -simprocs only at H)
  have A11 := Aside0.mk A110
  clear A110
  obtain ⟨⟨t280, t281, t282, t283⟩, A120, H⟩ := Option.bind_eq_some_iff.mp H
  (try dsimp -simprocs only at H)
  have A12 := Aside0.mk A120
  clear A120
  obtain ⟨⟨t287, t288, t289, t290⟩, A130, H⟩ := Option.bind_eq_some_iff.mp H
  (try dsimp -simprocs only at H)
  have A13 := Aside0.mk A130
  clear A130
  have HC14 := Aside0.mk H
  clear H
  go_enter Try.func5, Try.ntmps5
  go_upto_region 8 with (first | ((with_reducible refine gate_callee (f := 7) rfl ?_); refine goesL_ (some 28) rfl rfl Try.func7 (by kernel_rfl) rfl #[] rfl ga ?_; (with_reducible refine (gimballaw09_head.calls k  true _ A7.out).mono ?_); rintro e w15 ⟨rfl, hb⟩; refine ⟨_, rfl, ?_⟩; refine ax1 (below_step bel hb) ?_; clear HB; intro HB; (try clear hb)) | ((with_reducible refine gate_callee (f := 8) rfl ?_); refine goesL_ (some 37) rfl rfl Try.func8 (by kernel_rfl) rfl #[.int .i64 a0, .int .i64 a1, .int .i64 a2, .slice A3 l3.length c3] rfl ga ?_; (with_reducible refine (gimballaw09_Made.calls k a0 a1 a2 _ _ l3 t273 t274 t275 t276 _ ?side1 ?side2 A11.out).mono ?_); (case side1 => repeat (first | exact (Kd.C_below HR3.out HB.out) | (with_reducible refine Kd.C_alloc ?_ _) | (with_reducible refine Kd.C_drewN ?_ _) | (with_reducible refine Kd.C_drew ?_))); (case side2 => exact HC3.out); rintro e w16 ⟨v277, rfl, ho0, hb⟩; refine ⟨_, rfl, ?_⟩; refine ax2 (Kd.R_lower ho0 (below_size bel)) (below_step bel hb) ?_; clear HB; intro HO278 HB; (try clear hb); (try clear ho0)) | ((with_reducible refine gate_dst (N := 13) rfl ?_); refine gbox (N := 13) (cs := #[.int .i64 0, .int .i64 0, .int .i64 0, .slice none 0 0]) (t := 25) ?_; intro gb279 hg w17 hbox hb; refine ax5 (Kd.R_below (kr HO278) hb) (below_step bel hb) hbox ((ge hg : w.heap.size ≤ gb279)) ((ge hg : w.heap.size ≤ gb279)) ?_; clear HO278; clear HB; intro HO278 HB BK279 GW279 GE279; clear hb hbox hg; have hcz18_0 := bc BK279 0 rfl; have hcz18_1 := bc BK279 1 rfl; have hcz18_2 := bc BK279 2 rfl; have hcz18_3 := bc BK279 3 rfl; have hfz18_0 := blk_frozen BK279.out 0; have hfz18_1 := blk_frozen BK279.out 1; have hfz18_2 := blk_frozen BK279.out 2; have hfz18_3 := blk_frozen BK279.out 3; obtain ⟨Ao19, co19, eo19⟩ := Kd.R_slice HO278.out; subst eo19) | ((with_reducible refine gate_callee (f := 15) rfl ?_); refine goesL_ (some 39) rfl rfl Try.func15 (by kernel_rfl) rfl #[.agg #[.int .i64 t273, .int .i64 t274, .int .i64 t275, .slice Ao19 t276.length co19]] rfl ga ?_; (with_reducible refine (mat_Matrix_Clone.calls k t273 t274 t275 _ _ t276 t280 t281 t282 t283 _ ?side1 ?side2 A12.out).mono ?_); (case side1 => refine (Kd.R_reads' (e := 30) (base := w.heap.size) (ok := fun k_ => True) (n := t276.length) (c := co19) ?_).2.2; exact (by (with_reducible repeat (first | apply Kd.R_alloc | apply Kd.R_drewN | apply Kd.R_drew)); exact (Kd.R_mono (Kd.R_far (p := ⟨gb279, 3, none⟩) (Kd.R_far (p := ⟨gb279, 2, none⟩) (Kd.R_far (p := ⟨gb279, 1, none⟩) (Kd.R_far (p := ⟨gb279, 0, none⟩) (Kd.R_types HO278.out BK279.out (by decide)) (fun _ hk => hk.2) (.int .i64 t273)) (fun _ hk => hk.2) (.int .i64 t274)) (fun _ hk => hk.2) (.int .i64 t275)) (fun _ hk => hk.2) (.slice Ao19 t276.length co19)) (fun _ h_ => h_.1)))); (case side2 => exact (Kd.R_reads' HO278.out).2.1); rintro e w20 ⟨v284, rfl, ho0, hb⟩; refine ⟨_, rfl, ?_⟩; refine ax4 (Kd.R_elder' (by (with_reducible repeat (first | apply Kd.R_alloc | apply Kd.R_drewN | apply Kd.R_drew)); exact (Kd.R_mono (Kd.R_far (p := ⟨gb279, 3, none⟩) (Kd.R_far (p := ⟨gb279, 2, none⟩) (Kd.R_far (p := ⟨gb279, 1, none⟩) (Kd.R_far (p := ⟨gb279, 0, none⟩) (Kd.R_types HO278.out BK279.out (by decide)) (fun _ hk => hk.2) (.int .i64 t273)) (fun _ hk => hk.2) (.int .i64 t274)) (fun _ hk => hk.2) (.int .i64 t275)) (fun _ hk => hk.2) (.slice Ao19 t276.length co19)) (fun _ h_ => h_.1))) (Kd.R_base ho0) hb) (Kd.R_lower (Kd.R_new' ho0 (Kd.R_lt (by (with_reducible repeat (first | apply Kd.R_alloc | apply Kd.R_drewN | apply Kd.R_drew)); exact (Kd.R_mono (Kd.R_far (p := ⟨gb279, 3, none⟩) (Kd.R_far (p := ⟨gb279, 2, none⟩) (Kd.R_far (p := ⟨gb279, 1, none⟩) (Kd.R_far (p := ⟨gb279, 0, none⟩) (Kd.R_types HO278.out BK279.out (by decide)) (fun _ hk => hk.2) (.int .i64 t273)) (fun _ hk => hk.2) (.int .i64 t274)) (fun _ hk => hk.2) (.int .i64 t275)) (fun _ hk => hk.2) (.slice Ao19 t276.length co19)) (fun _ h_ => h_.1))))) (below_size bes)) (blk_below (g := gb279) (o := .cells #[.int .i64 t273, .int .i64 t274, .int .i64 t275, .slice Ao19 t276.length co19] 25 (0, 0)) (by (with_reducible repeat (first | refine blk_drewN ?_ _ | refine blk_drew ?_ | refine blk_alloc ?_ _)); refine blk_put (cs := #[.int .i64 t273, .int .i64 t274, .int .i64 t275, .slice none 0 0]) ?_ 3 _ rfl; (with_reducible repeat (first | refine blk_drewN ?_ _ | refine blk_drew ?_ | refine blk_alloc ?_ _)); refine blk_put (cs := #[.int .i64 t273, .int .i64 t274, .int .i64 0, .slice none 0 0]) ?_ 2 _ rfl; (with_reducible repeat (first | refine blk_drewN ?_ _ | refine blk_drew ?_ | refine blk_alloc ?_ _)); refine blk_put (cs := #[.int .i64 t273, .int .i64 0, .int .i64 0, .slice none 0 0]) ?_ 1 _ rfl; (with_reducible repeat (first | refine blk_drewN ?_ _ | refine blk_drew ?_ | refine blk_alloc ?_ _)); refine blk_put (cs := #[.int .i64 0, .int .i64 0, .int .i64 0, .slice none 0 0]) ?_ 0 _ rfl; (with_reducible repeat (first | refine blk_drewN ?_ _ | refine blk_drew ?_ | refine blk_alloc ?_ _)); exact BK279.out) hb) (below_step bes hb) ?_; clear HO278; clear BK279; clear HB; intro HO278 HO285 BK279 HB; (try clear hb); (try clear ho0)) | ((with_reducible refine gate_dst (N := 14) rfl ?_); refine gbox (N := 14) (cs := #[.int .i64 0, .int .i64 0, .int .i64 0, .slice none 0 0]) (t := 25) ?_; intro gb286 hg w21 hbox hb; refine ax9 (Kd.R_below (kr HO278) hb) (Kd.R_below (kr HO285) hb) (bb BK279 hb) (below_step bes hb) hbox ((ge hg : w.heap.size ≤ gb286)) ((ge hg : w.heap.size ≤ gb286)) (nl hg BK279) (ng hg BK279) ?_; clear HO278; clear HO285; clear BK279; clear HB; intro HO278 HO285 BK279 HB BK286 GW286 GE286 NB279_286 NB286_279; clear hb hbox hg; have hnb22 := NB286_279.out; have hnc22 := NB279_286.out; have hcz23_0 := bc BK286 0 rfl; have hcz23_1 := bc BK286 1 rfl; have hcz23_2 := bc BK286 2 rfl; have hcz23_3 := bc BK286 3 rfl; have hfz23_0 := blk_frozen BK286.out 0; have hfz23_1 := blk_frozen BK286.out 1; have hfz23_2 := blk_frozen BK286.out 2; have hfz23_3 := blk_frozen BK286.out 3; obtain ⟨Ao24, co24, eo24⟩ := Kd.R_slice HO285.out; subst eo24; have hcz25_0 := bc BK279 0 rfl; have hcz25_1 := bc BK279 1 rfl; have hcz25_2 := bc BK279 2 rfl; have hcz25_3 := bc BK279 3 rfl; have hfz25_0 := blk_frozen BK279.out 0; have hfz25_1 := blk_frozen BK279.out 1; have hfz25_2 := blk_frozen BK279.out 2; have hfz25_3 := blk_frozen BK279.out 3) | ((with_reducible refine gate_callee (f := 16) rfl ?_); refine goesL_ (some 41) rfl rfl Try.func16 (by kernel_rfl) rfl #[.agg #[.int .i64 t273, .int .i64 t274, .int .i64 t275, .slice Ao19 t276.length co19]] rfl ga ?_; (with_reducible refine (mat_Matrix_Turn.calls k t273 t274 t275 _ _ t276 t287 t288 t289 t290 _ ?side1 ?side2 A13.out).mono ?_); (case side1 => refine (Kd.R_reads' (e := 30) (base := w.heap.size) (ok := fun k_ => (True ∧ some k_ ≠ (.slice Ao24 t283.length co24 : Value).ownBlock)) (n := t276.length) (c := co19) ?_).2.2; exact (by (with_reducible repeat (first | apply Kd.R_alloc | apply Kd.R_drewN | apply Kd.R_drew)); exact (Kd.R_mono (Kd.R_far (p := ⟨gb286, 3, none⟩) (Kd.R_far (p := ⟨gb286, 2, none⟩) (Kd.R_far (p := ⟨gb286, 1, none⟩) (Kd.R_far (p := ⟨gb286, 0, none⟩) (Kd.R_types HO278.out BK286.out (by decide)) (fun _ hk => hk.2) (.int .i64 t280)) (fun _ hk => hk.2) (.int .i64 t281)) (fun _ hk => hk.2) (.int .i64 t282)) (fun _ hk => hk.2) (.slice Ao24 t283.length co24)) (fun _ h_ => h_.1)))); (case side2 => exact (Kd.R_reads' HO278.out).2.1); rintro e w26 ⟨v291, rfl, ho0, hb⟩; refine ⟨_, rfl, ?_⟩; refine ax6 (Kd.R_elder' (by (with_reducible repeat (first | apply Kd.R_alloc | apply Kd.R_drewN | apply Kd.R_drew)); exact (Kd.R_mono (Kd.R_far (p := ⟨gb286, 3, none⟩) (Kd.R_far (p := ⟨gb286, 2, none⟩) (Kd.R_far (p := ⟨gb286, 1, none⟩) (Kd.R_far (p := ⟨gb286, 0, none⟩) (Kd.R_types HO278.out BK286.out (by decide)) (fun _ hk => hk.2) (.int .i64 t280)) (fun _ hk => hk.2) (.int .i64 t281)) (fun _ hk => hk.2) (.int .i64 t282)) (fun _ hk => hk.2) (.slice Ao24 t283.length co24)) (fun _ h_ => h_.1))) (Kd.R_base ho0) hb) (Kd.R_elder' (by (with_reducible repeat (first | apply Kd.R_alloc | apply Kd.R_drewN | apply Kd.R_drew)); exact (Kd.R_mono (Kd.R_far (p := ⟨gb286, 3, none⟩) (Kd.R_far (p := ⟨gb286, 2, none⟩) (Kd.R_far (p := ⟨gb286, 1, none⟩) (Kd.R_far (p := ⟨gb286, 0, none⟩) (Kd.R_types HO285.out BK286.out (by decide)) (fun _ hk => hk.2) (.int .i64 t280)) (fun _ hk => hk.2) (.int .i64 t281)) (fun _ hk => hk.2) (.int .i64 t282)) (fun _ hk => hk.2) (.slice Ao24 t283.length co24)) (fun _ h_ => h_.1))) (Kd.R_base ho0) hb) (Kd.R_lower (Kd.R_new' (Kd.R_new' ho0 (Kd.R_lt (by (with_reducible repeat (first | apply Kd.R_alloc | apply Kd.R_drewN | apply Kd.R_drew)); exact (Kd.R_mono (Kd.R_far (p := ⟨gb286, 3, none⟩) (Kd.R_far (p := ⟨gb286, 2, none⟩) (Kd.R_far (p := ⟨gb286, 1, none⟩) (Kd.R_far (p := ⟨gb286, 0, none⟩) (Kd.R_types HO278.out BK286.out (by decide)) (fun _ hk => hk.2) (.int .i64 t280)) (fun _ hk => hk.2) (.int .i64 t281)) (fun _ hk => hk.2) (.int .i64 t282)) (fun _ hk => hk.2) (.slice Ao24 t283.length co24)) (fun _ h_ => h_.1))))) (Kd.R_lt (by (with_reducible repeat (first | apply Kd.R_alloc | apply Kd.R_drewN | apply Kd.R_drew)); exact (Kd.R_mono (Kd.R_far (p := ⟨gb286, 3, none⟩) (Kd.R_far (p := ⟨gb286, 2, none⟩) (Kd.R_far (p := ⟨gb286, 1, none⟩) (Kd.R_far (p := ⟨gb286, 0, none⟩) (Kd.R_types HO285.out BK286.out (by decide)) (fun _ hk => hk.2) (.int .i64 t280)) (fun _ hk => hk.2) (.int .i64 t281)) (fun _ hk => hk.2) (.int .i64 t282)) (fun _ hk => hk.2) (.slice Ao24 t283.length co24)) (fun _ h_ => h_.1))))) (below_size bes)) (blk_below (g := gb279) (o := .cells #[.int .i64 t273, .int .i64 t274, .int .i64 t275, .slice Ao19 t276.length co19] 25 (0, 0)) (by (with_reducible repeat (first | refine blk_drewN ?_ _ | refine blk_drew ?_ | refine blk_alloc ?_ _)); refine blk_far ?_ NB279_286.out _; (with_reducible repeat (first | refine blk_drewN ?_ _ | refine blk_drew ?_ | refine blk_alloc ?_ _)); refine blk_far ?_ NB279_286.out _; (with_reducible repeat (first | refine blk_drewN ?_ _ | refine blk_drew ?_ | refine blk_alloc ?_ _)); refine blk_far ?_ NB279_286.out _; (with_reducible repeat (first | refine blk_drewN ?_ _ | refine blk_drew ?_ | refine blk_alloc ?_ _)); refine blk_far ?_ NB279_286.out _; (with_reducible repeat (first | refine blk_drewN ?_ _ | refine blk_drew ?_ | refine blk_alloc ?_ _)); exact BK279.out) hb) (blk_below (g := gb286) (o := .cells #[.int .i64 t280, .int .i64 t281, .int .i64 t282, .slice Ao24 t283.length co24] 25 (0, 0)) (by (with_reducible repeat (first | refine blk_drewN ?_ _ | refine blk_drew ?_ | refine blk_alloc ?_ _)); refine blk_put (cs := #[.int .i64 t280, .int .i64 t281, .int .i64 t282, .slice none 0 0]) ?_ 3 _ rfl; (with_reducible repeat (first | refine blk_drewN ?_ _ | refine blk_drew ?_ | refine blk_alloc ?_ _)); refine blk_put (cs := #[.int .i64 t280, .int .i64 t281, .int .i64 0, .slice none 0 0]) ?_ 2 _ rfl; (with_reducible repeat (first | refine blk_drewN ?_ _ | refine blk_drew ?_ | refine blk_alloc ?_ _)); refine blk_put (cs := #[.int .i64 t280, .int .i64 0, .int .i64 0, .slice none 0 0]) ?_ 1 _ rfl; (with_reducible repeat (first | refine blk_drewN ?_ _ | refine blk_drew ?_ | refine blk_alloc ?_ _)); refine blk_put (cs := #[.int .i64 0, .int .i64 0, .int .i64 0, .slice none 0 0]) ?_ 0 _ rfl; (with_reducible repeat (first | refine blk_drewN ?_ _ | refine blk_drew ?_ | refine blk_alloc ?_ _)); exact BK286.out) hb) (below_step bes hb) ?_; clear HO278; clear HO285; clear BK279; clear BK286; clear HB; intro HO278 HO285 HO292 BK279 BK286 HB; (try clear hb); (try clear ho0)) | ((with_reducible refine gate_dst (N := 15) rfl ?_); refine gbox (N := 15) (cs := #[.int .i64 0, .int .i64 0, .int .i64 0, .slice none 0 0]) (t := 25) ?_; intro gb293 hg w27 hbox hb; refine ax13 (Kd.R_below (kr HO278) hb) (Kd.R_below (kr HO285) hb) (Kd.R_below (kr HO292) hb) (bb BK279 hb) (bb BK286 hb) (below_step bes hb) hbox ((ge hg : w.heap.size ≤ gb293)) ((ge hg : w.heap.size ≤ gb293)) (nl hg BK279) (ng hg BK279) (nl hg BK286) (ng hg BK286) ?_; clear HO278; clear HO285; clear HO292; clear BK279; clear BK286; clear HB; intro HO278 HO285 HO292 BK279 BK286 HB BK293 GW293 GE293 NB279_293 NB293_279 NB286_293 NB293_286; clear hb hbox hg; have hnb28 := NB293_279.out; have hnc28 := NB279_293.out; have hnb29 := NB293_286.out; have hnc29 := NB286_293.out; have hcz30_0 := bc BK293 0 rfl; have hcz30_1 := bc BK293 1 rfl; have hcz30_2 := bc BK293 2 rfl; have hcz30_3 := bc BK293 3 rfl; have hfz30_0 := blk_frozen BK293.out 0; have hfz30_1 := blk_frozen BK293.out 1; have hfz30_2 := blk_frozen BK293.out 2; have hfz30_3 := blk_frozen BK293.out 3; obtain ⟨Ao31, co31, eo31⟩ := Kd.R_slice HO292.out; subst eo31))
  (try simp only [Act.put, sa0, sa1, sa2])
  go_cut [83] (fun v83 wc => ∃ (kq : Nat) (x83_13 : Bool), v83 = .bool x83_13 ∧ Aside0 (gimballaw09_MatCopies.j0 kq a0 a1 a2 l3 a4 a5 x83_13 t273 t274 t275 t276 t280 t281 t282 t283 t287 t288 t289 t290 = some r) ∧ Aside0 (kq ≤ k) ∧ Aside0 (Kd.R (Kd.int .u64) 30 wc w.heap.size (fun k_ => some k_ ≠ ((.slice Ao24 t283.length co24) : Value).ownBlock ∧ some k_ ≠ ((.slice Ao31 t290.length co31) : Value).ownBlock) (.slice Ao19 t276.length co19) t276) ∧ Aside0 (Kd.R (Kd.int .u64) 30 wc w.heap.size (fun k_ => some k_ ≠ ((.slice Ao19 t276.length co19) : Value).ownBlock ∧ some k_ ≠ ((.slice Ao31 t290.length co31) : Value).ownBlock) (.slice Ao24 t283.length co24) t283) ∧ Aside0 (Kd.R (Kd.int .u64) 30 wc w.heap.size (fun k_ => some k_ ≠ ((.slice Ao19 t276.length co19) : Value).ownBlock ∧ some k_ ≠ ((.slice Ao24 t283.length co24) : Value).ownBlock) (.slice Ao31 t290.length co31) t290) ∧ Aside0 (wc.heap[gb279]? = some (.cells #[.int .i64 t273, .int .i64 t274, .int .i64 t275, (.slice Ao19 t276.length co19)] 25 (0, 0))) ∧ Aside0 (wc.heap[gb286]? = some (.cells #[.int .i64 t280, .int .i64 t281, .int .i64 t282, (.slice Ao24 t283.length co24)] 25 (0, 0))) ∧ Aside0 (wc.heap[gb293]? = some (.cells #[.int .i64 t287, .int .i64 t288, .int .i64 t289, (.slice Ao31 t290.length co31)] 25 (0, 0))) ∧ Aside0 (Below w.heap.size w wc))
  case first => as_aux_lemma =>
   have H := HC14.out
   clear HC14
   obtain ⟨t294, A320, H⟩ := Option.bind_eq_some_iff.mp H
   (try dsimp -simprocs only at H)
   have A32 := Aside0.mk A320
   clear A320
   by_cases c33 : t294 = true
   rotate_left
   ·
    replace c33 := Bool.eq_false_iff.mpr c33
    subst c33
    rw [if_neg (show ¬ (false = true) by decide)] at H
    rw [hLW] at H
    exact absurd H (by cases k <;> simp [gimballaw09_MatCopies.j0])
   subst c33
   rw [if_pos rfl] at H
   by_cases c34 : t282 = t281
   rotate_left
   ·
    rw [if_neg c34] at H
    have c34b0 : (t282 == t281) = false := beq_eq_false_iff_ne.mpr c34
    have c34b1 : (t282 != t281) = true := bne_iff_ne.mpr c34
    (first | rw [c34b0] | (simp only [i64_w, i32_w]; rw [c34b0]) | skip)
    rw [hLW] at H
    exact absurd H (by cases k <;> simp [gimballaw09_MatCopies.j0])
   rw [if_pos c34] at H
   have c34b0 : (t282 == t281) = true := beq_iff_eq.mpr c34
   have c34b1 : (t282 != t281) = false := bne_eq_false_iff_eq.mpr c34
   clear c34
   (first | rw [c34b0] | (simp only [i64_w, i32_w]; rw [c34b0]) | skip)
   obtain ⟨t295, A350, H⟩ := Option.bind_eq_some_iff.mp H
   (try dsimp -simprocs only at H)
   have A35 := Aside0.mk A350
   clear A350
   by_cases c36 : t295 = 0
   rotate_left
   ·
    rw [if_neg c36] at H
    have c36b0 : (t295 == 0) = false := beq_eq_false_iff_ne.mpr c36
    have c36b1 : (t295 != 0) = true := bne_iff_ne.mpr c36
    rw [hLW] at H
    exact absurd H (by cases k <;> simp [gimballaw09_MatCopies.j0])
   rw [if_pos c36] at H
   have c36b0 : (t295 == 0) = true := beq_iff_eq.mpr c36
   have c36b1 : (t295 != 0) = false := bne_eq_false_iff_eq.mpr c36
   clear c36
   obtain ⟨t296, A370, H⟩ := Option.bind_eq_some_iff.mp H
   (try dsimp -simprocs only at H)
   have A37 := Aside0.mk A370
   clear A370
   by_cases c38 : t296 = 0
   rotate_left
   ·
    rw [if_neg c38] at H
    have c38b0 : (t296 == 0) = false := beq_eq_false_iff_ne.mpr c38
    have c38b1 : (t296 != 0) = true := bne_iff_ne.mpr c38
    rw [hLW] at H
    exact absurd H (by cases k <;> simp [gimballaw09_MatCopies.j0])
   rw [if_pos c38] at H
   have c38b0 : (t296 == 0) = true := beq_iff_eq.mpr c38
   have c38b1 : (t296 != 0) = false := bne_eq_false_iff_eq.mpr c38
   clear c38
   by_cases c39 : t287 = t274
   rotate_left
   ·
    rw [if_neg c39] at H
    have c39b0 : (t287 == t274) = false := beq_eq_false_iff_ne.mpr c39
    have c39b1 : (t287 != t274) = true := bne_iff_ne.mpr c39
    rw [hLW] at H
    exact absurd H (by cases k <;> simp [gimballaw09_MatCopies.j0])
   rw [if_pos c39] at H
   have c39b0 : (t287 == t274) = true := beq_iff_eq.mpr c39
   have c39b1 : (t287 != t274) = false := bne_eq_false_iff_eq.mpr c39
   clear c39
   by_cases c40 : t288 = t273
   rotate_left
   ·
    rw [if_neg c40] at H
    have c40b0 : (t288 == t273) = false := beq_eq_false_iff_ne.mpr c40
    have c40b1 : (t288 != t273) = true := bne_iff_ne.mpr c40
    rw [hLW] at H
    exact absurd H (by cases k <;> simp [gimballaw09_MatCopies.j0])
   rw [if_pos c40] at H
   have c40b0 : (t288 == t273) = true := beq_iff_eq.mpr c40
   have c40b1 : (t288 != t273) = false := bne_eq_false_iff_eq.mpr c40
   clear c40
   obtain ⟨⟨t297, t298, t299, t300⟩, A410, H⟩ := Option.bind_eq_some_iff.mp H
   (try dsimp -simprocs only at H)
   have A41 := Aside0.mk A410
   clear A410
   obtain ⟨t303, A420, H⟩ := Option.bind_eq_some_iff.mp H
   (try dsimp -simprocs only at H)
   have A42 := Aside0.mk A420
   clear A420
   have H' := Aside0.mk H
   clear H
   try go_wp2
   have n0_ : Aside0 (Kd.R (Kd.int .u64) 30 ((((w27.setCell ⟨gb293, 0, none⟩ (.int .i64 t287)).setCell ⟨gb293, 1, none⟩ (.int .i64 t288)).setCell ⟨gb293, 2, none⟩ (.int .i64 t289)).setCell ⟨gb293, 3, none⟩ (.slice Ao31 t290.length co31)) w.heap.size (fun k_ => some k_ ≠ (.slice Ao24 t283.length co24 : Value).ownBlock ∧ some k_ ≠ (.slice Ao31 t290.length co31 : Value).ownBlock) (.slice Ao19 t276.length co19) t276) := ⟨by (with_reducible repeat (first | apply Kd.R_alloc | apply Kd.R_drewN | apply Kd.R_drew)); exact Kd.R_mono (Kd.R_far (p := ⟨gb293, 3, none⟩) (Kd.R_far (p := ⟨gb293, 2, none⟩) (Kd.R_far (p := ⟨gb293, 1, none⟩) (Kd.R_far (p := ⟨gb293, 0, none⟩) (Kd.R_types HO278.out BK293.out (by decide)) (fun _ hk => hk.2) (.int .i64 t287)) (fun _ hk => hk.2) (.int .i64 t288)) (fun _ hk => hk.2) (.int .i64 t289)) (fun _ hk => hk.2) (.slice Ao31 t290.length co31)) (fun _ hk => ⟨hk.1.1.2, hk.1.2⟩)⟩
   have n1_ : Aside0 (Kd.R (Kd.int .u64) 30 ((((w27.setCell ⟨gb293, 0, none⟩ (.int .i64 t287)).setCell ⟨gb293, 1, none⟩ (.int .i64 t288)).setCell ⟨gb293, 2, none⟩ (.int .i64 t289)).setCell ⟨gb293, 3, none⟩ (.slice Ao31 t290.length co31)) w.heap.size (fun k_ => some k_ ≠ (.slice Ao19 t276.length co19 : Value).ownBlock ∧ some k_ ≠ (.slice Ao31 t290.length co31 : Value).ownBlock) (.slice Ao24 t283.length co24) t283) := ⟨by (with_reducible repeat (first | apply Kd.R_alloc | apply Kd.R_drewN | apply Kd.R_drew)); exact Kd.R_mono (Kd.R_far (p := ⟨gb293, 3, none⟩) (Kd.R_far (p := ⟨gb293, 2, none⟩) (Kd.R_far (p := ⟨gb293, 1, none⟩) (Kd.R_far (p := ⟨gb293, 0, none⟩) (Kd.R_types HO285.out BK293.out (by decide)) (fun _ hk => hk.2) (.int .i64 t287)) (fun _ hk => hk.2) (.int .i64 t288)) (fun _ hk => hk.2) (.int .i64 t289)) (fun _ hk => hk.2) (.slice Ao31 t290.length co31)) (fun _ hk => ⟨hk.1.1.2, hk.1.2⟩)⟩
   have n2_ : Aside0 (Kd.R (Kd.int .u64) 30 ((((w27.setCell ⟨gb293, 0, none⟩ (.int .i64 t287)).setCell ⟨gb293, 1, none⟩ (.int .i64 t288)).setCell ⟨gb293, 2, none⟩ (.int .i64 t289)).setCell ⟨gb293, 3, none⟩ (.slice Ao31 t290.length co31)) w.heap.size (fun k_ => some k_ ≠ (.slice Ao19 t276.length co19 : Value).ownBlock ∧ some k_ ≠ (.slice Ao24 t283.length co24 : Value).ownBlock) (.slice Ao31 t290.length co31) t290) := ⟨by (with_reducible repeat (first | apply Kd.R_alloc | apply Kd.R_drewN | apply Kd.R_drew)); exact Kd.R_mono (Kd.R_far (p := ⟨gb293, 3, none⟩) (Kd.R_far (p := ⟨gb293, 2, none⟩) (Kd.R_far (p := ⟨gb293, 1, none⟩) (Kd.R_far (p := ⟨gb293, 0, none⟩) (Kd.R_types HO292.out BK293.out (by decide)) (fun _ hk => hk.2) (.int .i64 t287)) (fun _ hk => hk.2) (.int .i64 t288)) (fun _ hk => hk.2) (.int .i64 t289)) (fun _ hk => hk.2) (.slice Ao31 t290.length co31)) (fun _ hk => ⟨hk.1.1.2, hk.1.2⟩)⟩
   have n3_ : Aside0 (((((w27.setCell ⟨gb293, 0, none⟩ (.int .i64 t287)).setCell ⟨gb293, 1, none⟩ (.int .i64 t288)).setCell ⟨gb293, 2, none⟩ (.int .i64 t289)).setCell ⟨gb293, 3, none⟩ (.slice Ao31 t290.length co31)).heap[gb279]? = some (.cells #[.int .i64 t273, .int .i64 t274, .int .i64 t275, .slice Ao19 t276.length co19] 25 (0, 0))) := ⟨by (with_reducible repeat (first | refine blk_drewN ?_ _ | refine blk_drew ?_ | refine blk_alloc ?_ _)); refine blk_far ?_ NB279_293.out _; (with_reducible repeat (first | refine blk_drewN ?_ _ | refine blk_drew ?_ | refine blk_alloc ?_ _)); refine blk_far ?_ NB279_293.out _; (with_reducible repeat (first | refine blk_drewN ?_ _ | refine blk_drew ?_ | refine blk_alloc ?_ _)); refine blk_far ?_ NB279_293.out _; (with_reducible repeat (first | refine blk_drewN ?_ _ | refine blk_drew ?_ | refine blk_alloc ?_ _)); refine blk_far ?_ NB279_293.out _; (with_reducible repeat (first | refine blk_drewN ?_ _ | refine blk_drew ?_ | refine blk_alloc ?_ _)); exact BK279.out⟩
   have n4_ : Aside0 (((((w27.setCell ⟨gb293, 0, none⟩ (.int .i64 t287)).setCell ⟨gb293, 1, none⟩ (.int .i64 t288)).setCell ⟨gb293, 2, none⟩ (.int .i64 t289)).setCell ⟨gb293, 3, none⟩ (.slice Ao31 t290.length co31)).heap[gb286]? = some (.cells #[.int .i64 t280, .int .i64 t281, .int .i64 t282, .slice Ao24 t283.length co24] 25 (0, 0))) := ⟨by (with_reducible repeat (first | refine blk_drewN ?_ _ | refine blk_drew ?_ | refine blk_alloc ?_ _)); refine blk_far ?_ NB286_293.out _; (with_reducible repeat (first | refine blk_drewN ?_ _ | refine blk_drew ?_ | refine blk_alloc ?_ _)); refine blk_far ?_ NB286_293.out _; (with_reducible repeat (first | refine blk_drewN ?_ _ | refine blk_drew ?_ | refine blk_alloc ?_ _)); refine blk_far ?_ NB286_293.out _; (with_reducible repeat (first | refine blk_drewN ?_ _ | refine blk_drew ?_ | refine blk_alloc ?_ _)); refine blk_far ?_ NB286_293.out _; (with_reducible repeat (first | refine blk_drewN ?_ _ | refine blk_drew ?_ | refine blk_alloc ?_ _)); exact BK286.out⟩
   have n5_ : Aside0 (((((w27.setCell ⟨gb293, 0, none⟩ (.int .i64 t287)).setCell ⟨gb293, 1, none⟩ (.int .i64 t288)).setCell ⟨gb293, 2, none⟩ (.int .i64 t289)).setCell ⟨gb293, 3, none⟩ (.slice Ao31 t290.length co31)).heap[gb293]? = some (.cells #[.int .i64 t287, .int .i64 t288, .int .i64 t289, .slice Ao31 t290.length co31] 25 (0, 0))) := ⟨by (with_reducible repeat (first | refine blk_drewN ?_ _ | refine blk_drew ?_ | refine blk_alloc ?_ _)); refine blk_put (cs := #[.int .i64 t287, .int .i64 t288, .int .i64 t289, .slice none 0 0]) ?_ 3 _ rfl; (with_reducible repeat (first | refine blk_drewN ?_ _ | refine blk_drew ?_ | refine blk_alloc ?_ _)); refine blk_put (cs := #[.int .i64 t287, .int .i64 t288, .int .i64 0, .slice none 0 0]) ?_ 2 _ rfl; (with_reducible repeat (first | refine blk_drewN ?_ _ | refine blk_drew ?_ | refine blk_alloc ?_ _)); refine blk_put (cs := #[.int .i64 t287, .int .i64 0, .int .i64 0, .slice none 0 0]) ?_ 1 _ rfl; (with_reducible repeat (first | refine blk_drewN ?_ _ | refine blk_drew ?_ | refine blk_alloc ?_ _)); refine blk_put (cs := #[.int .i64 0, .int .i64 0, .int .i64 0, .slice none 0 0]) ?_ 0 _ rfl; (with_reducible repeat (first | refine blk_drewN ?_ _ | refine blk_drew ?_ | refine blk_alloc ?_ _)); exact BK293.out⟩
   have n6_ : Aside0 (Below w.heap.size w ((((w27.setCell ⟨gb293, 0, none⟩ (.int .i64 t287)).setCell ⟨gb293, 1, none⟩ (.int .i64 t288)).setCell ⟨gb293, 2, none⟩ (.int .i64 t289)).setCell ⟨gb293, 3, none⟩ (.slice Ao31 t290.length co31))) := ⟨bes⟩
   (try clear HO278)
   (try clear HO285)
   (try clear HO292)
   (try clear BK279)
   (try clear BK286)
   (try clear BK293)
   (try clear HB)
   generalize ((((w27.setCell ⟨gb293, 0, none⟩ (.int .i64 t287)).setCell ⟨gb293, 1, none⟩ (.int .i64 t288)).setCell ⟨gb293, 2, none⟩ (.int .i64 t289)).setCell ⟨gb293, 3, none⟩ (.slice Ao31 t290.length co31)) = w43 at n0_ n1_ n2_ n3_ n4_ n5_ n6_ ⊢
   have HO278 := n0_
   have HO285 := n1_
   have HO292 := n2_
   have BK279 := n3_
   have BK286 := n4_
   have BK293 := n5_
   have HB := n6_
   clear n0_ n1_ n2_ n3_ n4_ n5_ n6_
   refine ax7 (Kd.R_drew HO278.out) (Kd.R_drew HO285.out) (Kd.R_drew HO292.out) (blk_drew BK279.out) (blk_drew BK286.out) (blk_drew BK293.out) (below_drew1 HB.out) ?_
   clear HO278 HO285 HO292 BK279 BK286 BK293 HB
   intro HO278 HO285 HO292 BK279 BK286 BK293 HB
   refine start_ (n := 42) (S := fun w' => w'.cell? ⟨gb286, 0, none⟩ = some (.int .i64 t280) ∧ w'.cell? ⟨gb286, 1, none⟩ = some (.int .i64 t281) ∧ w'.cell? ⟨gb286, 2, none⟩ = some (.int .i64 t282) ∧ w'.cell? ⟨gb286, 3, none⟩ = some (.slice Ao24 t283.length co24) ∧ w'.cell? ⟨gb279, 0, none⟩ = some (.int .i64 t273) ∧ w'.cell? ⟨gb279, 1, none⟩ = some (.int .i64 t274) ∧ w'.cell? ⟨gb279, 2, none⟩ = some (.int .i64 t275) ∧ w'.cell? ⟨gb279, 3, none⟩ = some (.slice Ao19 t276.length co19) ∧ w'.cell? ⟨gb293, 0, none⟩ = some (.int .i64 t287) ∧ w'.cell? ⟨gb293, 1, none⟩ = some (.int .i64 t288) ∧ w'.cell? ⟨gb293, 2, none⟩ = some (.int .i64 t289) ∧ w'.cell? ⟨gb293, 3, none⟩ = some (.slice Ao31 t290.length co31)) (ds := []) #[false, false, false, false, false, false, false, false, false, false, false, false, false, false, false, false, false, false, false, false, false, false, false, false, false, false, false, false, false, false, false, false, false, false, false, false, false, false, false, false, false, false] (by kernel_rfl) rfl rfl ⟨(blk_cell BK286.out 0).trans rfl, (blk_cell BK286.out 1).trans rfl, (blk_cell BK286.out 2).trans rfl, (blk_cell BK286.out 3).trans rfl, (blk_cell BK279.out 0).trans rfl, (blk_cell BK279.out 1).trans rfl, (blk_cell BK279.out 2).trans rfl, (blk_cell BK279.out 3).trans rfl, (blk_cell BK293.out 0).trans rfl, (blk_cell BK293.out 1).trans rfl, (blk_cell BK293.out 2).trans rfl, (blk_cell BK293.out 3).trans rfl⟩ (fun hHeld => ?_); refine with_tabW gimballaw09_MatCopies.tab8 gimballaw09_MatCopies.bits8 (fun HT_ HW_ => ?_)
   generalize w43.drew = w44 at HO278 HO285 HO292 BK279 BK286 BK293 HB hHeld ⊢
   refine take_ (i := 0) (N := some 42) (v := ?_) (a' := ?_) #[true, false, false, false, false, false, false, false, false, false, false, false, false, false, false, false, false, false, false, false, false, false, false, false, false, false, false, false, false, false, false, false, false, false, false, false, false, false, false, false, false, false] rfl rfl (take_ofW HT_.out HW_.out (by kernel_rfl)) (fun _ _ _ h => h) (Or.inl ⟨by rfl, ?_⟩) hHeld ?_ ?_
   rotate_left
   ·
    rintro w' ⟨s0, s1, s2, s3, s4, s5, s6, s7, s8, s9, s10, s11⟩
    go_simp
    with_reducible rfl
   rotate_left
   ·
    simp only [Act.put, sa0, sa1, sa2, i64_w, i32_w]
    rfl
   refine take_ (i := 1) (N := some 43) (v := ?_) (a' := ?_) #[true, true, false, false, false, false, false, false, false, false, false, false, false, false, false, false, false, false, false, false, false, false, false, false, false, false, false, false, false, false, false, false, false, false, false, false, false, false, false, false, false, false] rfl rfl (take_ofW HT_.out HW_.out (by kernel_rfl)) (fun _ _ _ h => h) (Or.inl ⟨by rfl, ?_⟩) hHeld ?_ ?_
   rotate_left
   ·
    rintro w' ⟨s0, s1, s2, s3, s4, s5, s6, s7, s8, s9, s10, s11⟩
    go_simp
    with_reducible rfl
   rotate_left
   ·
    simp only [Act.put, sa0, sa1, sa2, i64_w, i32_w]
    rfl
   refine one_ (i := 2) (N := some 44) #[true, true, true, false, false, false, false, false, false, false, false, false, false, false, false, false, false, false, false, false, false, false, false, false, false, false, false, false, false, false, false, false, false, false, false, false, false, false, false, false, false, false] rfl rfl (one_of HT_.out (by kernel_rfl)) (by decide) (fun K hK => ?_)
   refine goes_ Try.func17 (by kernel_rfl) rfl #[.agg #[.int .i64 t280, .int .i64 t281, .int .i64 t282, .slice Ao24 t283.length co24], .agg #[.int .i64 t273, .int .i64 t274, .int .i64 t275, .slice Ao19 t276.length co19]] (by rfl) rfl rfl ga ?_
   with_reducible refine (mat_Matrix_Same.calls k t280 t281 t282 _ _ t283 t273 t274 t275 _ _ t276 true _ ?side1 ?side2 ?side3 ?side4 A32.out).mono ?_
   (case side1 => exact ks HO285)
   (case side2 => exact (Kd.R_reads' HO285.out).2.1)
   (case side3 => exact ks HO278)
   (case side4 => exact (Kd.R_reads' HO278.out).2.1)
   rintro e w45 ⟨rfl, hb⟩
   refine ⟨_, rfl, ?_⟩
   refine ax7 (Kd.R_below (kr HO278) hb) (Kd.R_below (kr HO285) hb) (Kd.R_below (kr HO292) hb) (bb BK279 hb) (bb BK286 hb) (bb BK293 hb) (below_step bes hb) ?_
   clear HO278 HO285 HO292 BK279 BK286 BK293 HB
   intro HO278 HO285 HO292 BK279 BK286 BK293 HB
   (try clear hb)
   (try clear hb2)
   (try clear hk)
   (try clear hi)
   refine hK.out _ _ ⟨(blk_cell BK286.out 0).trans rfl, (blk_cell BK286.out 1).trans rfl, (blk_cell BK286.out 2).trans rfl, (blk_cell BK286.out 3).trans rfl, (blk_cell BK279.out 0).trans rfl, (blk_cell BK279.out 1).trans rfl, (blk_cell BK279.out 2).trans rfl, (blk_cell BK279.out 3).trans rfl, (blk_cell BK293.out 0).trans rfl, (blk_cell BK293.out 1).trans rfl, (blk_cell BK293.out 2).trans rfl, (blk_cell BK293.out 3).trans rfl⟩ (fun hHeld => ?_)
   clear hK K
   refine norm_ (a' := ?_) ?_ ?_
   rotate_left
   ·
    show Act.put _ (some 44) _ = _
    simp only [Act.put, sa0, sa1, sa2, i64_w, i32_w]
    rfl
   refine pure_ (i := 3) (N := some 45) (v := ?_) (a' := ?_) #[true, true, true, true, false, false, false, false, false, false, false, false, false, false, false, false, false, false, false, false, false, false, false, false, false, false, false, false, false, false, false, false, false, false, false, false, false, false, false, false, false, false] rfl rfl (any_of HT_.out (by kernel_rfl)) (fun _ _ _ h => h) (Or.inl ⟨by rfl, ?_⟩) ?_ ?_
   rotate_left
   ·
    intro w'
    go_simp
    with_reducible rfl
   rotate_left
   ·
    simp only [Act.put, sa0, sa1, sa2, i64_w, i32_w]
    rfl
   refine pure_ (i := 4) (N := some 46) (v := ?_) (a' := ?_) #[true, true, true, true, true, false, false, false, false, false, false, false, false, false, false, false, false, false, false, false, false, false, false, false, false, false, false, false, false, false, false, false, false, false, false, false, false, false, false, false, false, false] rfl rfl (any_of HT_.out (by kernel_rfl)) (fun _ _ _ h => h) (Or.inl ⟨by rfl, ?_⟩) ?_ ?_
   rotate_left
   ·
    intro w'
    go_simp
    with_reducible rfl
   rotate_left
   ·
    simp only [Act.put, sa0, sa1, sa2, i64_w, i32_w]
    rfl
   refine pure_ (i := 5) (N := some 47) (v := ?_) (a' := ?_) #[true, true, true, true, true, true, false, false, false, false, false, false, false, false, false, false, false, false, false, false, false, false, false, false, false, false, false, false, false, false, false, false, false, false, false, false, false, false, false, false, false, false] rfl rfl (any_of HT_.out (by kernel_rfl)) (fun _ _ _ h => h) (Or.inl ⟨by rfl, ?_⟩) ?_ ?_
   rotate_left
   ·
    intro w'
    go_simp
    with_reducible rfl
   rotate_left
   ·
    simp only [Act.put, sa0, sa1, sa2, i64_w, i32_w]
    rfl
   refine pure_ (i := 7) (N := some 49) (v := ?_) (a' := ?_) #[true, true, true, true, true, true, false, true, false, false, false, false, false, false, false, false, false, false, false, false, false, false, false, false, false, false, false, false, false, false, false, false, false, false, false, false, false, false, false, false, false, false] rfl rfl (any_of HT_.out (by kernel_rfl)) (fun _ _ _ h => h) (Or.inl ⟨by rfl, ?_⟩) ?_ ?_
   rotate_left
   ·
    intro w'
    go_simp
    with_reducible rfl
   rotate_left
   ·
    simp only [Act.put, sa0, sa1, sa2, i64_w, i32_w]
    rfl
   refine take_ (i := 6) (N := some 48) (v := ?_) (a' := ?_) #[true, true, true, true, true, true, true, true, false, false, false, false, false, false, false, false, false, false, false, false, false, false, false, false, false, false, false, false, false, false, false, false, false, false, false, false, false, false, false, false, false, false] rfl rfl (take_ofW HT_.out HW_.out (by kernel_rfl)) (fun _ _ _ h => h) (Or.inl ⟨by rfl, ?_⟩) hHeld ?_ ?_
   rotate_left
   ·
    rintro w' ⟨s0, s1, s2, s3, s4, s5, s6, s7, s8, s9, s10, s11⟩
    go_simp
    with_reducible rfl
   rotate_left
   ·
    simp only [Act.put, sa0, sa1, sa2, i64_w, i32_w]
    rfl
   refine take_ (i := 8) (N := some 50) (v := ?_) (a' := ?_) #[true, true, true, true, true, true, true, true, true, false, false, false, false, false, false, false, false, false, false, false, false, false, false, false, false, false, false, false, false, false, false, false, false, false, false, false, false, false, false, false, false, false] rfl rfl (take_ofW HT_.out HW_.out (by kernel_rfl)) (fun _ _ _ h => h) (Or.inl ⟨by rfl, ?_⟩) hHeld ?_ ?_
   rotate_left
   ·
    rintro w' ⟨s0, s1, s2, s3, s4, s5, s6, s7, s8, s9, s10, s11⟩
    go_simp
    with_reducible rfl
   rotate_left
   ·
    simp only [Act.put, sa0, sa1, sa2, i64_w, i32_w]
    rfl
   refine pure_ (i := 9) (N := some 51) (v := ?_) (a' := ?_) #[true, true, true, true, true, true, true, true, true, true, false, false, false, false, false, false, false, false, false, false, false, false, false, false, false, false, false, false, false, false, false, false, false, false, false, false, false, false, false, false, false, false] rfl rfl (any_of HT_.out (by kernel_rfl)) (fun _ _ _ h => h) (Or.inl ⟨by rfl, ?_⟩) ?_ ?_
   rotate_left
   ·
    intro w'
    go_simp
    with_reducible rfl
   rotate_left
   ·
    simp only [Act.put, sa0, sa1, sa2, i64_w, i32_w]
    rfl
   refine pure_ (i := 10) (N := some 52) (v := ?_) (a' := ?_) #[true, true, true, true, true, true, true, true, true, true, true, false, false, false, false, false, false, false, false, false, false, false, false, false, false, false, false, false, false, false, false, false, false, false, false, false, false, false, false, false, false, false] rfl rfl (any_of HT_.out (by kernel_rfl)) (fun _ _ _ h => h) (Or.inl ⟨by rfl, ?_⟩) ?_ ?_
   rotate_left
   ·
    intro w'
    go_simp
    with_reducible rfl
   rotate_left
   ·
    simp only [Act.put, sa0, sa1, sa2, i64_w, i32_w]
    rfl
   refine pure_ (i := 11) (N := some 53) (v := ?_) (a' := ?_) #[true, true, true, true, true, true, true, true, true, true, true, true, false, false, false, false, false, false, false, false, false, false, false, false, false, false, false, false, false, false, false, false, false, false, false, false, false, false, false, false, false, false] rfl rfl (any_of HT_.out (by kernel_rfl)) (fun _ _ _ h => h) (Or.inl ⟨by rfl, ?_⟩) ?_ ?_
   rotate_left
   ·
    intro w'
    go_simp
    with_reducible rfl
   rotate_left
   ·
    simp only [Act.put, sa0, sa1, sa2, i64_w, i32_w]
    rfl
   refine take_ (i := 12) (N := some 54) (v := ?_) (a' := ?_) #[true, true, true, true, true, true, true, true, true, true, true, true, true, false, false, false, false, false, false, false, false, false, false, false, false, false, false, false, false, false, false, false, false, false, false, false, false, false, false, false, false, false] rfl rfl (take_ofW HT_.out HW_.out (by kernel_rfl)) (fun _ _ _ h => h) (Or.inl ⟨by rfl, ?_⟩) hHeld ?_ ?_
   rotate_left
   ·
    rintro w' ⟨s0, s1, s2, s3, s4, s5, s6, s7, s8, s9, s10, s11⟩
    go_simp
    with_reducible rfl
   rotate_left
   ·
    simp only [Act.put, sa0, sa1, sa2, i64_w, i32_w]
    rfl
   refine one_ (i := 13) (N := some 55) #[true, true, true, true, true, true, true, true, true, true, true, true, true, true, false, false, false, false, false, false, false, false, false, false, false, false, false, false, false, false, false, false, false, false, false, false, false, false, false, false, false, false] rfl rfl (one_of HT_.out (by kernel_rfl)) (by decide) (fun K hK => ?_)
   refine goes_ Try.func12 (by kernel_rfl) rfl #[.agg #[.int .i64 t280, .int .i64 t281, .int .i64 t282, .slice Ao24 t283.length co24]] (by rfl) rfl rfl ga ?_
   with_reducible refine (mat_Matrix_Check.calls k t280 t281 t282 _ _ t283 t295 _ ?side1 ?side2 A35.out).mono ?_
   (case side1 => exact ks HO285)
   (case side2 => exact (Kd.R_reads' HO285.out).2.1)
   rintro e w46 ⟨rfl, hb⟩
   refine ⟨_, rfl, ?_⟩
   refine ax7 (Kd.R_below (kr HO278) hb) (Kd.R_below (kr HO285) hb) (Kd.R_below (kr HO292) hb) (bb BK279 hb) (bb BK286 hb) (bb BK293 hb) (below_step bes hb) ?_
   clear HO278 HO285 HO292 BK279 BK286 BK293 HB
   intro HO278 HO285 HO292 BK279 BK286 BK293 HB
   (try clear hb)
   (try clear hb2)
   (try clear hk)
   (try clear hi)
   refine hK.out _ _ ⟨(blk_cell BK286.out 0).trans rfl, (blk_cell BK286.out 1).trans rfl, (blk_cell BK286.out 2).trans rfl, (blk_cell BK286.out 3).trans rfl, (blk_cell BK279.out 0).trans rfl, (blk_cell BK279.out 1).trans rfl, (blk_cell BK279.out 2).trans rfl, (blk_cell BK279.out 3).trans rfl, (blk_cell BK293.out 0).trans rfl, (blk_cell BK293.out 1).trans rfl, (blk_cell BK293.out 2).trans rfl, (blk_cell BK293.out 3).trans rfl⟩ (fun hHeld => ?_)
   clear hK K
   refine norm_ (a' := ?_) ?_ ?_
   rotate_left
   ·
    show Act.put _ (some 55) _ = _
    simp only [Act.put, sa0, sa1, sa2, i64_w, i32_w]
    rfl
   refine pure_ (i := 14) (N := some 56) (v := ?_) (a' := ?_) #[true, true, true, true, true, true, true, true, true, true, true, true, true, true, true, false, false, false, false, false, false, false, false, false, false, false, false, false, false, false, false, false, false, false, false, false, false, false, false, false, false, false] rfl rfl (any_of HT_.out (by kernel_rfl)) (fun _ _ _ h => h) (Or.inl ⟨by rfl, ?_⟩) ?_ ?_
   rotate_left
   ·
    intro w'
    go_simp
    with_reducible rfl
   rotate_left
   ·
    simp only [Act.put, sa0, sa1, sa2, i64_w, i32_w]
    rfl
   refine pure_ (i := 15) (N := some 57) (v := ?_) (a' := ?_) #[true, true, true, true, true, true, true, true, true, true, true, true, true, true, true, true, false, false, false, false, false, false, false, false, false, false, false, false, false, false, false, false, false, false, false, false, false, false, false, false, false, false] rfl rfl (any_of HT_.out (by kernel_rfl)) (fun _ _ _ h => h) (Or.inl ⟨by rfl, ?_⟩) ?_ ?_
   rotate_left
   ·
    intro w'
    go_simp
    with_reducible rfl
   rotate_left
   ·
    simp only [Act.put, sa0, sa1, sa2, i64_w, i32_w]
    rfl
   refine pure_ (i := 16) (N := some 58) (v := ?_) (a' := ?_) #[true, true, true, true, true, true, true, true, true, true, true, true, true, true, true, true, true, false, false, false, false, false, false, false, false, false, false, false, false, false, false, false, false, false, false, false, false, false, false, false, false, false] rfl rfl (any_of HT_.out (by kernel_rfl)) (fun _ _ _ h => h) (Or.inl ⟨by rfl, ?_⟩) ?_ ?_
   rotate_left
   ·
    intro w'
    go_simp
    with_reducible rfl
   rotate_left
   ·
    simp only [Act.put, sa0, sa1, sa2, i64_w, i32_w]
    rfl
   refine take_ (i := 17) (N := some 59) (v := ?_) (a' := ?_) #[true, true, true, true, true, true, true, true, true, true, true, true, true, true, true, true, true, true, false, false, false, false, false, false, false, false, false, false, false, false, false, false, false, false, false, false, false, false, false, false, false, false] rfl rfl (take_ofW HT_.out HW_.out (by kernel_rfl)) (fun _ _ _ h => h) (Or.inl ⟨by rfl, ?_⟩) hHeld ?_ ?_
   rotate_left
   ·
    rintro w' ⟨s0, s1, s2, s3, s4, s5, s6, s7, s8, s9, s10, s11⟩
    go_simp
    with_reducible rfl
   rotate_left
   ·
    simp only [Act.put, sa0, sa1, sa2, i64_w, i32_w]
    rfl
   refine one_ (i := 18) (N := some 60) #[true, true, true, true, true, true, true, true, true, true, true, true, true, true, true, true, true, true, true, false, false, false, false, false, false, false, false, false, false, false, false, false, false, false, false, false, false, false, false, false, false, false] rfl rfl (one_of HT_.out (by kernel_rfl)) (by decide) (fun K hK => ?_)
   refine goes_ Try.func12 (by kernel_rfl) rfl #[.agg #[.int .i64 t287, .int .i64 t288, .int .i64 t289, .slice Ao31 t290.length co31]] (by rfl) rfl rfl ga ?_
   with_reducible refine (mat_Matrix_Check.calls k t287 t288 t289 _ _ t290 t296 _ ?side1 ?side2 A37.out).mono ?_
   (case side1 => exact ks HO292)
   (case side2 => exact (Kd.R_reads' HO292.out).2.1)
   rintro e w47 ⟨rfl, hb⟩
   refine ⟨_, rfl, ?_⟩
   refine ax7 (Kd.R_below (kr HO278) hb) (Kd.R_below (kr HO285) hb) (Kd.R_below (kr HO292) hb) (bb BK279 hb) (bb BK286 hb) (bb BK293 hb) (below_step bes hb) ?_
   clear HO278 HO285 HO292 BK279 BK286 BK293 HB
   intro HO278 HO285 HO292 BK279 BK286 BK293 HB
   (try clear hb)
   (try clear hb2)
   (try clear hk)
   (try clear hi)
   refine hK.out _ _ ⟨(blk_cell BK286.out 0).trans rfl, (blk_cell BK286.out 1).trans rfl, (blk_cell BK286.out 2).trans rfl, (blk_cell BK286.out 3).trans rfl, (blk_cell BK279.out 0).trans rfl, (blk_cell BK279.out 1).trans rfl, (blk_cell BK279.out 2).trans rfl, (blk_cell BK279.out 3).trans rfl, (blk_cell BK293.out 0).trans rfl, (blk_cell BK293.out 1).trans rfl, (blk_cell BK293.out 2).trans rfl, (blk_cell BK293.out 3).trans rfl⟩ (fun hHeld => ?_)
   clear hK K
   refine norm_ (a' := ?_) ?_ ?_
   rotate_left
   ·
    show Act.put _ (some 60) _ = _
    simp only [Act.put, sa0, sa1, sa2, i64_w, i32_w]
    rfl
   refine pure_ (i := 19) (N := some 61) (v := ?_) (a' := ?_) #[true, true, true, true, true, true, true, true, true, true, true, true, true, true, true, true, true, true, true, true, false, false, false, false, false, false, false, false, false, false, false, false, false, false, false, false, false, false, false, false, false, false] rfl rfl (any_of HT_.out (by kernel_rfl)) (fun _ _ _ h => h) (Or.inl ⟨by rfl, ?_⟩) ?_ ?_
   rotate_left
   ·
    intro w'
    go_simp
    with_reducible rfl
   rotate_left
   ·
    simp only [Act.put, sa0, sa1, sa2, i64_w, i32_w]
    rfl
   refine pure_ (i := 20) (N := some 62) (v := ?_) (a' := ?_) #[true, true, true, true, true, true, true, true, true, true, true, true, true, true, true, true, true, true, true, true, true, false, false, false, false, false, false, false, false, false, false, false, false, false, false, false, false, false, false, false, false, false] rfl rfl (any_of HT_.out (by kernel_rfl)) (fun _ _ _ h => h) (Or.inl ⟨by rfl, ?_⟩) ?_ ?_
   rotate_left
   ·
    intro w'
    go_simp
    with_reducible rfl
   rotate_left
   ·
    simp only [Act.put, sa0, sa1, sa2, i64_w, i32_w]
    rfl
   refine pure_ (i := 21) (N := some 63) (v := ?_) (a' := ?_) #[true, true, true, true, true, true, true, true, true, true, true, true, true, true, true, true, true, true, true, true, true, true, false, false, false, false, false, false, false, false, false, false, false, false, false, false, false, false, false, false, false, false] rfl rfl (any_of HT_.out (by kernel_rfl)) (fun _ _ _ h => h) (Or.inl ⟨by rfl, ?_⟩) ?_ ?_
   rotate_left
   ·
    intro w'
    go_simp
    with_reducible rfl
   rotate_left
   ·
    simp only [Act.put, sa0, sa1, sa2, i64_w, i32_w]
    rfl
   refine pure_ (i := 22) (N := some 64) (v := ?_) (a' := ?_) #[true, true, true, true, true, true, true, true, true, true, true, true, true, true, true, true, true, true, true, true, true, true, true, false, false, false, false, false, false, false, false, false, false, false, false, false, false, false, false, false, false, false] rfl rfl (any_of HT_.out (by kernel_rfl)) (fun _ _ _ h => h) (Or.inl ⟨by rfl, ?_⟩) ?_ ?_
   rotate_left
   ·
    intro w'
    go_simp
    with_reducible rfl
   rotate_left
   ·
    simp only [Act.put, sa0, sa1, sa2, i64_w, i32_w]
    rfl
   refine pure_ (i := 24) (N := some 66) (v := ?_) (a' := ?_) #[true, true, true, true, true, true, true, true, true, true, true, true, true, true, true, true, true, true, true, true, true, true, true, false, true, false, false, false, false, false, false, false, false, false, false, false, false, false, false, false, false, false] rfl rfl (any_of HT_.out (by kernel_rfl)) (fun _ _ _ h => h) (Or.inl ⟨by rfl, ?_⟩) ?_ ?_
   rotate_left
   ·
    intro w'
    go_simp
    with_reducible rfl
   rotate_left
   ·
    simp only [Act.put, sa0, sa1, sa2, i64_w, i32_w]
    rfl
   refine take_ (i := 23) (N := some 65) (v := ?_) (a' := ?_) #[true, true, true, true, true, true, true, true, true, true, true, true, true, true, true, true, true, true, true, true, true, true, true, true, true, false, false, false, false, false, false, false, false, false, false, false, false, false, false, false, false, false] rfl rfl (take_ofW HT_.out HW_.out (by kernel_rfl)) (fun _ _ _ h => h) (Or.inl ⟨by rfl, ?_⟩) hHeld ?_ ?_
   rotate_left
   ·
    rintro w' ⟨s0, s1, s2, s3, s4, s5, s6, s7, s8, s9, s10, s11⟩
    go_simp
    with_reducible rfl
   rotate_left
   ·
    simp only [Act.put, sa0, sa1, sa2, i64_w, i32_w]
    rfl
   refine take_ (i := 25) (N := some 67) (v := ?_) (a' := ?_) #[true, true, true, true, true, true, true, true, true, true, true, true, true, true, true, true, true, true, true, true, true, true, true, true, true, true, false, false, false, false, false, false, false, false, false, false, false, false, false, false, false, false] rfl rfl (take_ofW HT_.out HW_.out (by kernel_rfl)) (fun _ _ _ h => h) (Or.inl ⟨by rfl, ?_⟩) hHeld ?_ ?_
   rotate_left
   ·
    rintro w' ⟨s0, s1, s2, s3, s4, s5, s6, s7, s8, s9, s10, s11⟩
    go_simp
    with_reducible rfl
   rotate_left
   ·
    simp only [Act.put, sa0, sa1, sa2, i64_w, i32_w]
    rfl
   refine pure_ (i := 26) (N := some 68) (v := ?_) (a' := ?_) #[true, true, true, true, true, true, true, true, true, true, true, true, true, true, true, true, true, true, true, true, true, true, true, true, true, true, true, false, false, false, false, false, false, false, false, false, false, false, false, false, false, false] rfl rfl (any_of HT_.out (by kernel_rfl)) (fun _ _ _ h => h) (Or.inl ⟨by rfl, ?_⟩) ?_ ?_
   rotate_left
   ·
    intro w'
    go_simp
    with_reducible rfl
   rotate_left
   ·
    simp only [Act.put, sa0, sa1, sa2, i64_w, i32_w]
    rfl
   refine pure_ (i := 27) (N := some 69) (v := ?_) (a' := ?_) #[true, true, true, true, true, true, true, true, true, true, true, true, true, true, true, true, true, true, true, true, true, true, true, true, true, true, true, true, false, false, false, false, false, false, false, false, false, false, false, false, false, false] rfl rfl (any_of HT_.out (by kernel_rfl)) (fun _ _ _ h => h) (Or.inl ⟨by rfl, ?_⟩) ?_ ?_
   rotate_left
   ·
    intro w'
    go_simp
    with_reducible rfl
   rotate_left
   ·
    simp only [Act.put, sa0, sa1, sa2, i64_w, i32_w]
    rfl
   refine pure_ (i := 28) (N := some 70) (v := ?_) (a' := ?_) #[true, true, true, true, true, true, true, true, true, true, true, true, true, true, true, true, true, true, true, true, true, true, true, true, true, true, true, true, true, false, false, false, false, false, false, false, false, false, false, false, false, false] rfl rfl (any_of HT_.out (by kernel_rfl)) (fun _ _ _ h => h) (Or.inl ⟨by rfl, ?_⟩) ?_ ?_
   rotate_left
   ·
    intro w'
    go_simp
    with_reducible rfl
   rotate_left
   ·
    simp only [Act.put, sa0, sa1, sa2, i64_w, i32_w]
    rfl
   refine pure_ (i := 29) (N := some 71) (v := ?_) (a' := ?_) #[true, true, true, true, true, true, true, true, true, true, true, true, true, true, true, true, true, true, true, true, true, true, true, true, true, true, true, true, true, true, false, false, false, false, false, false, false, false, false, false, false, false] rfl rfl (any_of HT_.out (by kernel_rfl)) (fun _ _ _ h => h) (Or.inl ⟨by rfl, ?_⟩) ?_ ?_
   rotate_left
   ·
    intro w'
    go_simp
    with_reducible rfl
   rotate_left
   ·
    simp only [Act.put, sa0, sa1, sa2, i64_w, i32_w]
    rfl
   refine pure_ (i := 31) (N := some 73) (v := ?_) (a' := ?_) #[true, true, true, true, true, true, true, true, true, true, true, true, true, true, true, true, true, true, true, true, true, true, true, true, true, true, true, true, true, true, false, true, false, false, false, false, false, false, false, false, false, false] rfl rfl (any_of HT_.out (by kernel_rfl)) (fun _ _ _ h => h) (Or.inl ⟨by rfl, ?_⟩) ?_ ?_
   rotate_left
   ·
    intro w'
    go_simp
    with_reducible rfl
   rotate_left
   ·
    simp only [Act.put, sa0, sa1, sa2, i64_w, i32_w]
    rfl
   refine take_ (i := 30) (N := some 72) (v := ?_) (a' := ?_) #[true, true, true, true, true, true, true, true, true, true, true, true, true, true, true, true, true, true, true, true, true, true, true, true, true, true, true, true, true, true, true, true, false, false, false, false, false, false, false, false, false, false] rfl rfl (take_ofW HT_.out HW_.out (by kernel_rfl)) (fun _ _ _ h => h) (Or.inl ⟨by rfl, ?_⟩) hHeld ?_ ?_
   rotate_left
   ·
    rintro w' ⟨s0, s1, s2, s3, s4, s5, s6, s7, s8, s9, s10, s11⟩
    go_simp
    with_reducible rfl
   rotate_left
   ·
    simp only [Act.put, sa0, sa1, sa2, i64_w, i32_w]
    rfl
   refine take_ (i := 32) (N := some 74) (v := ?_) (a' := ?_) #[true, true, true, true, true, true, true, true, true, true, true, true, true, true, true, true, true, true, true, true, true, true, true, true, true, true, true, true, true, true, true, true, true, false, false, false, false, false, false, false, false, false] rfl rfl (take_ofW HT_.out HW_.out (by kernel_rfl)) (fun _ _ _ h => h) (Or.inl ⟨by rfl, ?_⟩) hHeld ?_ ?_
   rotate_left
   ·
    rintro w' ⟨s0, s1, s2, s3, s4, s5, s6, s7, s8, s9, s10, s11⟩
    go_simp
    with_reducible rfl
   rotate_left
   ·
    simp only [Act.put, sa0, sa1, sa2, i64_w, i32_w]
    rfl
   refine pure_ (i := 33) (N := some 75) (v := ?_) (a' := ?_) #[true, true, true, true, true, true, true, true, true, true, true, true, true, true, true, true, true, true, true, true, true, true, true, true, true, true, true, true, true, true, true, true, true, true, false, false, false, false, false, false, false, false] rfl rfl (any_of HT_.out (by kernel_rfl)) (fun _ _ _ h => h) (Or.inl ⟨by rfl, ?_⟩) ?_ ?_
   rotate_left
   ·
    intro w'
    go_simp
    with_reducible rfl
   rotate_left
   ·
    simp only [Act.put, sa0, sa1, sa2, i64_w, i32_w]
    rfl
   refine pure_ (i := 34) (N := some 76) (v := ?_) (a' := ?_) #[true, true, true, true, true, true, true, true, true, true, true, true, true, true, true, true, true, true, true, true, true, true, true, true, true, true, true, true, true, true, true, true, true, true, true, false, false, false, false, false, false, false] rfl rfl (any_of HT_.out (by kernel_rfl)) (fun _ _ _ h => h) (Or.inl ⟨by rfl, ?_⟩) ?_ ?_
   rotate_left
   ·
    intro w'
    go_simp
    with_reducible rfl
   rotate_left
   ·
    simp only [Act.put, sa0, sa1, sa2, i64_w, i32_w]
    rfl
   refine pure_ (i := 35) (N := some 77) (v := ?_) (a' := ?_) #[true, true, true, true, true, true, true, true, true, true, true, true, true, true, true, true, true, true, true, true, true, true, true, true, true, true, true, true, true, true, true, true, true, true, true, true, false, false, false, false, false, false] rfl rfl (any_of HT_.out (by kernel_rfl)) (fun _ _ _ h => h) (Or.inl ⟨by rfl, ?_⟩) ?_ ?_
   rotate_left
   ·
    intro w'
    go_simp
    with_reducible rfl
   rotate_left
   ·
    simp only [Act.put, sa0, sa1, sa2, i64_w, i32_w]
    rfl
   refine take_ (i := 36) (N := some 78) (v := ?_) (a' := ?_) #[true, true, true, true, true, true, true, true, true, true, true, true, true, true, true, true, true, true, true, true, true, true, true, true, true, true, true, true, true, true, true, true, true, true, true, true, true, false, false, false, false, false] rfl rfl (take_ofW HT_.out HW_.out (by kernel_rfl)) (fun _ _ _ h => h) (Or.inl ⟨by rfl, ?_⟩) hHeld ?_ ?_
   rotate_left
   ·
    rintro w' ⟨s0, s1, s2, s3, s4, s5, s6, s7, s8, s9, s10, s11⟩
    go_simp
    with_reducible rfl
   rotate_left
   ·
    simp only [Act.put, sa0, sa1, sa2, i64_w, i32_w]
    rfl
   refine take_ (i := 38) (N := some 80) (v := ?_) (a' := ?_) #[true, true, true, true, true, true, true, true, true, true, true, true, true, true, true, true, true, true, true, true, true, true, true, true, true, true, true, true, true, true, true, true, true, true, true, true, true, false, true, false, false, false] rfl rfl (take_ofW HT_.out HW_.out (by kernel_rfl)) (fun _ _ _ h => h) (Or.inl ⟨by rfl, ?_⟩) hHeld ?_ ?_
   rotate_left
   ·
    rintro w' ⟨s0, s1, s2, s3, s4, s5, s6, s7, s8, s9, s10, s11⟩
    go_simp
    with_reducible rfl
   rotate_left
   ·
    simp only [Act.put, sa0, sa1, sa2, i64_w, i32_w]
    rfl
   refine one_ (i := 37) (N := some 79) #[true, true, true, true, true, true, true, true, true, true, true, true, true, true, true, true, true, true, true, true, true, true, true, true, true, true, true, true, true, true, true, true, true, true, true, true, true, true, true, false, false, false] rfl rfl (one_of HT_.out (by kernel_rfl)) (by decide) (fun K hK => ?_)
   refine goes_ Try.func16 (by kernel_rfl) rfl #[.agg #[.int .i64 t287, .int .i64 t288, .int .i64 t289, .slice Ao31 t290.length co31]] (by rfl) rfl rfl ga ?_
   with_reducible refine (mat_Matrix_Turn.calls k t287 t288 t289 _ _ t290 t297 t298 t299 t300 _ ?side1 ?side2 A41.out).mono ?_
   (case side1 => exact ks HO292)
   (case side2 => exact (Kd.R_reads' HO292.out).2.1)
   rintro e w48 ⟨v301, rfl, ho0, hb⟩
   refine ⟨_, rfl, ?_⟩
   refine ax8 (Kd.R_elder' (kr HO278) (Kd.R_base ho0) hb) (Kd.R_elder' (kr HO285) (Kd.R_base ho0) hb) (Kd.R_elder' (kr HO292) (Kd.R_base ho0) hb) (Kd.R_lower (Kd.R_new' (Kd.R_new' (Kd.R_new' ho0 (Kd.R_lt (kr HO278))) (Kd.R_lt (kr HO285))) (Kd.R_lt (kr HO292))) (below_size bes)) (bb BK279 hb) (bb BK286 hb) (bb BK293 hb) (below_step bes hb) ?_
   clear HO278 HO285 HO292 BK279 BK286 BK293 HB
   intro HO278 HO285 HO292 HO302 BK279 BK286 BK293 HB
   (try clear hb)
   (try clear hb2)
   (try clear hk)
   (try clear hi)
   (try clear ho0)
   obtain ⟨Ao49, co49, eo49⟩ := Kd.R_slice HO302.out
   (first | subst eo49 | (injection eo49 with f1_ f2_ f3_; have f4_ := f1_.symm; have f5_ := f3_.symm; clear f1_ f2_ f3_; subst f4_; subst f5_))
   refine hK.out _ _ ⟨(blk_cell BK286.out 0).trans rfl, (blk_cell BK286.out 1).trans rfl, (blk_cell BK286.out 2).trans rfl, (blk_cell BK286.out 3).trans rfl, (blk_cell BK279.out 0).trans rfl, (blk_cell BK279.out 1).trans rfl, (blk_cell BK279.out 2).trans rfl, (blk_cell BK279.out 3).trans rfl, (blk_cell BK293.out 0).trans rfl, (blk_cell BK293.out 1).trans rfl, (blk_cell BK293.out 2).trans rfl, (blk_cell BK293.out 3).trans rfl⟩ (fun hHeld => ?_)
   clear hK K
   refine norm_ (a' := ?_) ?_ ?_
   rotate_left
   ·
    show Act.put _ (some 79) _ = _
    simp only [Act.put, sa0, sa1, sa2, i64_w, i32_w]
    rfl
   refine one_ (i := 39) (N := some 81) #[true, true, true, true, true, true, true, true, true, true, true, true, true, true, true, true, true, true, true, true, true, true, true, true, true, true, true, true, true, true, true, true, true, true, true, true, true, true, true, true, false, false] rfl rfl (one_of HT_.out (by kernel_rfl)) (by decide) (fun K hK => ?_)
   refine goes_ Try.func17 (by kernel_rfl) rfl #[.agg #[.int .i64 t297, .int .i64 t298, .int .i64 t299, .slice Ao49 t300.length co49], .agg #[.int .i64 t273, .int .i64 t274, .int .i64 t275, .slice Ao19 t276.length co19]] (by rfl) rfl rfl ga ?_
   with_reducible refine (mat_Matrix_Same.calls k t297 t298 t299 _ _ t300 t273 t274 t275 _ _ t276 t303 _ ?side1 ?side2 ?side3 ?side4 A42.out).mono ?_
   (case side1 => exact ks HO302)
   (case side2 => exact (Kd.R_reads' HO302.out).2.1)
   (case side3 => exact ks HO278)
   (case side4 => exact (Kd.R_reads' HO278.out).2.1)
   rintro e w50 ⟨rfl, hb⟩
   refine ⟨_, rfl, ?_⟩
   refine ax8 (Kd.R_below (kr HO278) hb) (Kd.R_below (kr HO285) hb) (Kd.R_below (kr HO292) hb) (Kd.R_below (kr HO302) hb) (bb BK279 hb) (bb BK286 hb) (bb BK293 hb) (below_step bes hb) ?_
   clear HO278 HO285 HO292 HO302 BK279 BK286 BK293 HB
   intro HO278 HO285 HO292 HO302 BK279 BK286 BK293 HB
   (try clear hb)
   (try clear hb2)
   (try clear hk)
   (try clear hi)
   refine hK.out _ _ ⟨(blk_cell BK286.out 0).trans rfl, (blk_cell BK286.out 1).trans rfl, (blk_cell BK286.out 2).trans rfl, (blk_cell BK286.out 3).trans rfl, (blk_cell BK279.out 0).trans rfl, (blk_cell BK279.out 1).trans rfl, (blk_cell BK279.out 2).trans rfl, (blk_cell BK279.out 3).trans rfl, (blk_cell BK293.out 0).trans rfl, (blk_cell BK293.out 1).trans rfl, (blk_cell BK293.out 2).trans rfl, (blk_cell BK293.out 3).trans rfl⟩ (fun hHeld => ?_)
   clear hK K
   refine norm_ (a' := ?_) ?_ ?_
   rotate_left
   ·
    show Act.put _ (some 81) _ = _
    simp only [Act.put, sa0, sa1, sa2, i64_w, i32_w]
    rfl
   refine pure_ (i := 40) (N := some 82) (v := ?_) (a' := ?_) #[true, true, true, true, true, true, true, true, true, true, true, true, true, true, true, true, true, true, true, true, true, true, true, true, true, true, true, true, true, true, true, true, true, true, true, true, true, true, true, true, true, false] rfl rfl (any_of HT_.out (by kernel_rfl)) (fun _ _ _ h => h) (Or.inl ⟨by rfl, ?_⟩) ?_ ?_
   rotate_left
   ·
    intro w'
    go_simp
    with_reducible rfl
   rotate_left
   ·
    simp only [Act.put, sa0, sa1, sa2, i64_w, i32_w]
    rfl
   refine pure_ (i := 41) (N := some 83) (v := ?_) (a' := ?_) #[true, true, true, true, true, true, true, true, true, true, true, true, true, true, true, true, true, true, true, true, true, true, true, true, true, true, true, true, true, true, true, true, true, true, true, true, true, true, true, true, true, true] rfl rfl (any_of HT_.out (by kernel_rfl)) (fun _ _ _ h => h) (Or.inl ⟨by rfl, ?_⟩) ?_ ?_
   rotate_left
   ·
    intro w'
    go_simp
    with_reducible rfl
   rotate_left
   ·
    simp only [Act.put, sa0, sa1, sa2, i64_w, i32_w]
    rfl
   refine done_ (done_of HT_.out (by kernel_rfl)) ?_
   try go_wp2
   go_meet
   case rel => exact ⟨_, (!t303), (by first | rfl | (simp; done) | (simp [*]; done)), H', ⟨by first | omega | exact Nat.le_refl _⟩, ⟨by (with_reducible repeat (first | apply Kd.R_alloc | apply Kd.R_drewN | apply Kd.R_drew)); exact Kd.R_mono HO278.out (fun _ hk => ⟨hk.1.1, hk.1.2⟩)⟩, ⟨by (with_reducible repeat (first | apply Kd.R_alloc | apply Kd.R_drewN | apply Kd.R_drew)); exact Kd.R_mono HO285.out (fun _ hk => ⟨hk.1.1, hk.1.2⟩)⟩, ⟨by (with_reducible repeat (first | apply Kd.R_alloc | apply Kd.R_drewN | apply Kd.R_drew)); exact Kd.R_mono HO292.out (fun _ hk => ⟨hk.1.1, hk.1.2⟩)⟩, ⟨kb BK279⟩, ⟨kb BK286⟩, ⟨kb BK293⟩, ⟨bes⟩⟩
  case rest => as_aux_lemma =>
   clear HC14
   try clear c1
   try clear p2
   try clear c3
   try clear c4
   try clear c12
   try clear c16
   try clear c17
   try clear c33
   try clear c34
   try clear c34b0
   try clear c34b1
   try clear c36
   try clear c36b0
   try clear c36b1
   try clear c38
   try clear c38b0
   try clear c38b1
   try clear c39
   try clear c39b0
   try clear c39b1
   try clear c40
   try clear c40b0
   try clear c40b1
   obtain ⟨kq, x83_13, rfl, HA, HJ13, HO_280003, HO_287003, HO_294003, BK279, BK286, BK293, HB⟩ := hcut
   cases kq with
   | zero => exact absurd HA.out (by simp [gimballaw09_MatCopies.j0])
   | succ kj13 =>
    have H := HA.out
    clear HA
    simp only [gimballaw09_MatCopies.j0] at H
    by_cases c51 : x83_13 = true
    ·
     subst c51
     rw [if_pos rfl] at H
     rw [hLW] at H
     exact absurd H (by simp)
    ·
     replace c51 := Bool.eq_false_iff.mpr c51
     subst c51
     rw [if_neg (show ¬ (false = true) by decide)] at H
     have H' := Aside0.mk H
     clear H
     go_wp2
     go_loopg [16] kj13 (fun kq v16 w' => ∃ (x16_2 : Int), v16 = .int .i64 x16_2 ∧ Aside0 (gimballaw09_MatCopies.l0 kq a0 a1 a2 l3 a4 a5 x16_2 t273 t274 t275 t276 t280 t281 t282 t283 t287 t288 t289 t290 = some r) ∧ Aside0 (kq ≤ kj13) ∧ Aside0 (Kd.R (Kd.int .u64) 30 w' w.heap.size (fun k_ => some k_ ≠ ((.slice Ao24 t283.length co24) : Value).ownBlock ∧ some k_ ≠ ((.slice Ao31 t290.length co31) : Value).ownBlock) (.slice Ao19 t276.length co19) t276) ∧ Aside0 (Kd.R (Kd.int .u64) 30 w' w.heap.size (fun k_ => some k_ ≠ ((.slice Ao19 t276.length co19) : Value).ownBlock ∧ some k_ ≠ ((.slice Ao31 t290.length co31) : Value).ownBlock) (.slice Ao24 t283.length co24) t283) ∧ Aside0 (Kd.R (Kd.int .u64) 30 w' w.heap.size (fun k_ => some k_ ≠ ((.slice Ao19 t276.length co19) : Value).ownBlock ∧ some k_ ≠ ((.slice Ao24 t283.length co24) : Value).ownBlock) (.slice Ao31 t290.length co31) t290) ∧ Aside0 (w'.heap[gb279]? = some (.cells #[.int .i64 t273, .int .i64 t274, .int .i64 t275, (.slice Ao19 t276.length co19)] 25 (0, 0))) ∧ Aside0 (w'.heap[gb286]? = some (.cells #[.int .i64 t280, .int .i64 t281, .int .i64 t282, (.slice Ao24 t283.length co24)] 25 (0, 0))) ∧ Aside0 (w'.heap[gb293]? = some (.cells #[.int .i64 t287, .int .i64 t288, .int .i64 t289, (.slice Ao31 t290.length co31)] 25 (0, 0))) ∧ Aside0 (Below w.heap.size w w'))
     case atStart => exact ⟨(0), (by first | rfl | (simp; done) | (simp [*]; done)), H', ⟨Nat.le_refl _⟩, ⟨kr HO_280003⟩, ⟨kr HO_287003⟩, ⟨kr HO_294003⟩, ⟨kb BK279⟩, ⟨kb BK286⟩, ⟨kb BK293⟩, ⟨bes⟩⟩
     case round =>
      clear H'
      try clear c1
      try clear p2
      try clear c3
      try clear c4
      try clear c5
      try clear c12
      try clear c16
      try clear c17
      try clear c33
      try clear c34
      try clear c34b0
      try clear c34b1
      try clear c36
      try clear c36b0
      try clear c36b1
      try clear c38
      try clear c38b0
      try clear c38b1
      try clear c39
      try clear c39b0
      try clear c39b1
      try clear c40
      try clear c40b0
      try clear c40b1
      try clear c51
      try clear p2
      obtain ⟨x16_2, rfl, HA, HK2, HO_280003, HO_287003, HO_294003, BK279, BK286, BK293, HB⟩ := hrel
      cases gk with
      | zero => exact absurd HA.out (by simp [gimballaw09_MatCopies.l0])
      | succ k2 =>
       have H := HA.out
       clear HA
       simp only [gimballaw09_MatCopies.l0] at H
       by_cases c52 : x16_2 < t273
       ·
        rw [if_pos c52] at H
        have c52b0 : decide (x16_2 < t273) = true := decide_eq_true c52
        clear c52
        have H' := Aside0.mk H
        clear H
        have hnb53 := NB279_286.out
        have hnc53 := NB286_279.out
        have hnb54 := NB279_293.out
        have hnc54 := NB293_279.out
        have hcz55_0 := bc BK279 0 rfl
        have hcz55_1 := bc BK279 1 rfl
        have hcz55_2 := bc BK279 2 rfl
        have hcz55_3 := bc BK279 3 rfl
        have hfz55_0 := blk_frozen BK279.out 0
        have hfz55_1 := blk_frozen BK279.out 1
        have hfz55_2 := blk_frozen BK279.out 2
        have hfz55_3 := blk_frozen BK279.out 3
        go_wp2
        go_loopg [17] k2 (fun kq v17 w' => ∃ (x17_3 : Int), v17 = .int .i64 x17_3 ∧ Aside0 (gimballaw09_MatCopies.l1 kq a0 a1 a2 l3 a4 a5 x16_2 x17_3 t273 t274 t275 t276 t280 t281 t282 t283 t287 t288 t289 t290 = some r) ∧ Aside0 (kq ≤ k2) ∧ Aside0 (Kd.R (Kd.int .u64) 30 w' w.heap.size (fun k_ => some k_ ≠ ((.slice Ao24 t283.length co24) : Value).ownBlock ∧ some k_ ≠ ((.slice Ao31 t290.length co31) : Value).ownBlock) (.slice Ao19 t276.length co19) t276) ∧ Aside0 (Kd.R (Kd.int .u64) 30 w' w.heap.size (fun k_ => some k_ ≠ ((.slice Ao19 t276.length co19) : Value).ownBlock ∧ some k_ ≠ ((.slice Ao31 t290.length co31) : Value).ownBlock) (.slice Ao24 t283.length co24) t283) ∧ Aside0 (Kd.R (Kd.int .u64) 30 w' w.heap.size (fun k_ => some k_ ≠ ((.slice Ao19 t276.length co19) : Value).ownBlock ∧ some k_ ≠ ((.slice Ao24 t283.length co24) : Value).ownBlock) (.slice Ao31 t290.length co31) t290) ∧ Aside0 (w'.heap[gb279]? = some (.cells #[.int .i64 t273, .int .i64 t274, .int .i64 t275, (.slice Ao19 t276.length co19)] 25 (0, 0))) ∧ Aside0 (w'.heap[gb286]? = some (.cells #[.int .i64 t280, .int .i64 t281, .int .i64 t282, (.slice Ao24 t283.length co24)] 25 (0, 0))) ∧ Aside0 (w'.heap[gb293]? = some (.cells #[.int .i64 t287, .int .i64 t288, .int .i64 t289, (.slice Ao31 t290.length co31)] 25 (0, 0))) ∧ Aside0 (Below w.heap.size w w'))
        case atStart => exact ⟨(0), (by first | rfl | (simp; done) | (simp [*]; done)), H', ⟨Nat.le_refl _⟩, ⟨kr HO_280003⟩, ⟨kr HO_287003⟩, ⟨kr HO_294003⟩, ⟨kb BK279⟩, ⟨kb BK286⟩, ⟨kb BK293⟩, ⟨bes⟩⟩
        case round =>
         clear H'
         try clear c1
         try clear p2
         try clear c3
         try clear c4
         try clear c5
         try clear c12
         try clear c16
         try clear c17
         try clear c33
         try clear c34
         try clear c34b0
         try clear c34b1
         try clear c36
         try clear c36b0
         try clear c36b1
         try clear c38
         try clear c38b0
         try clear c38b1
         try clear c39
         try clear c39b0
         try clear c39b1
         try clear c40
         try clear c40b0
         try clear c40b1
         try clear c51
         try clear c52
         try clear c52b0
         try clear c53
         try clear c54
         try clear hcz55_0
         try clear hcz55_1
         try clear hcz55_2
         try clear hcz55_3
         try clear hfz55_0
         try clear hfz55_1
         try clear hfz55_2
         try clear hfz55_3
         try clear p2
         obtain ⟨x17_3, rfl, HA, HK3, HO_280003, HO_287003, HO_294003, BK279, BK286, BK293, HB⟩ := hrel
         cases gk with
         | zero => exact absurd HA.out (by simp [gimballaw09_MatCopies.l1])
         | succ k3 =>
          have H := HA.out
          clear HA
          simp only [gimballaw09_MatCopies.l1] at H
          by_cases c56 : x17_3 < t274
          ·
           rw [if_pos c56] at H
           have c56b0 : decide (x17_3 < t274) = true := decide_eq_true c56
           clear c56
           obtain ⟨t304, A570, H⟩ := Option.bind_eq_some_iff.mp H
           (try dsimp -simprocs only at H)
           have A57 := Aside0.mk A570
           clear A570
           obtain ⟨t305, A580, H⟩ := Option.bind_eq_some_iff.mp H
           (try dsimp -simprocs only at H)
           have A58 := Aside0.mk A580
           clear A580
           by_cases c59 : t304 = t305
           rotate_left
           ·
            rw [if_neg c59] at H
            have c59b0 : (t304 == t305) = false := beq_eq_false_iff_ne.mpr c59
            have c59b1 : (t304 != t305) = true := bne_iff_ne.mpr c59
            rw [hLW] at H
            exact absurd H (by simp)
           rw [if_pos c59] at H
           have c59b0 : (t304 == t305) = true := beq_iff_eq.mpr c59
           have c59b1 : (t304 != t305) = false := bne_eq_false_iff_eq.mpr c59
           clear c59
           have H' := Aside0.mk H
           clear H
           have hnb60 := NB279_286.out
           have hnc60 := NB286_279.out
           have hnb61 := NB279_293.out
           have hnc61 := NB293_279.out
           have hcz62_0 := bc BK279 0 rfl
           have hcz62_1 := bc BK279 1 rfl
           have hcz62_2 := bc BK279 2 rfl
           have hcz62_3 := bc BK279 3 rfl
           have hfz62_0 := blk_frozen BK279.out 0
           have hfz62_1 := blk_frozen BK279.out 1
           have hfz62_2 := blk_frozen BK279.out 2
           have hfz62_3 := blk_frozen BK279.out 3
           try go_wp2
           refine ax7 (Kd.R_drew HO_280003.out) (Kd.R_drew HO_287003.out) (Kd.R_drew HO_294003.out) (blk_drew BK279.out) (blk_drew BK286.out) (blk_drew BK293.out) (below_drew1 HB.out) ?_
           clear HO_280003 HO_287003 HO_294003 BK279 BK286 BK293 HB
           intro HO_280003 HO_287003 HO_294003 BK279 BK286 BK293 HB
           refine start_ (n := 9) (S := fun w' => w'.cell? ⟨gb293, 0, none⟩ = some (.int .i64 t287) ∧ w'.cell? ⟨gb293, 1, none⟩ = some (.int .i64 t288) ∧ w'.cell? ⟨gb293, 2, none⟩ = some (.int .i64 t289) ∧ w'.cell? ⟨gb293, 3, none⟩ = some (.slice Ao31 t290.length co31) ∧ w'.cell? ⟨gb279, 0, none⟩ = some (.int .i64 t273) ∧ w'.cell? ⟨gb279, 1, none⟩ = some (.int .i64 t274) ∧ w'.cell? ⟨gb279, 2, none⟩ = some (.int .i64 t275) ∧ w'.cell? ⟨gb279, 3, none⟩ = some (.slice Ao19 t276.length co19)) (ds := []) #[false, false, false, false, false, false, false, false, false] (by kernel_rfl) rfl rfl ⟨(blk_cell BK293.out 0).trans rfl, (blk_cell BK293.out 1).trans rfl, (blk_cell BK293.out 2).trans rfl, (blk_cell BK293.out 3).trans rfl, (blk_cell BK279.out 0).trans rfl, (blk_cell BK279.out 1).trans rfl, (blk_cell BK279.out 2).trans rfl, (blk_cell BK279.out 3).trans rfl⟩ (fun hHeld => ?_); refine with_tabW gimballaw09_MatCopies.tab16 gimballaw09_MatCopies.bits16 (fun HT_ HW_ => ?_)
           generalize wr.drew = w63 at HO_280003 HO_287003 HO_294003 BK279 BK286 BK293 HB hHeld ⊢
           refine pure_ (i := 1) (N := some 97) (v := ?_) (a' := ?_) #[false, true, false, false, false, false, false, false, false] rfl rfl (any_of HT_.out (by kernel_rfl)) (fun _ _ _ h => h) (Or.inl ⟨by rfl, ?_⟩) ?_ ?_
           rotate_left
           ·
            intro w'
            go_simp
            with_reducible rfl
           rotate_left
           ·
            simp only [Act.put, sa0, sa1, sa2, i64_w, i32_w]
            rfl
           refine pure_ (i := 2) (N := some 98) (v := ?_) (a' := ?_) #[false, true, true, false, false, false, false, false, false] rfl rfl (any_of HT_.out (by kernel_rfl)) (fun _ _ _ h => h) (Or.inl ⟨by rfl, ?_⟩) ?_ ?_
           rotate_left
           ·
            intro w'
            go_simp
            with_reducible rfl
           rotate_left
           ·
            simp only [Act.put, sa0, sa1, sa2, i64_w, i32_w]
            rfl
           refine pure_ (i := 5) (N := some 101) (v := ?_) (a' := ?_) #[false, true, true, false, false, true, false, false, false] rfl rfl (any_of HT_.out (by kernel_rfl)) (fun _ _ _ h => h) (Or.inl ⟨by rfl, ?_⟩) ?_ ?_
           rotate_left
           ·
            intro w'
            go_simp
            with_reducible rfl
           rotate_left
           ·
            simp only [Act.put, sa0, sa1, sa2, i64_w, i32_w]
            rfl
           refine pure_ (i := 6) (N := some 102) (v := ?_) (a' := ?_) #[false, true, true, false, false, true, true, false, false] rfl rfl (any_of HT_.out (by kernel_rfl)) (fun _ _ _ h => h) (Or.inl ⟨by rfl, ?_⟩) ?_ ?_
           rotate_left
           ·
            intro w'
            go_simp
            with_reducible rfl
           rotate_left
           ·
            simp only [Act.put, sa0, sa1, sa2, i64_w, i32_w]
            rfl
           refine take_ (i := 0) (N := some 96) (v := ?_) (a' := ?_) #[true, true, true, false, false, true, true, false, false] rfl rfl (take_ofW HT_.out HW_.out (by kernel_rfl)) (fun _ _ _ h => h) (Or.inl ⟨by rfl, ?_⟩) hHeld ?_ ?_
           rotate_left
           ·
            rintro w' ⟨s0, s1, s2, s3, s4, s5, s6, s7⟩
            go_simp
            with_reducible rfl
           rotate_left
           ·
            simp only [Act.put, sa0, sa1, sa2, i64_w, i32_w]
            rfl
           refine take_ (i := 4) (N := some 100) (v := ?_) (a' := ?_) #[true, true, true, false, true, true, true, false, false] rfl rfl (take_ofW HT_.out HW_.out (by kernel_rfl)) (fun _ _ _ h => h) (Or.inl ⟨by rfl, ?_⟩) hHeld ?_ ?_
           rotate_left
           ·
            rintro w' ⟨s0, s1, s2, s3, s4, s5, s6, s7⟩
            go_simp
            with_reducible rfl
           rotate_left
           ·
            simp only [Act.put, sa0, sa1, sa2, i64_w, i32_w]
            rfl
           refine one_ (i := 3) (N := some 99) #[true, true, true, true, true, true, true, false, false] rfl rfl (one_of HT_.out (by kernel_rfl)) (by decide) (fun K hK => ?_)
           refine goes_ Try.func11 (by kernel_rfl) rfl #[.agg #[.int .i64 t287, .int .i64 t288, .int .i64 t289, .slice Ao31 t290.length co31], .int .i64 x17_3, .int .i64 x16_2] (by rfl) rfl rfl ga ?_
           with_reducible refine (mat_Matrix_At.calls t287 t288 t289 _ _ t290 x17_3 x16_2 t304 _ ?side1 ?side2 A57.out).mono ?_
           (case side1 => exact ks HO_294003)
           (case side2 => exact (Kd.R_reads' HO_294003.out).2.1)
           rintro e w64 ⟨rfl, hb⟩
           refine ⟨_, rfl, ?_⟩
           refine ax7 (Kd.R_below (kr HO_280003) hb) (Kd.R_below (kr HO_287003) hb) (Kd.R_below (kr HO_294003) hb) (bb BK279 hb) (bb BK286 hb) (bb BK293 hb) (below_step bes hb) ?_
           clear HO_280003 HO_287003 HO_294003 BK279 BK286 BK293 HB
           intro HO_280003 HO_287003 HO_294003 BK279 BK286 BK293 HB
           (try clear hb)
           (try clear hb2)
           (try clear hk)
           (try clear hi)
           refine hK.out _ _ ⟨(blk_cell BK293.out 0).trans rfl, (blk_cell BK293.out 1).trans rfl, (blk_cell BK293.out 2).trans rfl, (blk_cell BK293.out 3).trans rfl, (blk_cell BK279.out 0).trans rfl, (blk_cell BK279.out 1).trans rfl, (blk_cell BK279.out 2).trans rfl, (blk_cell BK279.out 3).trans rfl⟩ (fun hHeld => ?_)
           clear hK K
           refine norm_ (a' := ?_) ?_ ?_
           rotate_left
           ·
            show Act.put _ (some 99) _ = _
            simp only [Act.put, sa0, sa1, sa2, i64_w, i32_w]
            rfl
           refine one_ (i := 7) (N := some 103) #[true, true, true, true, true, true, true, true, false] rfl rfl (one_of HT_.out (by kernel_rfl)) (by decide) (fun K hK => ?_)
           refine goes_ Try.func11 (by kernel_rfl) rfl #[.agg #[.int .i64 t273, .int .i64 t274, .int .i64 t275, .slice Ao19 t276.length co19], .int .i64 x16_2, .int .i64 x17_3] (by rfl) rfl rfl ga ?_
           with_reducible refine (mat_Matrix_At.calls t273 t274 t275 _ _ t276 x16_2 x17_3 t305 _ ?side1 ?side2 A58.out).mono ?_
           (case side1 => exact ks HO_280003)
           (case side2 => exact (Kd.R_reads' HO_280003.out).2.1)
           rintro e w65 ⟨rfl, hb⟩
           refine ⟨_, rfl, ?_⟩
           refine ax7 (Kd.R_below (kr HO_280003) hb) (Kd.R_below (kr HO_287003) hb) (Kd.R_below (kr HO_294003) hb) (bb BK279 hb) (bb BK286 hb) (bb BK293 hb) (below_step bes hb) ?_
           clear HO_280003 HO_287003 HO_294003 BK279 BK286 BK293 HB
           intro HO_280003 HO_287003 HO_294003 BK279 BK286 BK293 HB
           (try clear hb)
           (try clear hb2)
           (try clear hk)
           (try clear hi)
           refine hK.out _ _ ⟨(blk_cell BK293.out 0).trans rfl, (blk_cell BK293.out 1).trans rfl, (blk_cell BK293.out 2).trans rfl, (blk_cell BK293.out 3).trans rfl, (blk_cell BK279.out 0).trans rfl, (blk_cell BK279.out 1).trans rfl, (blk_cell BK279.out 2).trans rfl, (blk_cell BK279.out 3).trans rfl⟩ (fun hHeld => ?_)
           clear hK K
           refine norm_ (a' := ?_) ?_ ?_
           rotate_left
           ·
            show Act.put _ (some 103) _ = _
            simp only [Act.put, sa0, sa1, sa2, i64_w, i32_w]
            rfl
           refine pure_ (i := 8) (N := some 104) (v := ?_) (a' := ?_) #[true, true, true, true, true, true, true, true, true] rfl rfl (any_of HT_.out (by kernel_rfl)) (fun _ _ _ h => h) (Or.inl ⟨by rfl, ?_⟩) ?_ ?_
           rotate_left
           ·
            intro w'
            go_simp
            with_reducible rfl
           rotate_left
           ·
            simp only [Act.put, sa0, sa1, sa2, i64_w, i32_w]
            rfl
           refine done_ (done_of HT_.out (by kernel_rfl)) ?_
           try go_wp2
           go_roundg k3
           case measure => have := HJ13.out; have := HK2.out; have := HK3.out; omega
           case rel => exact ⟨(wrap64 (x17_3 + 1)), (by first | rfl | (simp; done) | (simp [*]; done)), H', ⟨by have := HJ13.out; have := HK2.out; have := HK3.out; omega⟩, ⟨kr HO_280003⟩, ⟨kr HO_287003⟩, ⟨kr HO_294003⟩, ⟨kb BK279⟩, ⟨kb BK286⟩, ⟨kb BK293⟩, ⟨bes⟩⟩
          ·
           rw [if_neg c56] at H
           have c56b0 : decide (x17_3 < t274) = false := decide_eq_false c56
           clear c56
           have H' := Aside0.mk H
           clear H
           have hnb66 := NB279_286.out
           have hnc66 := NB286_279.out
           have hnb67 := NB279_293.out
           have hnc67 := NB293_279.out
           have hcz68_0 := bc BK279 0 rfl
           have hcz68_1 := bc BK279 1 rfl
           have hcz68_2 := bc BK279 2 rfl
           have hcz68_3 := bc BK279 3 rfl
           have hfz68_0 := blk_frozen BK279.out 0
           have hfz68_1 := blk_frozen BK279.out 1
           have hfz68_2 := blk_frozen BK279.out 2
           have hfz68_3 := blk_frozen BK279.out 3
           go_wp2
           go_roundg k3
           case measure => have := HJ13.out; have := HK2.out; have := HK3.out; omega
           case rel => exact ⟨(wrap64 (x16_2 + 1)), (by first | rfl | (simp; done) | (simp [*]; done)), H', ⟨by have := HJ13.out; have := HK2.out; have := HK3.out; omega⟩, ⟨kr HO_280003⟩, ⟨kr HO_287003⟩, ⟨kr HO_294003⟩, ⟨kb BK279⟩, ⟨kb BK286⟩, ⟨kb BK293⟩, ⟨bes⟩⟩
       ·
        rw [if_neg c52] at H
        have c52b0 : decide (x16_2 < t273) = false := decide_eq_false c52
        clear c52
        have H' := Aside0.mk H
        clear H
        have hnb69 := NB279_286.out
        have hnc69 := NB286_279.out
        have hnb70 := NB279_293.out
        have hnc70 := NB293_279.out
        have hcz71_0 := bc BK279 0 rfl
        have hcz71_1 := bc BK279 1 rfl
        have hcz71_2 := bc BK279 2 rfl
        have hcz71_3 := bc BK279 3 rfl
        have hfz71_0 := blk_frozen BK279.out 0
        have hfz71_1 := blk_frozen BK279.out 1
        have hfz71_2 := blk_frozen BK279.out 2
        have hfz71_3 := blk_frozen BK279.out 3
        have hnb72 := NB286_293.out
        have hnc72 := NB293_286.out
        have hcz73_0 := bc BK286 0 rfl
        have hcz73_1 := bc BK286 1 rfl
        have hcz73_2 := bc BK286 2 rfl
        have hcz73_3 := bc BK286 3 rfl
        have hfz73_0 := blk_frozen BK286.out 0
        have hfz73_1 := blk_frozen BK286.out 1
        have hfz73_2 := blk_frozen BK286.out 2
        have hfz73_3 := blk_frozen BK286.out 3
        go_wp2
        go_loopg [108] k2 (fun kq v108 w' => ∃ (x108_3 : Int) (x280003_3 : List Int) (x287003_3 : List Int) (x294003_3 : List Int) (u280003 : Value) (u287003 : Value) (u294003 : Value), v108 = .int .i64 x108_3 ∧ Aside0 (gimballaw09_MatCopies.l2 kq a0 a1 a2 l3 a4 a5 (t283.length : Int) x108_3 t273 t274 t275 x280003_3 t280 t281 t282 x287003_3 t287 t288 t289 x294003_3 = some r) ∧ Aside0 (kq ≤ k2) ∧ Aside0 (Kd.R (Kd.int .u64) 30 w' w.heap.size (fun k_ => some k_ ≠ (u287003 : Value).ownBlock ∧ some k_ ≠ (u294003 : Value).ownBlock) u280003 x280003_3) ∧ Aside0 (Kd.R (Kd.int .u64) 30 w' w.heap.size (fun k_ => some k_ ≠ (u280003 : Value).ownBlock ∧ some k_ ≠ (u294003 : Value).ownBlock) u287003 x287003_3) ∧ Aside0 (Kd.R (Kd.int .u64) 30 w' w.heap.size (fun k_ => some k_ ≠ (u280003 : Value).ownBlock ∧ some k_ ≠ (u287003 : Value).ownBlock) u294003 x294003_3) ∧ Aside0 (w'.heap[gb279]? = some (.cells #[.int .i64 t273, .int .i64 t274, .int .i64 t275, u280003] 25 (0, 0))) ∧ Aside0 (w'.heap[gb286]? = some (.cells #[.int .i64 t280, .int .i64 t281, .int .i64 t282, u287003] 25 (0, 0))) ∧ Aside0 (w'.heap[gb293]? = some (.cells #[.int .i64 t287, .int .i64 t288, .int .i64 t289, u294003] 25 (0, 0))) ∧ Aside0 (Below w.heap.size w w'))
        case atStart => exact ⟨(0), (t276), (t283), (t290), (.slice Ao19 t276.length co19), (.slice Ao24 t283.length co24), (.slice Ao31 t290.length co31), (by first | rfl | (simp; done) | (simp [*]; done)), H', ⟨Nat.le_refl _⟩, ⟨kr HO_280003⟩, ⟨kr HO_287003⟩, ⟨kr HO_294003⟩, ⟨kb BK279⟩, ⟨kb BK286⟩, ⟨kb BK293⟩, ⟨bes⟩⟩
        case round =>
         clear H'
         try clear c1
         try clear p2
         try clear c3
         try clear c4
         try clear c5
         try clear c6
         try clear p6
         try clear c7
         try clear c11
         try clear c12
         try clear c16
         try clear c17
         try clear c33
         try clear c34
         try clear c34b0
         try clear c34b1
         try clear c36
         try clear c36b0
         try clear c36b1
         try clear c38
         try clear c38b0
         try clear c38b1
         try clear c39
         try clear c39b0
         try clear c39b1
         try clear c40
         try clear c40b0
         try clear c40b1
         try clear c51
         try clear c52
         try clear c52b0
         try clear c53
         try clear c54
         try clear c56
         try clear c56b0
         try clear c59
         try clear c59b0
         try clear c59b1
         try clear c60
         try clear c61
         try clear p64
         try clear c66
         try clear c67
         try clear c69
         try clear c70
         try clear c72
         try clear hcz55_0
         try clear hcz55_1
         try clear hcz55_2
         try clear hcz55_3
         try clear hcz62_0
         try clear hcz62_1
         try clear hcz62_2
         try clear hcz62_3
         try clear hcz68_0
         try clear hcz68_1
         try clear hcz68_2
         try clear hcz68_3
         try clear hcz71_0
         try clear hcz71_1
         try clear hcz71_2
         try clear hcz71_3
         try clear hcz73_0
         try clear hcz73_1
         try clear hcz73_2
         try clear hcz73_3
         try clear hfz55_0
         try clear hfz55_1
         try clear hfz55_2
         try clear hfz55_3
         try clear hfz62_0
         try clear hfz62_1
         try clear hfz62_2
         try clear hfz62_3
         try clear hfz68_0
         try clear hfz68_1
         try clear hfz68_2
         try clear hfz68_3
         try clear hfz71_0
         try clear hfz71_1
         try clear hfz71_2
         try clear hfz71_3
         try clear hfz73_0
         try clear hfz73_1
         try clear hfz73_2
         try clear hfz73_3
         try clear p2
         obtain ⟨x108_3, x280003_3, x287003_3, x294003_3, u280003, u287003, u294003, rfl, HA, HK3, HO_280003, HO_287003, HO_294003, BK279, BK286, BK293, HB⟩ := hrel
         cases gk with
         | zero => exact absurd HA.out (by simp [gimballaw09_MatCopies.l2])
         | succ k3 =>
          have H := HA.out
          clear HA
          simp only [gimballaw09_MatCopies.l2] at H
          by_cases c74 : x108_3 < (t283.length : Int)
          ·
           rw [if_pos c74] at H
           have c74b0 : decide (x108_3 < (t283.length : Int)) = true := decide_eq_true c74
           clear c74
           by_cases c75 : 0 ≤ x108_3
           rotate_left
           ·
            rw [if_neg c75] at H
            exact absurd H (by simp)
           rw [if_pos c75] at H
           have c75b0 : decide (0 ≤ x108_3) = true := decide_eq_true c75
           clear c75
           by_cases c76 : x108_3 < (x287003_3.length : Int)
           rotate_left
           ·
            rw [if_neg c76] at H
            exact absurd H (by simp)
           rw [if_pos c76] at H
           have c76b0 : decide (x108_3 < (x287003_3.length : Int)) = true := decide_eq_true c76
           clear c76
           obtain ⟨y306, hy306⟩ : ∃ y_ : List Int, y_ = (x287003_3.set (x108_3 : Int).toNat 1) := ⟨_, rfl⟩
           replace H : (gimballaw09_MatCopies.l2 k3 a0 a1 a2 l3 a4 a5 (t283.length : Int) (wrap64 (x108_3 + 1)) t273 t274 t275 x280003_3 t280 t281 t282 y306 t287 t288 t289 x294003_3) = some r := by first | (rw [hy306]; with_reducible exact H) | (have H2_ := (Option.bind_some _ _).symm.trans H; rw [hy306]; with_reducible exact H2_) | (have H2_ := (Option.bind_some _ _).symm.trans H; with_reducible exact H2_) | with_reducible exact H | (rw [hy306]; exact H) | exact H
           have Ny306 := Aside0.mk hy306
           clear hy306
           have H' := Aside0.mk H
           clear H
           have hnb78 := NB286_279.out
           have hnc78 := NB279_286.out
           have hnb79 := NB286_293.out
           have hnc79 := NB293_286.out
           have hcz80_0 := bc BK286 0 rfl
           have hcz80_1 := bc BK286 1 rfl
           have hcz80_2 := bc BK286 2 rfl
           have hcz80_3 := bc BK286 3 rfl
           have hfz80_0 := blk_frozen BK286.out 0
           have hfz80_1 := blk_frozen BK286.out 1
           have hfz80_2 := blk_frozen BK286.out 2
           have hfz80_3 := blk_frozen BK286.out 3
           have p77 : 0 ≤ (x108_3 : Int) := of_decide_eq_true (by first | (with_reducible assumption) | assumption)
           have q77 : (x108_3 : Int) < ((x287003_3.length : Int) : Int) := of_decide_eq_true (by first | (with_reducible assumption) | assumption)
           obtain ⟨go77, co77, eo77, gb77, gl77, cl77, HG77⟩ := Kd.R_form HO_287003.out (by omega)
           (first | cases eo77 | (injection eo77 with ea_ en_ ec_; (first | subst ea_ | (injection ea_ with ea_; subst ea_)); subst ec_; clear en_))
           have GB77 := Aside0.mk gb77
           have GG77 := Aside0.mk HG77
           clear gb77 gl77 HG77
           obtain ⟨hx77_0, hf77_0⟩ := Kd.R_celln 0 HO_287003.out (x108_3 : Int) p77 q77
           replace p77 := eq_true p77
           replace q77 := eq_true q77
           have HP81 := Kd.R_putg HO_287003.out (x108_3 : Int) 1
           go_wp2_with (first | ((with_reducible refine gate_store (t := 30) (p := 114) rfl ?_); refine store_event (t := 30) (p := 114) (v := ?vo_w82) (w1 := (wr.setCell ⟨go77, (x108_3 : Int).toNat, none⟩ (.int .u64 1))) ?hg ?ho ?hn ?hr ?_; (case ho => rfl); (case hg => rfl); (case hn => rfl); (case hr => first | (go_simp; done) | (go_simp; rfl)); intro w82 hw; have hg : wr.grownBy w82 (some go77) := (by rw [hw]; exact HP81.2); have hp_ : Kd.R (Kd.int .u64) 30 w82 w.heap.size (fun k_ => some k_ ≠ (u280003 : Value).ownBlock ∧ some k_ ≠ (u294003 : Value).ownBlock) (.slice (some ⟨go77, 0, none⟩) x287003_3.length co77) y306 := (by rw [hw, Ny306.out]; exact HP81.1); clear HP81; refine ax7 (Kd.R_after (v := (.slice (some ⟨go77, 0, none⟩) x287003_3.length co77)) (v1 := (.slice (some ⟨go77, 0, none⟩) x287003_3.length co77)) (ok := (fun k_ => some k_ ≠ (u294003 : Value).ownBlock)) (by (with_reducible repeat (first | apply Kd.R_alloc | apply Kd.R_drewN | apply Kd.R_drew)); exact Kd.R_mono HO_280003.out (fun _ hk => ⟨hk.2, hk.1⟩)) hg (.inl rfl)) hp_ (Kd.R_after (v := (.slice (some ⟨go77, 0, none⟩) x287003_3.length co77)) (v1 := (.slice (some ⟨go77, 0, none⟩) x287003_3.length co77)) (ok := (fun k_ => some k_ ≠ (u280003 : Value).ownBlock)) (kr HO_294003) hg (.inl rfl)) (blk_grown (g := gb279) (o := .cells #[.int .i64 t273, .int .i64 t274, .int .i64 t275, u280003] 25 (0, 0)) (kb BK279) hg (Kd.R_ne HO_287003.out BK279.out (by decide))) (blk_grown (g := gb286) (o := .cells #[.int .i64 t280, .int .i64 t281, .int .i64 t282, .slice (some ⟨go77, 0, none⟩) x287003_3.length co77] 25 (0, 0)) (kb BK286) hg (Kd.R_ne HO_287003.out BK286.out (by decide))) (blk_grown (g := gb293) (o := .cells #[.int .i64 t287, .int .i64 t288, .int .i64 t289, u294003] 25 (0, 0)) (kb BK293) hg (Kd.R_ne HO_287003.out BK293.out (by decide))) ((by rw [hw]; exact below_set (HB.out) GB77.out : Below w.heap.size w w82)) ?_; clear HO_280003; clear HO_287003; clear HO_294003; clear BK279; clear BK286; clear BK293; clear HB; intro HO_280003 HO_287003 HO_294003 BK279 BK286 BK293 HB; clear hg hw hp_))
           go_roundg k3
           case measure => have := HJ13.out; have := HK2.out; have := HK3.out; omega
           case rel => exact ⟨(wrap64 (x108_3 + 1)), (x280003_3), (y306), (x294003_3), (u280003), (.slice (some ⟨go77, 0, none⟩) x287003_3.length co77), (u294003), (by first | rfl | (simp; done) | (simp [*]; done)), H', ⟨by have := HJ13.out; have := HK2.out; have := HK3.out; omega⟩, ⟨by (with_reducible repeat (first | apply Kd.R_alloc | apply Kd.R_drewN | apply Kd.R_drew)); exact Kd.R_mono HO_280003.out (fun _ hk => ⟨hk.2, hk.1⟩)⟩, ⟨kr HO_287003⟩, ⟨kr HO_294003⟩, ⟨kb BK279⟩, ⟨kb BK286⟩, ⟨kb BK293⟩, ⟨bes⟩⟩
          ·
           rw [if_neg c74] at H
           have c74b0 : decide (x108_3 < (t283.length : Int)) = false := decide_eq_false c74
           clear c74
           have H' := Aside0.mk H
           clear H
           have hnb83 := NB293_279.out
           have hnc83 := NB279_293.out
           have hnb84 := NB293_286.out
           have hnc84 := NB286_293.out
           have hcz85_0 := bc BK293 0 rfl
           have hcz85_1 := bc BK293 1 rfl
           have hcz85_2 := bc BK293 2 rfl
           have hcz85_3 := bc BK293 3 rfl
           have hfz85_0 := blk_frozen BK293.out 0
           have hfz85_1 := blk_frozen BK293.out 1
           have hfz85_2 := blk_frozen BK293.out 2
           have hfz85_3 := blk_frozen BK293.out 3
           obtain ⟨Ao86, co86, eo86⟩ := Kd.R_slice HO_294003.out
           subst eo86
           go_wp2
           go_loopg [119] k3 (fun kq v119 w' => ∃ (x119_4 : Int) (x280003_4 : List Int) (x287003_4 : List Int) (x294003_4 : List Int) (u280003 : Value) (u287003 : Value) (u294003 : Value), v119 = .int .i64 x119_4 ∧ Aside0 (gimballaw09_MatCopies.l3 kq a0 a1 a2 l3 a4 a5 (x294003_3.length : Int) x119_4 t273 t274 t275 x280003_4 t287 t288 t289 x294003_4 = some r) ∧ Aside0 (kq ≤ k3) ∧ Aside0 (Kd.R (Kd.int .u64) 30 w' w.heap.size (fun k_ => some k_ ≠ (u287003 : Value).ownBlock ∧ some k_ ≠ (u294003 : Value).ownBlock) u280003 x280003_4) ∧ Aside0 (Kd.R (Kd.int .u64) 30 w' w.heap.size (fun k_ => some k_ ≠ (u280003 : Value).ownBlock ∧ some k_ ≠ (u294003 : Value).ownBlock) u287003 x287003_4) ∧ Aside0 (Kd.R (Kd.int .u64) 30 w' w.heap.size (fun k_ => some k_ ≠ (u280003 : Value).ownBlock ∧ some k_ ≠ (u287003 : Value).ownBlock) u294003 x294003_4) ∧ Aside0 (w'.heap[gb279]? = some (.cells #[.int .i64 t273, .int .i64 t274, .int .i64 t275, u280003] 25 (0, 0))) ∧ Aside0 (w'.heap[gb286]? = some (.cells #[.int .i64 t280, .int .i64 t281, .int .i64 t282, u287003] 25 (0, 0))) ∧ Aside0 (w'.heap[gb293]? = some (.cells #[.int .i64 t287, .int .i64 t288, .int .i64 t289, u294003] 25 (0, 0))) ∧ Aside0 (Below w.heap.size w w'))
           case atStart => exact ⟨(0), (x280003_3), (x287003_3), (x294003_3), (u280003), (u287003), (.slice Ao86 x294003_3.length co86), (by first | rfl | (simp; done) | (simp [*]; done)), H', ⟨Nat.le_refl _⟩, ⟨kr HO_280003⟩, ⟨kr HO_287003⟩, ⟨kr HO_294003⟩, ⟨kb BK279⟩, ⟨kb BK286⟩, ⟨kb BK293⟩, ⟨bes⟩⟩
           case round =>
            clear H'
            try clear c1
            try clear p2
            try clear c3
            try clear c4
            try clear c5
            try clear c6
            try clear p6
            try clear c7
            try clear p7
            try clear q7
            try clear hx7
            try clear hf7
            try clear c8
            try clear c11
            try clear c12
            try clear c16
            try clear c17
            try clear c33
            try clear c34
            try clear c34b0
            try clear c34b1
            try clear c36
            try clear c36b0
            try clear c36b1
            try clear c38
            try clear c38b0
            try clear c38b1
            try clear c39
            try clear c39b0
            try clear c39b1
            try clear c40
            try clear c40b0
            try clear c40b1
            try clear c51
            try clear c52
            try clear c52b0
            try clear c53
            try clear c54
            try clear c56
            try clear c56b0
            try clear c59
            try clear c59b0
            try clear c59b1
            try clear c60
            try clear c61
            try clear p64
            try clear c66
            try clear c67
            try clear c69
            try clear c70
            try clear c72
            try clear c74
            try clear c74b0
            try clear c75
            try clear c75b0
            try clear c76
            try clear c76b0
            try clear p77
            try clear q77
            try clear hx77
            try clear hf77
            try clear c78
            try clear c79
            try clear c83
            try clear c84
            try clear hcz55_0
            try clear hcz55_1
            try clear hcz55_2
            try clear hcz55_3
            try clear hcz62_0
            try clear hcz62_1
            try clear hcz62_2
            try clear hcz62_3
            try clear hcz68_0
            try clear hcz68_1
            try clear hcz68_2
            try clear hcz68_3
            try clear hcz71_0
            try clear hcz71_1
            try clear hcz71_2
            try clear hcz71_3
            try clear hcz73_0
            try clear hcz73_1
            try clear hcz73_2
            try clear hcz73_3
            try clear hcz80_0
            try clear hcz80_1
            try clear hcz80_2
            try clear hcz80_3
            try clear hcz85_0
            try clear hcz85_1
            try clear hcz85_2
            try clear hcz85_3
            try clear hfz55_0
            try clear hfz55_1
            try clear hfz55_2
            try clear hfz55_3
            try clear hfz62_0
            try clear hfz62_1
            try clear hfz62_2
            try clear hfz62_3
            try clear hfz68_0
            try clear hfz68_1
            try clear hfz68_2
            try clear hfz68_3
            try clear hfz71_0
            try clear hfz71_1
            try clear hfz71_2
            try clear hfz71_3
            try clear hfz73_0
            try clear hfz73_1
            try clear hfz73_2
            try clear hfz73_3
            try clear hfz80_0
            try clear hfz80_1
            try clear hfz80_2
            try clear hfz80_3
            try clear hfz85_0
            try clear hfz85_1
            try clear hfz85_2
            try clear hfz85_3
            try clear hx77_0
            try clear p2
            try clear p6
            try clear p64
            try clear p77
            try clear q77
            obtain ⟨x119_4, x280003_4, x287003_4, x294003_4, u280003, u287003, u294003, rfl, HA, HK4, HO_280003, HO_287003, HO_294003, BK279, BK286, BK293, HB⟩ := hrel
            cases gk with
            | zero => exact absurd HA.out (by simp [gimballaw09_MatCopies.l3])
            | succ k4 =>
             have H := HA.out
             clear HA
             simp only [gimballaw09_MatCopies.l3] at H
             by_cases c87 : x119_4 < (x294003_3.length : Int)
             ·
              rw [if_pos c87] at H
              have c87b0 : decide (x119_4 < (x294003_3.length : Int)) = true := decide_eq_true c87
              clear c87
              by_cases c88 : 0 ≤ x119_4
              rotate_left
              ·
               rw [if_neg c88] at H
               exact absurd H (by simp)
              rw [if_pos c88] at H
              have c88b0 : decide (0 ≤ x119_4) = true := decide_eq_true c88
              clear c88
              by_cases c89 : x119_4 < (x294003_4.length : Int)
              rotate_left
              ·
               rw [if_neg c89] at H
               exact absurd H (by simp)
              rw [if_pos c89] at H
              have c89b0 : decide (x119_4 < (x294003_4.length : Int)) = true := decide_eq_true c89
              clear c89
              obtain ⟨y307, hy307⟩ : ∃ y_ : List Int, y_ = (x294003_4.set (x119_4 : Int).toNat 1) := ⟨_, rfl⟩
              replace H : (gimballaw09_MatCopies.l3 k4 a0 a1 a2 l3 a4 a5 (x294003_3.length : Int) (wrap64 (x119_4 + 1)) t273 t274 t275 x280003_4 t287 t288 t289 y307) = some r := by first | (rw [hy307]; with_reducible exact H) | (have H2_ := (Option.bind_some _ _).symm.trans H; rw [hy307]; with_reducible exact H2_) | (have H2_ := (Option.bind_some _ _).symm.trans H; with_reducible exact H2_) | with_reducible exact H | (rw [hy307]; exact H) | exact H
              have Ny307 := Aside0.mk hy307
              clear hy307
              have H' := Aside0.mk H
              clear H
              have hnb91 := NB293_279.out
              have hnc91 := NB279_293.out
              have hnb92 := NB293_286.out
              have hnc92 := NB286_293.out
              have hcz93_0 := bc BK293 0 rfl
              have hcz93_1 := bc BK293 1 rfl
              have hcz93_2 := bc BK293 2 rfl
              have hcz93_3 := bc BK293 3 rfl
              have hfz93_0 := blk_frozen BK293.out 0
              have hfz93_1 := blk_frozen BK293.out 1
              have hfz93_2 := blk_frozen BK293.out 2
              have hfz93_3 := blk_frozen BK293.out 3
              have p90 : 0 ≤ (x119_4 : Int) := of_decide_eq_true (by first | (with_reducible assumption) | assumption)
              have q90 : (x119_4 : Int) < ((x294003_4.length : Int) : Int) := of_decide_eq_true (by first | (with_reducible assumption) | assumption)
              obtain ⟨go90, co90, eo90, gb90, gl90, cl90, HG90⟩ := Kd.R_form HO_294003.out (by omega)
              (first | cases eo90 | (injection eo90 with ea_ en_ ec_; (first | subst ea_ | (injection ea_ with ea_; subst ea_)); subst ec_; clear en_))
              have GB90 := Aside0.mk gb90
              have GG90 := Aside0.mk HG90
              clear gb90 gl90 HG90
              obtain ⟨hx90_0, hf90_0⟩ := Kd.R_celln 0 HO_294003.out (x119_4 : Int) p90 q90
              replace p90 := eq_true p90
              replace q90 := eq_true q90
              have HP94 := Kd.R_putg HO_294003.out (x119_4 : Int) 1
              go_wp2_with (first | ((with_reducible refine gate_store (t := 30) (p := 125) rfl ?_); refine store_event (t := 30) (p := 125) (v := ?vo_w95) (w1 := (wr.setCell ⟨go90, (x119_4 : Int).toNat, none⟩ (.int .u64 1))) ?hg ?ho ?hn ?hr ?_; (case ho => rfl); (case hg => rfl); (case hn => rfl); (case hr => first | (go_simp; done) | (go_simp; rfl)); intro w95 hw; have hg : wr.grownBy w95 (some go90) := (by rw [hw]; exact HP94.2); have hp_ : Kd.R (Kd.int .u64) 30 w95 w.heap.size (fun k_ => some k_ ≠ (u280003 : Value).ownBlock ∧ some k_ ≠ (u287003 : Value).ownBlock) (.slice (some ⟨go90, 0, none⟩) x294003_4.length co90) y307 := (by rw [hw, Ny307.out]; exact HP94.1); clear HP94; refine ax7 (Kd.R_after (v := (.slice (some ⟨go90, 0, none⟩) x294003_4.length co90)) (v1 := (.slice (some ⟨go90, 0, none⟩) x294003_4.length co90)) (ok := (fun k_ => some k_ ≠ (u287003 : Value).ownBlock)) (kr HO_280003) hg (.inl rfl)) (Kd.R_after (v := (.slice (some ⟨go90, 0, none⟩) x294003_4.length co90)) (v1 := (.slice (some ⟨go90, 0, none⟩) x294003_4.length co90)) (ok := (fun k_ => some k_ ≠ (u280003 : Value).ownBlock)) (kr HO_287003) hg (.inl rfl)) hp_ (blk_grown (g := gb279) (o := .cells #[.int .i64 t273, .int .i64 t274, .int .i64 t275, u280003] 25 (0, 0)) (kb BK279) hg (Kd.R_ne HO_294003.out BK279.out (by decide))) (blk_grown (g := gb286) (o := .cells #[.int .i64 t280, .int .i64 t281, .int .i64 t282, u287003] 25 (0, 0)) (kb BK286) hg (Kd.R_ne HO_294003.out BK286.out (by decide))) (blk_grown (g := gb293) (o := .cells #[.int .i64 t287, .int .i64 t288, .int .i64 t289, .slice (some ⟨go90, 0, none⟩) x294003_4.length co90] 25 (0, 0)) (kb BK293) hg (Kd.R_ne HO_294003.out BK293.out (by decide))) ((by rw [hw]; exact below_set (HB.out) GB90.out : Below w.heap.size w w95)) ?_; clear HO_280003; clear HO_287003; clear HO_294003; clear BK279; clear BK286; clear BK293; clear HB; intro HO_280003 HO_287003 HO_294003 BK279 BK286 BK293 HB; clear hg hw hp_))
              go_roundg k4
              case measure => have := HJ13.out; have := HK2.out; have := HK3.out; have := HK4.out; omega
              case rel => exact ⟨(wrap64 (x119_4 + 1)), (x280003_4), (x287003_4), (y307), (u280003), (u287003), (.slice (some ⟨go90, 0, none⟩) x294003_4.length co90), (by first | rfl | (simp; done) | (simp [*]; done)), H', ⟨by have := HJ13.out; have := HK2.out; have := HK3.out; have := HK4.out; omega⟩, ⟨kr HO_280003⟩, ⟨kr HO_287003⟩, ⟨kr HO_294003⟩, ⟨kb BK279⟩, ⟨kb BK286⟩, ⟨kb BK293⟩, ⟨bes⟩⟩
             ·
              rw [if_neg c87] at H
              have c87b0 : decide (x119_4 < (x294003_3.length : Int)) = false := decide_eq_false c87
              clear c87
              obtain ⟨⟨t308, t309, t310, t311⟩, A960, H⟩ := Option.bind_eq_some_iff.mp H
              (try dsimp -simprocs only at H)
              have A96 := Aside0.mk A960
              clear A960
              obtain ⟨t314, A970, H⟩ := Option.bind_eq_some_iff.mp H
              (try dsimp -simprocs only at H)
              have A97 := Aside0.mk A970
              clear A970
              by_cases c98 : t314 = true
              rotate_left
              ·
               replace c98 := Bool.eq_false_iff.mpr c98
               subst c98
               rw [if_neg (show ¬ (false = true) by decide)] at H
               rw [hLW] at H
               exact absurd H (by simp)
              subst c98
              rw [if_pos rfl] at H
              obtain ⟨⟨t315, t316, t317, t318, t321⟩, A990, H⟩ := Option.bind_eq_some_iff.mp H
              (try dsimp -simprocs only at H)
              have A99 := Aside0.mk A990
              clear A990
              have HC100 := Aside0.mk H
              clear H
              try go_wp2
              refine ax7 (Kd.R_drew HO_280003.out) (Kd.R_drew HO_287003.out) (Kd.R_drew HO_294003.out) (blk_drew BK279.out) (blk_drew BK286.out) (blk_drew BK293.out) (below_drew1 HB.out) ?_
              clear HO_280003 HO_287003 HO_294003 BK279 BK286 BK293 HB
              intro HO_280003 HO_287003 HO_294003 BK279 BK286 BK293 HB
              refine start_ (n := 8) (S := fun w' => w'.cell? ⟨gb279, 0, none⟩ = some (.int .i64 t273) ∧ w'.cell? ⟨gb279, 1, none⟩ = some (.int .i64 t274) ∧ w'.cell? ⟨gb279, 2, none⟩ = some (.int .i64 t275) ∧ w'.cell? ⟨gb279, 3, none⟩ = some (u280003)) (ds := []) #[false, false, false, false, false, false, false, false] (by kernel_rfl) rfl rfl ⟨(blk_cell BK279.out 0).trans rfl, (blk_cell BK279.out 1).trans rfl, (blk_cell BK279.out 2).trans rfl, (blk_cell BK279.out 3).trans rfl⟩ (fun hHeld => ?_); refine with_tabW gimballaw09_MatCopies.tab28 gimballaw09_MatCopies.bits28 (fun HT_ HW_ => ?_)
              generalize wr.drew = w101 at HO_280003 HO_287003 HO_294003 BK279 BK286 BK293 HB hHeld ⊢
              refine pure_ (i := 1) (N := some 128) (v := ?_) (a' := ?_) #[false, true, false, false, false, false, false, false] rfl rfl (any_of HT_.out (by kernel_rfl)) (fun _ _ _ h => h) (Or.inl ⟨by rfl, ?_⟩) ?_ ?_
              rotate_left
              ·
               intro w'
               go_simp
               with_reducible rfl
              rotate_left
              ·
               simp only [Act.put, sa0, sa1, sa2, i64_w, i32_w]
               rfl
              refine pure_ (i := 2) (N := some 129) (v := ?_) (a' := ?_) #[false, true, true, false, false, false, false, false] rfl rfl (any_of HT_.out (by kernel_rfl)) (fun _ _ _ h => h) (Or.inl ⟨by rfl, ?_⟩) ?_ ?_
              rotate_left
              ·
               intro w'
               go_simp
               with_reducible rfl
              rotate_left
              ·
               simp only [Act.put, sa0, sa1, sa2, i64_w, i32_w]
               rfl
              refine pure_ (i := 3) (N := some 130) (v := ?_) (a' := ?_) #[false, true, true, true, false, false, false, false] rfl rfl (any_of HT_.out (by kernel_rfl)) (fun _ _ _ h => h) (Or.inl ⟨by rfl, ?_⟩) ?_ ?_
              rotate_left
              ·
               intro w'
               go_simp
               with_reducible rfl
              rotate_left
              ·
               simp only [Act.put, sa0, sa1, sa2, i64_w, i32_w]
               rfl
              refine pure_ (i := 4) (N := some 131) (v := ?_) (a' := ?_) #[false, true, true, true, true, false, false, false] rfl rfl (any_of HT_.out (by kernel_rfl)) (fun _ _ _ h => h) (Or.inl ⟨by rfl, ?_⟩) ?_ ?_
              rotate_left
              ·
               intro w'
               go_simp
               with_reducible rfl
              rotate_left
              ·
               simp only [Act.put, sa0, sa1, sa2, i64_w, i32_w]
               rfl
              refine take_ (i := 0) (N := some 127) (v := ?_) (a' := ?_) #[true, true, true, true, true, false, false, false] rfl rfl (take_ofW HT_.out HW_.out (by kernel_rfl)) (fun _ _ _ h => h) (Or.inl ⟨by rfl, ?_⟩) hHeld ?_ ?_
              rotate_left
              ·
               rintro w' ⟨s0, s1, s2, s3⟩
               go_simp
               with_reducible rfl
              rotate_left
              ·
               simp only [Act.put, sa0, sa1, sa2, i64_w, i32_w]
               rfl
              refine one_ (i := 5) (N := some 132) #[true, true, true, true, true, true, false, false] rfl rfl (one_of HT_.out (by kernel_rfl)) (by decide) (fun K hK => ?_)
              refine goes_ Try.func8 (by kernel_rfl) rfl #[.int .i64 a0, .int .i64 a1, .int .i64 a2, .slice A3 l3.length c3] (by rfl) rfl rfl ga ?_
              with_reducible refine (gimballaw09_Made.calls k4 a0 a1 a2 _ _ l3 t308 t309 t310 t311 _ ?side1 ?side2 A96.out).mono ?_
              (case side1 => repeat (first | exact (Kd.C_below HR3.out HB.out) | (with_reducible refine Kd.C_alloc ?_ _) | (with_reducible refine Kd.C_drewN ?_ _) | (with_reducible refine Kd.C_drew ?_)))
              (case side2 => exact HC3.out)
              rintro e w102 ⟨v312, rfl, ho0, hb⟩
              refine ⟨_, rfl, ?_⟩
              refine ax8 (Kd.R_elder' (kr HO_280003) (Kd.R_base ho0) hb) (Kd.R_elder' (kr HO_287003) (Kd.R_base ho0) hb) (Kd.R_elder' (kr HO_294003) (Kd.R_base ho0) hb) (Kd.R_lower (Kd.R_new' (Kd.R_new' (Kd.R_new' ho0 (Kd.R_lt (kr HO_280003))) (Kd.R_lt (kr HO_287003))) (Kd.R_lt (kr HO_294003))) (below_size bes)) (bb BK279 hb) (bb BK286 hb) (bb BK293 hb) (below_step bes hb) ?_
              clear HO_280003 HO_287003 HO_294003 BK279 BK286 BK293 HB
              intro HO_280003 HO_287003 HO_294003 HO313 BK279 BK286 BK293 HB
              (try clear hb)
              (try clear hb2)
              (try clear hk)
              (try clear hi)
              (try clear ho0)
              obtain ⟨Ao103, co103, eo103⟩ := Kd.R_slice HO_280003.out
              (first | subst eo103 | (injection eo103 with f1_ f2_ f3_; have f4_ := f1_.symm; have f5_ := f3_.symm; clear f1_ f2_ f3_; subst f4_; subst f5_))
              obtain ⟨Ao104, co104, eo104⟩ := Kd.R_slice HO313.out
              (first | subst eo104 | (injection eo104 with f1_ f2_ f3_; have f4_ := f1_.symm; have f5_ := f3_.symm; clear f1_ f2_ f3_; subst f4_; subst f5_))
              refine hK.out _ _ ⟨(blk_cell BK279.out 0).trans rfl, (blk_cell BK279.out 1).trans rfl, (blk_cell BK279.out 2).trans rfl, (blk_cell BK279.out 3).trans rfl⟩ (fun hHeld => ?_)
              clear hK K
              refine norm_ (a' := ?_) ?_ ?_
              rotate_left
              ·
               show Act.put _ (some 132) _ = _
               simp only [Act.put, sa0, sa1, sa2, i64_w, i32_w]
               rfl
              refine one_ (i := 6) (N := some 133) #[true, true, true, true, true, true, true, false] rfl rfl (one_of HT_.out (by kernel_rfl)) (by decide) (fun K hK => ?_)
              refine goes_ Try.func17 (by kernel_rfl) rfl #[.agg #[.int .i64 t273, .int .i64 t274, .int .i64 t275, .slice Ao103 x280003_4.length co103], .agg #[.int .i64 t308, .int .i64 t309, .int .i64 t310, .slice Ao104 t311.length co104]] (by rfl) rfl rfl ga ?_
              with_reducible refine (mat_Matrix_Same.calls k4 t273 t274 t275 _ _ x280003_4 t308 t309 t310 _ _ t311 true _ ?side1 ?side2 ?side3 ?side4 A97.out).mono ?_
              (case side1 => exact ks HO_280003)
              (case side2 => exact (Kd.R_reads' HO_280003.out).2.1)
              (case side3 => exact ks HO313)
              (case side4 => exact (Kd.R_reads' HO313.out).2.1)
              rintro e w105 ⟨rfl, hb⟩
              refine ⟨_, rfl, ?_⟩
              refine ax8 (Kd.R_below (kr HO_280003) hb) (Kd.R_below (kr HO_287003) hb) (Kd.R_below (kr HO_294003) hb) (Kd.R_below (kr HO313) hb) (bb BK279 hb) (bb BK286 hb) (bb BK293 hb) (below_step bes hb) ?_
              clear HO_280003 HO_287003 HO_294003 HO313 BK279 BK286 BK293 HB
              intro HO_280003 HO_287003 HO_294003 HO313 BK279 BK286 BK293 HB
              (try clear hb)
              (try clear hb2)
              (try clear hk)
              (try clear hi)
              refine hK.out _ _ ⟨(blk_cell BK279.out 0).trans rfl, (blk_cell BK279.out 1).trans rfl, (blk_cell BK279.out 2).trans rfl, (blk_cell BK279.out 3).trans rfl⟩ (fun hHeld => ?_)
              clear hK K
              refine norm_ (a' := ?_) ?_ ?_
              rotate_left
              ·
               show Act.put _ (some 133) _ = _
               simp only [Act.put, sa0, sa1, sa2, i64_w, i32_w]
               rfl
              refine pure_ (i := 7) (N := some 134) (v := ?_) (a' := ?_) #[true, true, true, true, true, true, true, true] rfl rfl (any_of HT_.out (by kernel_rfl)) (fun _ _ _ h => h) (Or.inl ⟨by rfl, ?_⟩) ?_ ?_
              rotate_left
              ·
               intro w'
               go_simp
               with_reducible rfl
              rotate_left
              ·
               simp only [Act.put, sa0, sa1, sa2, i64_w, i32_w]
               rfl
              refine done_ (done_of HT_.out (by kernel_rfl)) ?_
              have hnb106 := NB279_286.out
              have hnc106 := NB286_279.out
              have hnb107 := NB279_293.out
              have hnc107 := NB293_279.out
              have hcz108_0 := bc BK279 0 rfl
              have hcz108_1 := bc BK279 1 rfl
              have hcz108_2 := bc BK279 2 rfl
              have hcz108_3 := bc BK279 3 rfl
              have hfz108_0 := blk_frozen BK279.out 0
              have hfz108_1 := blk_frozen BK279.out 1
              have hfz108_2 := blk_frozen BK279.out 2
              have hfz108_3 := blk_frozen BK279.out 3
              go_upto_region 31 with (first | ((with_reducible refine gate_callee (f := 13) rfl ?_); refine goesL_ (some 139) rfl rfl Try.func13 (by kernel_rfl) rfl #[.agg #[.int .i64 t273, .int .i64 t274, .int .i64 t275, .slice Ao103 x280003_4.length co103], .int .i64 a4, .int .i64 a5, .int .i64 1, .int .i64 1] rfl ga ?_; (with_reducible refine (mat_Matrix_Cut.calls k4 t273 t274 t275 _ _ x280003_4 a4 a5 1 1 t315 t316 t317 t318 t321 _ ?side1 ?side2 A99.out).mono ?_); (case side1 => exact ks HO_280003); (case side2 => exact (Kd.R_reads' HO_280003.out).2.1); rintro e w109 ⟨v319, rfl, ho0, hb⟩; refine ⟨_, rfl, ?_⟩; refine ax9 (Kd.R_elder' (kr HO_280003) (Kd.R_base ho0) hb) (Kd.R_elder' (kr HO_287003) (Kd.R_base ho0) hb) (Kd.R_elder' (kr HO_294003) (Kd.R_base ho0) hb) (Kd.R_elder' (kr HO313) (Kd.R_base ho0) hb) (Kd.R_lower (Kd.R_new' (Kd.R_new' (Kd.R_new' (Kd.R_new' ho0 (Kd.R_lt (kr HO_280003))) (Kd.R_lt (kr HO_287003))) (Kd.R_lt (kr HO_294003))) (Kd.R_lt (kr HO313))) (below_size bes)) (bb BK279 hb) (bb BK286 hb) (bb BK293 hb) (below_step bes hb) ?_; clear HO_280003; clear HO_287003; clear HO_294003; clear HO313; clear BK279; clear BK286; clear BK293; clear HB; intro HO_280003 HO_287003 HO_294003 HO313 HO320 BK279 BK286 BK293 HB; (try clear hb); (try clear ho0)) | ((with_reducible refine gate_dst (N := 20) rfl ?_); refine gbox (N := 20) (cs := #[.int .i64 0, .int .i64 0, .int .i64 0, .slice none 0 0]) (t := 25) ?_; intro gb322 hg w110 hbox hb; refine ax18 (Kd.R_below (kr HO_280003) hb) (Kd.R_below (kr HO_287003) hb) (Kd.R_below (kr HO_294003) hb) (Kd.R_below (kr HO313) hb) (Kd.R_below (kr HO320) hb) (bb BK279 hb) (bb BK286 hb) (bb BK293 hb) (below_step bes hb) hbox ((ge hg : w.heap.size ≤ gb322)) ((ge hg : w.heap.size ≤ gb322)) (nl hg BK279) (ng hg BK279) (nl hg BK286) (ng hg BK286) (nl hg BK293) (ng hg BK293) ?_; clear HO_280003; clear HO_287003; clear HO_294003; clear HO313; clear HO320; clear BK279; clear BK286; clear BK293; clear HB; intro HO_280003 HO_287003 HO_294003 HO313 HO320 BK279 BK286 BK293 HB BK322 GW322 GE322 NB279_322 NB322_279 NB286_322 NB322_286 NB293_322 NB322_293; clear hb hbox hg; have hnb111 := NB322_279.out; have hnc111 := NB279_322.out; have hnb112 := NB322_286.out; have hnc112 := NB286_322.out; have hnb113 := NB322_293.out; have hnc113 := NB293_322.out; have hcz114_0 := bc BK322 0 rfl; have hcz114_1 := bc BK322 1 rfl; have hcz114_2 := bc BK322 2 rfl; have hcz114_3 := bc BK322 3 rfl; have hfz114_0 := blk_frozen BK322.out 0; have hfz114_1 := blk_frozen BK322.out 1; have hfz114_2 := blk_frozen BK322.out 2; have hfz114_3 := blk_frozen BK322.out 3; obtain ⟨Ao115, co115, eo115⟩ := Kd.R_slice HO320.out; subst eo115))
              (try simp only [Act.put, sa0, sa1, sa2])
              go_cut [159] (fun v159 wc => ∃ (kq : Nat) (x159_99 : Bool), v159 = .bool x159_99 ∧ Aside0 (gimballaw09_MatCopies.j5 kq a4 a5 t321 x159_99 t273 t274 t275 x280003_4 t315 t316 t317 t318 = some r) ∧ Aside0 (kq ≤ k4) ∧ Aside0 (Kd.R (Kd.int .u64) 30 wc w.heap.size (fun k_ => some k_ ≠ (u287003 : Value).ownBlock ∧ some k_ ≠ (u294003 : Value).ownBlock ∧ some k_ ≠ ((.slice Ao115 t318.length co115) : Value).ownBlock) (.slice Ao103 x280003_4.length co103) x280003_4) ∧ Aside0 (Kd.R (Kd.int .u64) 30 wc w.heap.size (fun k_ => some k_ ≠ ((.slice Ao103 x280003_4.length co103) : Value).ownBlock ∧ some k_ ≠ (u294003 : Value).ownBlock ∧ some k_ ≠ ((.slice Ao115 t318.length co115) : Value).ownBlock) u287003 x287003_4) ∧ Aside0 (Kd.R (Kd.int .u64) 30 wc w.heap.size (fun k_ => some k_ ≠ ((.slice Ao103 x280003_4.length co103) : Value).ownBlock ∧ some k_ ≠ (u287003 : Value).ownBlock ∧ some k_ ≠ ((.slice Ao115 t318.length co115) : Value).ownBlock) u294003 x294003_4) ∧ Aside0 (Kd.R (Kd.int .u64) 30 wc w.heap.size (fun k_ => some k_ ≠ ((.slice Ao103 x280003_4.length co103) : Value).ownBlock ∧ some k_ ≠ (u287003 : Value).ownBlock ∧ some k_ ≠ (u294003 : Value).ownBlock) (.slice Ao115 t318.length co115) t318) ∧ Aside0 (wc.heap[gb279]? = some (.cells #[.int .i64 t273, .int .i64 t274, .int .i64 t275, (.slice Ao103 x280003_4.length co103)] 25 (0, 0))) ∧ Aside0 (wc.heap[gb286]? = some (.cells #[.int .i64 t280, .int .i64 t281, .int .i64 t282, u287003] 25 (0, 0))) ∧ Aside0 (wc.heap[gb293]? = some (.cells #[.int .i64 t287, .int .i64 t288, .int .i64 t289, u294003] 25 (0, 0))) ∧ Aside0 (wc.heap[gb322]? = some (.cells #[.int .i64 t315, .int .i64 t316, .int .i64 t317, (.slice Ao115 t318.length co115)] 25 (0, 0))) ∧ Aside0 (Below w.heap.size w wc))
              case first => as_aux_lemma =>
               have H := HC100.out
               clear HC100
               by_cases c116 : a4 < 0
               ·
                rw [if_pos c116] at H
                have c116b0 : decide (a4 < 0) = true := decide_eq_true c116
                clear c116
                (first | rw [c116b0] | (simp only [i64_w, i32_w]; rw [c116b0]) | skip)
                have H' := Aside0.mk H
                clear H
                go_wp2
                go_meet
                case rel => exact ⟨_, (true), (by first | rfl | (simp; done) | (simp [*]; done)), H', ⟨by have := HJ13.out; have := HK2.out; have := HK3.out; have := HK4.out; first | omega | exact Nat.le_refl _⟩, ⟨by (with_reducible repeat (first | apply Kd.R_alloc | apply Kd.R_drewN | apply Kd.R_drew)); exact Kd.R_mono (Kd.R_far (p := ⟨gb322, 3, none⟩) (Kd.R_far (p := ⟨gb322, 2, none⟩) (Kd.R_far (p := ⟨gb322, 1, none⟩) (Kd.R_far (p := ⟨gb322, 0, none⟩) (Kd.R_types HO_280003.out BK322.out (by decide)) (fun _ hk => hk.2) (.int .i64 t315)) (fun _ hk => hk.2) (.int .i64 t316)) (fun _ hk => hk.2) (.int .i64 t317)) (fun _ hk => hk.2) (.slice Ao115 t318.length co115)) (fun _ hk => ⟨hk.1.1.1.1, ⟨hk.1.1.1.2, hk.1.2⟩⟩)⟩, ⟨by (with_reducible repeat (first | apply Kd.R_alloc | apply Kd.R_drewN | apply Kd.R_drew)); exact Kd.R_mono (Kd.R_far (p := ⟨gb322, 3, none⟩) (Kd.R_far (p := ⟨gb322, 2, none⟩) (Kd.R_far (p := ⟨gb322, 1, none⟩) (Kd.R_far (p := ⟨gb322, 0, none⟩) (Kd.R_types HO_287003.out BK322.out (by decide)) (fun _ hk => hk.2) (.int .i64 t315)) (fun _ hk => hk.2) (.int .i64 t316)) (fun _ hk => hk.2) (.int .i64 t317)) (fun _ hk => hk.2) (.slice Ao115 t318.length co115)) (fun _ hk => ⟨hk.1.1.1.1, ⟨hk.1.1.1.2, hk.1.2⟩⟩)⟩, ⟨by (with_reducible repeat (first | apply Kd.R_alloc | apply Kd.R_drewN | apply Kd.R_drew)); exact Kd.R_mono (Kd.R_far (p := ⟨gb322, 3, none⟩) (Kd.R_far (p := ⟨gb322, 2, none⟩) (Kd.R_far (p := ⟨gb322, 1, none⟩) (Kd.R_far (p := ⟨gb322, 0, none⟩) (Kd.R_types HO_294003.out BK322.out (by decide)) (fun _ hk => hk.2) (.int .i64 t315)) (fun _ hk => hk.2) (.int .i64 t316)) (fun _ hk => hk.2) (.int .i64 t317)) (fun _ hk => hk.2) (.slice Ao115 t318.length co115)) (fun _ hk => ⟨hk.1.1.1.1, ⟨hk.1.1.1.2, hk.1.2⟩⟩)⟩, ⟨by (with_reducible repeat (first | apply Kd.R_alloc | apply Kd.R_drewN | apply Kd.R_drew)); exact Kd.R_mono (Kd.R_far (p := ⟨gb322, 3, none⟩) (Kd.R_far (p := ⟨gb322, 2, none⟩) (Kd.R_far (p := ⟨gb322, 1, none⟩) (Kd.R_far (p := ⟨gb322, 0, none⟩) (Kd.R_types HO320.out BK322.out (by decide)) (fun _ hk => hk.2) (.int .i64 t315)) (fun _ hk => hk.2) (.int .i64 t316)) (fun _ hk => hk.2) (.int .i64 t317)) (fun _ hk => hk.2) (.slice Ao115 t318.length co115)) (fun _ hk => ⟨hk.1.1.1.1.2, ⟨hk.1.1.1.2, hk.1.1.2⟩⟩)⟩, ⟨by (with_reducible repeat (first | refine blk_drewN ?_ _ | refine blk_drew ?_ | refine blk_alloc ?_ _)); refine blk_far ?_ NB279_322.out _; (with_reducible repeat (first | refine blk_drewN ?_ _ | refine blk_drew ?_ | refine blk_alloc ?_ _)); refine blk_far ?_ NB279_322.out _; (with_reducible repeat (first | refine blk_drewN ?_ _ | refine blk_drew ?_ | refine blk_alloc ?_ _)); refine blk_far ?_ NB279_322.out _; (with_reducible repeat (first | refine blk_drewN ?_ _ | refine blk_drew ?_ | refine blk_alloc ?_ _)); refine blk_far ?_ NB279_322.out _; (with_reducible repeat (first | refine blk_drewN ?_ _ | refine blk_drew ?_ | refine blk_alloc ?_ _)); exact BK279.out⟩, ⟨by (with_reducible repeat (first | refine blk_drewN ?_ _ | refine blk_drew ?_ | refine blk_alloc ?_ _)); refine blk_far ?_ NB286_322.out _; (with_reducible repeat (first | refine blk_drewN ?_ _ | refine blk_drew ?_ | refine blk_alloc ?_ _)); refine blk_far ?_ NB286_322.out _; (with_reducible repeat (first | refine blk_drewN ?_ _ | refine blk_drew ?_ | refine blk_alloc ?_ _)); refine blk_far ?_ NB286_322.out _; (with_reducible repeat (first | refine blk_drewN ?_ _ | refine blk_drew ?_ | refine blk_alloc ?_ _)); refine blk_far ?_ NB286_322.out _; (with_reducible repeat (first | refine blk_drewN ?_ _ | refine blk_drew ?_ | refine blk_alloc ?_ _)); exact BK286.out⟩, ⟨by (with_reducible repeat (first | refine blk_drewN ?_ _ | refine blk_drew ?_ | refine blk_alloc ?_ _)); refine blk_far ?_ NB293_322.out _; (with_reducible repeat (first | refine blk_drewN ?_ _ | refine blk_drew ?_ | refine blk_alloc ?_ _)); refine blk_far ?_ NB293_322.out _; (with_reducible repeat (first | refine blk_drewN ?_ _ | refine blk_drew ?_ | refine blk_alloc ?_ _)); refine blk_far ?_ NB293_322.out _; (with_reducible repeat (first | refine blk_drewN ?_ _ | refine blk_drew ?_ | refine blk_alloc ?_ _)); refine blk_far ?_ NB293_322.out _; (with_reducible repeat (first | refine blk_drewN ?_ _ | refine blk_drew ?_ | refine blk_alloc ?_ _)); exact BK293.out⟩, ⟨by (with_reducible repeat (first | refine blk_drewN ?_ _ | refine blk_drew ?_ | refine blk_alloc ?_ _)); refine blk_put (cs := #[.int .i64 t315, .int .i64 t316, .int .i64 t317, .slice none 0 0]) ?_ 3 _ rfl; (with_reducible repeat (first | refine blk_drewN ?_ _ | refine blk_drew ?_ | refine blk_alloc ?_ _)); refine blk_put (cs := #[.int .i64 t315, .int .i64 t316, .int .i64 0, .slice none 0 0]) ?_ 2 _ rfl; (with_reducible repeat (first | refine blk_drewN ?_ _ | refine blk_drew ?_ | refine blk_alloc ?_ _)); refine blk_put (cs := #[.int .i64 t315, .int .i64 0, .int .i64 0, .slice none 0 0]) ?_ 1 _ rfl; (with_reducible repeat (first | refine blk_drewN ?_ _ | refine blk_drew ?_ | refine blk_alloc ?_ _)); refine blk_put (cs := #[.int .i64 0, .int .i64 0, .int .i64 0, .slice none 0 0]) ?_ 0 _ rfl; (with_reducible repeat (first | refine blk_drewN ?_ _ | refine blk_drew ?_ | refine blk_alloc ?_ _)); exact BK322.out⟩, ⟨bes⟩⟩
               ·
                rw [if_neg c116] at H
                have c116b0 : decide (a4 < 0) = false := decide_eq_false c116
                clear c116
                (first | rw [c116b0] | (simp only [i64_w, i32_w]; rw [c116b0]) | skip)
                by_cases c117 : a5 < 0
                ·
                 rw [if_pos c117] at H
                 have c117b0 : decide (a5 < 0) = true := decide_eq_true c117
                 clear c117
                 have H' := Aside0.mk H
                 clear H
                 go_wp2
                 go_meet
                 case rel => exact ⟨_, (true), (by first | rfl | (simp; done) | (simp [*]; done)), H', ⟨by have := HJ13.out; have := HK2.out; have := HK3.out; have := HK4.out; first | omega | exact Nat.le_refl _⟩, ⟨by (with_reducible repeat (first | apply Kd.R_alloc | apply Kd.R_drewN | apply Kd.R_drew)); exact Kd.R_mono (Kd.R_far (p := ⟨gb322, 3, none⟩) (Kd.R_far (p := ⟨gb322, 2, none⟩) (Kd.R_far (p := ⟨gb322, 1, none⟩) (Kd.R_far (p := ⟨gb322, 0, none⟩) (Kd.R_types HO_280003.out BK322.out (by decide)) (fun _ hk => hk.2) (.int .i64 t315)) (fun _ hk => hk.2) (.int .i64 t316)) (fun _ hk => hk.2) (.int .i64 t317)) (fun _ hk => hk.2) (.slice Ao115 t318.length co115)) (fun _ hk => ⟨hk.1.1.1.1, ⟨hk.1.1.1.2, hk.1.2⟩⟩)⟩, ⟨by (with_reducible repeat (first | apply Kd.R_alloc | apply Kd.R_drewN | apply Kd.R_drew)); exact Kd.R_mono (Kd.R_far (p := ⟨gb322, 3, none⟩) (Kd.R_far (p := ⟨gb322, 2, none⟩) (Kd.R_far (p := ⟨gb322, 1, none⟩) (Kd.R_far (p := ⟨gb322, 0, none⟩) (Kd.R_types HO_287003.out BK322.out (by decide)) (fun _ hk => hk.2) (.int .i64 t315)) (fun _ hk => hk.2) (.int .i64 t316)) (fun _ hk => hk.2) (.int .i64 t317)) (fun _ hk => hk.2) (.slice Ao115 t318.length co115)) (fun _ hk => ⟨hk.1.1.1.1, ⟨hk.1.1.1.2, hk.1.2⟩⟩)⟩, ⟨by (with_reducible repeat (first | apply Kd.R_alloc | apply Kd.R_drewN | apply Kd.R_drew)); exact Kd.R_mono (Kd.R_far (p := ⟨gb322, 3, none⟩) (Kd.R_far (p := ⟨gb322, 2, none⟩) (Kd.R_far (p := ⟨gb322, 1, none⟩) (Kd.R_far (p := ⟨gb322, 0, none⟩) (Kd.R_types HO_294003.out BK322.out (by decide)) (fun _ hk => hk.2) (.int .i64 t315)) (fun _ hk => hk.2) (.int .i64 t316)) (fun _ hk => hk.2) (.int .i64 t317)) (fun _ hk => hk.2) (.slice Ao115 t318.length co115)) (fun _ hk => ⟨hk.1.1.1.1, ⟨hk.1.1.1.2, hk.1.2⟩⟩)⟩, ⟨by (with_reducible repeat (first | apply Kd.R_alloc | apply Kd.R_drewN | apply Kd.R_drew)); exact Kd.R_mono (Kd.R_far (p := ⟨gb322, 3, none⟩) (Kd.R_far (p := ⟨gb322, 2, none⟩) (Kd.R_far (p := ⟨gb322, 1, none⟩) (Kd.R_far (p := ⟨gb322, 0, none⟩) (Kd.R_types HO320.out BK322.out (by decide)) (fun _ hk => hk.2) (.int .i64 t315)) (fun _ hk => hk.2) (.int .i64 t316)) (fun _ hk => hk.2) (.int .i64 t317)) (fun _ hk => hk.2) (.slice Ao115 t318.length co115)) (fun _ hk => ⟨hk.1.1.1.1.2, ⟨hk.1.1.1.2, hk.1.1.2⟩⟩)⟩, ⟨by (with_reducible repeat (first | refine blk_drewN ?_ _ | refine blk_drew ?_ | refine blk_alloc ?_ _)); refine blk_far ?_ NB279_322.out _; (with_reducible repeat (first | refine blk_drewN ?_ _ | refine blk_drew ?_ | refine blk_alloc ?_ _)); refine blk_far ?_ NB279_322.out _; (with_reducible repeat (first | refine blk_drewN ?_ _ | refine blk_drew ?_ | refine blk_alloc ?_ _)); refine blk_far ?_ NB279_322.out _; (with_reducible repeat (first | refine blk_drewN ?_ _ | refine blk_drew ?_ | refine blk_alloc ?_ _)); refine blk_far ?_ NB279_322.out _; (with_reducible repeat (first | refine blk_drewN ?_ _ | refine blk_drew ?_ | refine blk_alloc ?_ _)); exact BK279.out⟩, ⟨by (with_reducible repeat (first | refine blk_drewN ?_ _ | refine blk_drew ?_ | refine blk_alloc ?_ _)); refine blk_far ?_ NB286_322.out _; (with_reducible repeat (first | refine blk_drewN ?_ _ | refine blk_drew ?_ | refine blk_alloc ?_ _)); refine blk_far ?_ NB286_322.out _; (with_reducible repeat (first | refine blk_drewN ?_ _ | refine blk_drew ?_ | refine blk_alloc ?_ _)); refine blk_far ?_ NB286_322.out _; (with_reducible repeat (first | refine blk_drewN ?_ _ | refine blk_drew ?_ | refine blk_alloc ?_ _)); refine blk_far ?_ NB286_322.out _; (with_reducible repeat (first | refine blk_drewN ?_ _ | refine blk_drew ?_ | refine blk_alloc ?_ _)); exact BK286.out⟩, ⟨by (with_reducible repeat (first | refine blk_drewN ?_ _ | refine blk_drew ?_ | refine blk_alloc ?_ _)); refine blk_far ?_ NB293_322.out _; (with_reducible repeat (first | refine blk_drewN ?_ _ | refine blk_drew ?_ | refine blk_alloc ?_ _)); refine blk_far ?_ NB293_322.out _; (with_reducible repeat (first | refine blk_drewN ?_ _ | refine blk_drew ?_ | refine blk_alloc ?_ _)); refine blk_far ?_ NB293_322.out _; (with_reducible repeat (first | refine blk_drewN ?_ _ | refine blk_drew ?_ | refine blk_alloc ?_ _)); refine blk_far ?_ NB293_322.out _; (with_reducible repeat (first | refine blk_drewN ?_ _ | refine blk_drew ?_ | refine blk_alloc ?_ _)); exact BK293.out⟩, ⟨by (with_reducible repeat (first | refine blk_drewN ?_ _ | refine blk_drew ?_ | refine blk_alloc ?_ _)); refine blk_put (cs := #[.int .i64 t315, .int .i64 t316, .int .i64 t317, .slice none 0 0]) ?_ 3 _ rfl; (with_reducible repeat (first | refine blk_drewN ?_ _ | refine blk_drew ?_ | refine blk_alloc ?_ _)); refine blk_put (cs := #[.int .i64 t315, .int .i64 t316, .int .i64 0, .slice none 0 0]) ?_ 2 _ rfl; (with_reducible repeat (first | refine blk_drewN ?_ _ | refine blk_drew ?_ | refine blk_alloc ?_ _)); refine blk_put (cs := #[.int .i64 t315, .int .i64 0, .int .i64 0, .slice none 0 0]) ?_ 1 _ rfl; (with_reducible repeat (first | refine blk_drewN ?_ _ | refine blk_drew ?_ | refine blk_alloc ?_ _)); refine blk_put (cs := #[.int .i64 0, .int .i64 0, .int .i64 0, .slice none 0 0]) ?_ 0 _ rfl; (with_reducible repeat (first | refine blk_drewN ?_ _ | refine blk_drew ?_ | refine blk_alloc ?_ _)); exact BK322.out⟩, ⟨bes⟩⟩
                ·
                 rw [if_neg c117] at H
                 have c117b0 : decide (a5 < 0) = false := decide_eq_false c117
                 clear c117
                 by_cases c118 : a4 ≥ t273
                 ·
                  rw [if_pos c118] at H
                  have c118b0 : decide (t273 ≤ a4) = true := decide_eq_true c118
                  clear c118
                  have H' := Aside0.mk H
                  clear H
                  have hnb119 := NB279_286.out
                  have hnc119 := NB286_279.out
                  have hnb120 := NB279_293.out
                  have hnc120 := NB293_279.out
                  have hnb121 := NB279_322.out
                  have hnc121 := NB322_279.out
                  have hcz122_0 := bc BK279 0 rfl
                  have hcz122_1 := bc BK279 1 rfl
                  have hcz122_2 := bc BK279 2 rfl
                  have hcz122_3 := bc BK279 3 rfl
                  have hfz122_0 := blk_frozen BK279.out 0
                  have hfz122_1 := blk_frozen BK279.out 1
                  have hfz122_2 := blk_frozen BK279.out 2
                  have hfz122_3 := blk_frozen BK279.out 3
                  go_wp2
                  go_meet
                  case rel => exact ⟨_, (true), (by first | rfl | (simp; done) | (simp [*]; done)), H', ⟨by have := HJ13.out; have := HK2.out; have := HK3.out; have := HK4.out; first | omega | exact Nat.le_refl _⟩, ⟨by (with_reducible repeat (first | apply Kd.R_alloc | apply Kd.R_drewN | apply Kd.R_drew)); exact Kd.R_mono (Kd.R_far (p := ⟨gb322, 3, none⟩) (Kd.R_far (p := ⟨gb322, 2, none⟩) (Kd.R_far (p := ⟨gb322, 1, none⟩) (Kd.R_far (p := ⟨gb322, 0, none⟩) (Kd.R_types HO_280003.out BK322.out (by decide)) (fun _ hk => hk.2) (.int .i64 t315)) (fun _ hk => hk.2) (.int .i64 t316)) (fun _ hk => hk.2) (.int .i64 t317)) (fun _ hk => hk.2) (.slice Ao115 t318.length co115)) (fun _ hk => ⟨hk.1.1.1.1, ⟨hk.1.1.1.2, hk.1.2⟩⟩)⟩, ⟨by (with_reducible repeat (first | apply Kd.R_alloc | apply Kd.R_drewN | apply Kd.R_drew)); exact Kd.R_mono (Kd.R_far (p := ⟨gb322, 3, none⟩) (Kd.R_far (p := ⟨gb322, 2, none⟩) (Kd.R_far (p := ⟨gb322, 1, none⟩) (Kd.R_far (p := ⟨gb322, 0, none⟩) (Kd.R_types HO_287003.out BK322.out (by decide)) (fun _ hk => hk.2) (.int .i64 t315)) (fun _ hk => hk.2) (.int .i64 t316)) (fun _ hk => hk.2) (.int .i64 t317)) (fun _ hk => hk.2) (.slice Ao115 t318.length co115)) (fun _ hk => ⟨hk.1.1.1.1, ⟨hk.1.1.1.2, hk.1.2⟩⟩)⟩, ⟨by (with_reducible repeat (first | apply Kd.R_alloc | apply Kd.R_drewN | apply Kd.R_drew)); exact Kd.R_mono (Kd.R_far (p := ⟨gb322, 3, none⟩) (Kd.R_far (p := ⟨gb322, 2, none⟩) (Kd.R_far (p := ⟨gb322, 1, none⟩) (Kd.R_far (p := ⟨gb322, 0, none⟩) (Kd.R_types HO_294003.out BK322.out (by decide)) (fun _ hk => hk.2) (.int .i64 t315)) (fun _ hk => hk.2) (.int .i64 t316)) (fun _ hk => hk.2) (.int .i64 t317)) (fun _ hk => hk.2) (.slice Ao115 t318.length co115)) (fun _ hk => ⟨hk.1.1.1.1, ⟨hk.1.1.1.2, hk.1.2⟩⟩)⟩, ⟨by (with_reducible repeat (first | apply Kd.R_alloc | apply Kd.R_drewN | apply Kd.R_drew)); exact Kd.R_mono (Kd.R_far (p := ⟨gb322, 3, none⟩) (Kd.R_far (p := ⟨gb322, 2, none⟩) (Kd.R_far (p := ⟨gb322, 1, none⟩) (Kd.R_far (p := ⟨gb322, 0, none⟩) (Kd.R_types HO320.out BK322.out (by decide)) (fun _ hk => hk.2) (.int .i64 t315)) (fun _ hk => hk.2) (.int .i64 t316)) (fun _ hk => hk.2) (.int .i64 t317)) (fun _ hk => hk.2) (.slice Ao115 t318.length co115)) (fun _ hk => ⟨hk.1.1.1.1.2, ⟨hk.1.1.1.2, hk.1.1.2⟩⟩)⟩, ⟨by (with_reducible repeat (first | refine blk_drewN ?_ _ | refine blk_drew ?_ | refine blk_alloc ?_ _)); refine blk_far ?_ NB279_322.out _; (with_reducible repeat (first | refine blk_drewN ?_ _ | refine blk_drew ?_ | refine blk_alloc ?_ _)); refine blk_far ?_ NB279_322.out _; (with_reducible repeat (first | refine blk_drewN ?_ _ | refine blk_drew ?_ | refine blk_alloc ?_ _)); refine blk_far ?_ NB279_322.out _; (with_reducible repeat (first | refine blk_drewN ?_ _ | refine blk_drew ?_ | refine blk_alloc ?_ _)); refine blk_far ?_ NB279_322.out _; (with_reducible repeat (first | refine blk_drewN ?_ _ | refine blk_drew ?_ | refine blk_alloc ?_ _)); exact BK279.out⟩, ⟨by (with_reducible repeat (first | refine blk_drewN ?_ _ | refine blk_drew ?_ | refine blk_alloc ?_ _)); refine blk_far ?_ NB286_322.out _; (with_reducible repeat (first | refine blk_drewN ?_ _ | refine blk_drew ?_ | refine blk_alloc ?_ _)); refine blk_far ?_ NB286_322.out _; (with_reducible repeat (first | refine blk_drewN ?_ _ | refine blk_drew ?_ | refine blk_alloc ?_ _)); refine blk_far ?_ NB286_322.out _; (with_reducible repeat (first | refine blk_drewN ?_ _ | refine blk_drew ?_ | refine blk_alloc ?_ _)); refine blk_far ?_ NB286_322.out _; (with_reducible repeat (first | refine blk_drewN ?_ _ | refine blk_drew ?_ | refine blk_alloc ?_ _)); exact BK286.out⟩, ⟨by (with_reducible repeat (first | refine blk_drewN ?_ _ | refine blk_drew ?_ | refine blk_alloc ?_ _)); refine blk_far ?_ NB293_322.out _; (with_reducible repeat (first | refine blk_drewN ?_ _ | refine blk_drew ?_ | refine blk_alloc ?_ _)); refine blk_far ?_ NB293_322.out _; (with_reducible repeat (first | refine blk_drewN ?_ _ | refine blk_drew ?_ | refine blk_alloc ?_ _)); refine blk_far ?_ NB293_322.out _; (with_reducible repeat (first | refine blk_drewN ?_ _ | refine blk_drew ?_ | refine blk_alloc ?_ _)); refine blk_far ?_ NB293_322.out _; (with_reducible repeat (first | refine blk_drewN ?_ _ | refine blk_drew ?_ | refine blk_alloc ?_ _)); exact BK293.out⟩, ⟨by (with_reducible repeat (first | refine blk_drewN ?_ _ | refine blk_drew ?_ | refine blk_alloc ?_ _)); refine blk_put (cs := #[.int .i64 t315, .int .i64 t316, .int .i64 t317, .slice none 0 0]) ?_ 3 _ rfl; (with_reducible repeat (first | refine blk_drewN ?_ _ | refine blk_drew ?_ | refine blk_alloc ?_ _)); refine blk_put (cs := #[.int .i64 t315, .int .i64 t316, .int .i64 0, .slice none 0 0]) ?_ 2 _ rfl; (with_reducible repeat (first | refine blk_drewN ?_ _ | refine blk_drew ?_ | refine blk_alloc ?_ _)); refine blk_put (cs := #[.int .i64 t315, .int .i64 0, .int .i64 0, .slice none 0 0]) ?_ 1 _ rfl; (with_reducible repeat (first | refine blk_drewN ?_ _ | refine blk_drew ?_ | refine blk_alloc ?_ _)); refine blk_put (cs := #[.int .i64 0, .int .i64 0, .int .i64 0, .slice none 0 0]) ?_ 0 _ rfl; (with_reducible repeat (first | refine blk_drewN ?_ _ | refine blk_drew ?_ | refine blk_alloc ?_ _)); exact BK322.out⟩, ⟨bes⟩⟩
                 ·
                  rw [if_neg c118] at H
                  have c118b0 : decide (t273 ≤ a4) = false := decide_eq_false c118
                  clear c118
                  have H' := Aside0.mk H
                  clear H
                  have hnb123 := NB279_286.out
                  have hnc123 := NB286_279.out
                  have hnb124 := NB279_293.out
                  have hnc124 := NB293_279.out
                  have hnb125 := NB279_322.out
                  have hnc125 := NB322_279.out
                  have hcz126_0 := bc BK279 0 rfl
                  have hcz126_1 := bc BK279 1 rfl
                  have hcz126_2 := bc BK279 2 rfl
                  have hcz126_3 := bc BK279 3 rfl
                  have hfz126_0 := blk_frozen BK279.out 0
                  have hfz126_1 := blk_frozen BK279.out 1
                  have hfz126_2 := blk_frozen BK279.out 2
                  have hfz126_3 := blk_frozen BK279.out 3
                  go_wp2
                  go_meet
                  case rel => exact ⟨_, (decide (a5 ≥ t274)), (by first | rfl | (simp; done) | (simp [*]; done)), H', ⟨by have := HJ13.out; have := HK2.out; have := HK3.out; have := HK4.out; first | omega | exact Nat.le_refl _⟩, ⟨by (with_reducible repeat (first | apply Kd.R_alloc | apply Kd.R_drewN | apply Kd.R_drew)); exact Kd.R_mono (Kd.R_far (p := ⟨gb322, 3, none⟩) (Kd.R_far (p := ⟨gb322, 2, none⟩) (Kd.R_far (p := ⟨gb322, 1, none⟩) (Kd.R_far (p := ⟨gb322, 0, none⟩) (Kd.R_types HO_280003.out BK322.out (by decide)) (fun _ hk => hk.2) (.int .i64 t315)) (fun _ hk => hk.2) (.int .i64 t316)) (fun _ hk => hk.2) (.int .i64 t317)) (fun _ hk => hk.2) (.slice Ao115 t318.length co115)) (fun _ hk => ⟨hk.1.1.1.1, ⟨hk.1.1.1.2, hk.1.2⟩⟩)⟩, ⟨by (with_reducible repeat (first | apply Kd.R_alloc | apply Kd.R_drewN | apply Kd.R_drew)); exact Kd.R_mono (Kd.R_far (p := ⟨gb322, 3, none⟩) (Kd.R_far (p := ⟨gb322, 2, none⟩) (Kd.R_far (p := ⟨gb322, 1, none⟩) (Kd.R_far (p := ⟨gb322, 0, none⟩) (Kd.R_types HO_287003.out BK322.out (by decide)) (fun _ hk => hk.2) (.int .i64 t315)) (fun _ hk => hk.2) (.int .i64 t316)) (fun _ hk => hk.2) (.int .i64 t317)) (fun _ hk => hk.2) (.slice Ao115 t318.length co115)) (fun _ hk => ⟨hk.1.1.1.1, ⟨hk.1.1.1.2, hk.1.2⟩⟩)⟩, ⟨by (with_reducible repeat (first | apply Kd.R_alloc | apply Kd.R_drewN | apply Kd.R_drew)); exact Kd.R_mono (Kd.R_far (p := ⟨gb322, 3, none⟩) (Kd.R_far (p := ⟨gb322, 2, none⟩) (Kd.R_far (p := ⟨gb322, 1, none⟩) (Kd.R_far (p := ⟨gb322, 0, none⟩) (Kd.R_types HO_294003.out BK322.out (by decide)) (fun _ hk => hk.2) (.int .i64 t315)) (fun _ hk => hk.2) (.int .i64 t316)) (fun _ hk => hk.2) (.int .i64 t317)) (fun _ hk => hk.2) (.slice Ao115 t318.length co115)) (fun _ hk => ⟨hk.1.1.1.1, ⟨hk.1.1.1.2, hk.1.2⟩⟩)⟩, ⟨by (with_reducible repeat (first | apply Kd.R_alloc | apply Kd.R_drewN | apply Kd.R_drew)); exact Kd.R_mono (Kd.R_far (p := ⟨gb322, 3, none⟩) (Kd.R_far (p := ⟨gb322, 2, none⟩) (Kd.R_far (p := ⟨gb322, 1, none⟩) (Kd.R_far (p := ⟨gb322, 0, none⟩) (Kd.R_types HO320.out BK322.out (by decide)) (fun _ hk => hk.2) (.int .i64 t315)) (fun _ hk => hk.2) (.int .i64 t316)) (fun _ hk => hk.2) (.int .i64 t317)) (fun _ hk => hk.2) (.slice Ao115 t318.length co115)) (fun _ hk => ⟨hk.1.1.1.1.2, ⟨hk.1.1.1.2, hk.1.1.2⟩⟩)⟩, ⟨by (with_reducible repeat (first | refine blk_drewN ?_ _ | refine blk_drew ?_ | refine blk_alloc ?_ _)); refine blk_far ?_ NB279_322.out _; (with_reducible repeat (first | refine blk_drewN ?_ _ | refine blk_drew ?_ | refine blk_alloc ?_ _)); refine blk_far ?_ NB279_322.out _; (with_reducible repeat (first | refine blk_drewN ?_ _ | refine blk_drew ?_ | refine blk_alloc ?_ _)); refine blk_far ?_ NB279_322.out _; (with_reducible repeat (first | refine blk_drewN ?_ _ | refine blk_drew ?_ | refine blk_alloc ?_ _)); refine blk_far ?_ NB279_322.out _; (with_reducible repeat (first | refine blk_drewN ?_ _ | refine blk_drew ?_ | refine blk_alloc ?_ _)); exact BK279.out⟩, ⟨by (with_reducible repeat (first | refine blk_drewN ?_ _ | refine blk_drew ?_ | refine blk_alloc ?_ _)); refine blk_far ?_ NB286_322.out _; (with_reducible repeat (first | refine blk_drewN ?_ _ | refine blk_drew ?_ | refine blk_alloc ?_ _)); refine blk_far ?_ NB286_322.out _; (with_reducible repeat (first | refine blk_drewN ?_ _ | refine blk_drew ?_ | refine blk_alloc ?_ _)); refine blk_far ?_ NB286_322.out _; (with_reducible repeat (first | refine blk_drewN ?_ _ | refine blk_drew ?_ | refine blk_alloc ?_ _)); refine blk_far ?_ NB286_322.out _; (with_reducible repeat (first | refine blk_drewN ?_ _ | refine blk_drew ?_ | refine blk_alloc ?_ _)); exact BK286.out⟩, ⟨by (with_reducible repeat (first | refine blk_drewN ?_ _ | refine blk_drew ?_ | refine blk_alloc ?_ _)); refine blk_far ?_ NB293_322.out _; (with_reducible repeat (first | refine blk_drewN ?_ _ | refine blk_drew ?_ | refine blk_alloc ?_ _)); refine blk_far ?_ NB293_322.out _; (with_reducible repeat (first | refine blk_drewN ?_ _ | refine blk_drew ?_ | refine blk_alloc ?_ _)); refine blk_far ?_ NB293_322.out _; (with_reducible repeat (first | refine blk_drewN ?_ _ | refine blk_drew ?_ | refine blk_alloc ?_ _)); refine blk_far ?_ NB293_322.out _; (with_reducible repeat (first | refine blk_drewN ?_ _ | refine blk_drew ?_ | refine blk_alloc ?_ _)); exact BK293.out⟩, ⟨by (with_reducible repeat (first | refine blk_drewN ?_ _ | refine blk_drew ?_ | refine blk_alloc ?_ _)); refine blk_put (cs := #[.int .i64 t315, .int .i64 t316, .int .i64 t317, .slice none 0 0]) ?_ 3 _ rfl; (with_reducible repeat (first | refine blk_drewN ?_ _ | refine blk_drew ?_ | refine blk_alloc ?_ _)); refine blk_put (cs := #[.int .i64 t315, .int .i64 t316, .int .i64 0, .slice none 0 0]) ?_ 2 _ rfl; (with_reducible repeat (first | refine blk_drewN ?_ _ | refine blk_drew ?_ | refine blk_alloc ?_ _)); refine blk_put (cs := #[.int .i64 t315, .int .i64 0, .int .i64 0, .slice none 0 0]) ?_ 1 _ rfl; (with_reducible repeat (first | refine blk_drewN ?_ _ | refine blk_drew ?_ | refine blk_alloc ?_ _)); refine blk_put (cs := #[.int .i64 0, .int .i64 0, .int .i64 0, .slice none 0 0]) ?_ 0 _ rfl; (with_reducible repeat (first | refine blk_drewN ?_ _ | refine blk_drew ?_ | refine blk_alloc ?_ _)); exact BK322.out⟩, ⟨bes⟩⟩
              case rest => as_aux_lemma =>
               clear HC100
               try clear c1
               try clear p2
               try clear c3
               try clear c4
               try clear c5
               try clear c6
               try clear p6
               try clear c7
               try clear p7
               try clear q7
               try clear hx7
               try clear hf7
               try clear c8
               try clear c9
               try clear p9
               try clear q9
               try clear hx9
               try clear hf9
               try clear c10
               try clear c11
               try clear c12
               try clear c13
               try clear c16
               try clear c17
               try clear c33
               try clear c34
               try clear c34b0
               try clear c34b1
               try clear c36
               try clear c36b0
               try clear c36b1
               try clear c38
               try clear c38b0
               try clear c38b1
               try clear c39
               try clear c39b0
               try clear c39b1
               try clear c40
               try clear c40b0
               try clear c40b1
               try clear c51
               try clear c52
               try clear c52b0
               try clear c53
               try clear c54
               try clear c56
               try clear c56b0
               try clear c59
               try clear c59b0
               try clear c59b1
               try clear c60
               try clear c61
               try clear p64
               try clear c66
               try clear c67
               try clear c69
               try clear c70
               try clear c72
               try clear c74
               try clear c74b0
               try clear c75
               try clear c75b0
               try clear c76
               try clear c76b0
               try clear p77
               try clear q77
               try clear hx77
               try clear hf77
               try clear c78
               try clear c79
               try clear c83
               try clear c84
               try clear c87
               try clear c87b0
               try clear c88
               try clear c88b0
               try clear c89
               try clear c89b0
               try clear p90
               try clear q90
               try clear hx90
               try clear hf90
               try clear c91
               try clear c92
               try clear c98
               try clear c106
               try clear c107
               try clear c111
               try clear c112
               try clear c113
               try clear c116
               try clear c116b0
               try clear c117
               try clear c117b0
               try clear c118
               try clear c118b0
               try clear c119
               try clear c120
               try clear c121
               try clear c123
               try clear c124
               try clear c125
               try clear hcz108_0
               try clear hcz108_1
               try clear hcz108_2
               try clear hcz108_3
               try clear hcz114_0
               try clear hcz114_1
               try clear hcz114_2
               try clear hcz114_3
               try clear hcz122_0
               try clear hcz122_1
               try clear hcz122_2
               try clear hcz122_3
               try clear hcz126_0
               try clear hcz126_1
               try clear hcz126_2
               try clear hcz126_3
               try clear hcz55_0
               try clear hcz55_1
               try clear hcz55_2
               try clear hcz55_3
               try clear hcz62_0
               try clear hcz62_1
               try clear hcz62_2
               try clear hcz62_3
               try clear hcz68_0
               try clear hcz68_1
               try clear hcz68_2
               try clear hcz68_3
               try clear hcz71_0
               try clear hcz71_1
               try clear hcz71_2
               try clear hcz71_3
               try clear hcz73_0
               try clear hcz73_1
               try clear hcz73_2
               try clear hcz73_3
               try clear hcz80_0
               try clear hcz80_1
               try clear hcz80_2
               try clear hcz80_3
               try clear hcz85_0
               try clear hcz85_1
               try clear hcz85_2
               try clear hcz85_3
               try clear hcz93_0
               try clear hcz93_1
               try clear hcz93_2
               try clear hcz93_3
               try clear hfz108_0
               try clear hfz108_1
               try clear hfz108_2
               try clear hfz108_3
               try clear hfz114_0
               try clear hfz114_1
               try clear hfz114_2
               try clear hfz114_3
               try clear hfz122_0
               try clear hfz122_1
               try clear hfz122_2
               try clear hfz122_3
               try clear hfz126_0
               try clear hfz126_1
               try clear hfz126_2
               try clear hfz126_3
               try clear hfz55_0
               try clear hfz55_1
               try clear hfz55_2
               try clear hfz55_3
               try clear hfz62_0
               try clear hfz62_1
               try clear hfz62_2
               try clear hfz62_3
               try clear hfz68_0
               try clear hfz68_1
               try clear hfz68_2
               try clear hfz68_3
               try clear hfz71_0
               try clear hfz71_1
               try clear hfz71_2
               try clear hfz71_3
               try clear hfz73_0
               try clear hfz73_1
               try clear hfz73_2
               try clear hfz73_3
               try clear hfz80_0
               try clear hfz80_1
               try clear hfz80_2
               try clear hfz80_3
               try clear hfz85_0
               try clear hfz85_1
               try clear hfz85_2
               try clear hfz85_3
               try clear hfz93_0
               try clear hfz93_1
               try clear hfz93_2
               try clear hfz93_3
               try clear hx77_0
               try clear hx90_0
               try clear p2
               try clear p6
               try clear p64
               try clear p7
               try clear p77
               try clear p90
               try clear q7
               try clear q77
               try clear q90
               obtain ⟨kq, x159_99, rfl, HA, HJ99, HO_280003, HO_287003, HO_294003, HO_323003, BK279, BK286, BK293, BK322, HB⟩ := hcut
               cases kq with
               | zero => exact absurd HA.out (by simp [gimballaw09_MatCopies.j5])
               | succ kj99 =>
                have H := HA.out
                clear HA
                simp only [gimballaw09_MatCopies.j5] at H
                by_cases c127 : x159_99 = true
                ·
                 subst c127
                 rw [if_pos rfl] at H
                 obtain rfl := Option.some.inj H
                 go_wp2
                 go_ret
                 exact ⟨er, bes⟩
                ·
                 replace c127 := Bool.eq_false_iff.mpr c127
                 subst c127
                 rw [if_neg (show ¬ (false = true) by decide)] at H
                 obtain ⟨⟨t323, t324, t325, t326, t329⟩, A1280, H⟩ := Option.bind_eq_some_iff.mp H
                 (try dsimp -simprocs only at H)
                 have A128 := Aside0.mk A1280
                 clear A1280
                 obtain ⟨⟨t331, t332, t333, t334, t337⟩, A1290, H⟩ := Option.bind_eq_some_iff.mp H
                 (try dsimp -simprocs only at H)
                 have A129 := Aside0.mk A1290
                 clear A1290
                 have HC130 := Aside0.mk H
                 clear H
                 have hnb131 := NB279_286.out
                 have hnc131 := NB286_279.out
                 have hnb132 := NB279_293.out
                 have hnc132 := NB293_279.out
                 have hnb133 := NB279_322.out
                 have hnc133 := NB322_279.out
                 have hcz134_0 := bc BK279 0 rfl
                 have hcz134_1 := bc BK279 1 rfl
                 have hcz134_2 := bc BK279 2 rfl
                 have hcz134_3 := bc BK279 3 rfl
                 have hfz134_0 := blk_frozen BK279.out 0
                 have hfz134_1 := blk_frozen BK279.out 1
                 have hfz134_2 := blk_frozen BK279.out 2
                 have hfz134_3 := blk_frozen BK279.out 3
                 go_upto_region 35 with (first | ((with_reducible refine gate_callee (f := 13) rfl ?_); refine goesL_ (some 174) rfl rfl Try.func13 (by kernel_rfl) rfl #[.agg #[.int .i64 t273, .int .i64 t274, .int .i64 t275, .slice Ao103 x280003_4.length co103], .int .i64 a4, .int .i64 a5, .int .i64 (wrap64 (t273 - a4)), .int .i64 (wrap64 (t274 - a5))] rfl ga ?_; (with_reducible refine (mat_Matrix_Cut.calls kj99 t273 t274 t275 _ _ x280003_4 a4 a5 (wrap64 (t273 - a4)) (wrap64 (t274 - a5)) t323 t324 t325 t326 t329 _ ?side1 ?side2 A128.out).mono ?_); (case side1 => exact ks HO_280003); (case side2 => exact (Kd.R_reads' HO_280003.out).2.1); rintro e w135 ⟨v327, rfl, ho0, hb⟩; refine ⟨_, rfl, ?_⟩; refine ax10 (Kd.R_elder' (kr HO_280003) (Kd.R_base ho0) hb) (Kd.R_elder' (kr HO_287003) (Kd.R_base ho0) hb) (Kd.R_elder' (kr HO_294003) (Kd.R_base ho0) hb) (Kd.R_elder' (kr HO_323003) (Kd.R_base ho0) hb) (Kd.R_lower (Kd.R_new' (Kd.R_new' (Kd.R_new' (Kd.R_new' ho0 (Kd.R_lt (kr HO_280003))) (Kd.R_lt (kr HO_287003))) (Kd.R_lt (kr HO_294003))) (Kd.R_lt (kr HO_323003))) (below_size bes)) (bb BK279 hb) (bb BK286 hb) (bb BK293 hb) (bb BK322 hb) (below_step bes hb) ?_; clear HO_280003; clear HO_287003; clear HO_294003; clear HO_323003; clear BK279; clear BK286; clear BK293; clear BK322; clear HB; intro HO_280003 HO_287003 HO_294003 HO_323003 HO328 BK279 BK286 BK293 BK322 HB; (try clear hb); (try clear ho0)) | ((with_reducible refine gate_dst (N := 22) rfl ?_); refine gbox (N := 22) (cs := #[.int .i64 0, .int .i64 0, .int .i64 0, .slice none 0 0]) (t := 25) ?_; intro gb330 hg w136 hbox hb; refine ax21 (Kd.R_below (kr HO_280003) hb) (Kd.R_below (kr HO_287003) hb) (Kd.R_below (kr HO_294003) hb) (Kd.R_below (kr HO_323003) hb) (Kd.R_below (kr HO328) hb) (bb BK279 hb) (bb BK286 hb) (bb BK293 hb) (bb BK322 hb) (below_step bes hb) hbox ((ge hg : w.heap.size ≤ gb330)) ((ge hg : w.heap.size ≤ gb330)) (nl hg BK279) (ng hg BK279) (nl hg BK286) (ng hg BK286) (nl hg BK293) (ng hg BK293) (nl hg BK322) (ng hg BK322) ?_; clear HO_280003; clear HO_287003; clear HO_294003; clear HO_323003; clear HO328; clear BK279; clear BK286; clear BK293; clear BK322; clear HB; intro HO_280003 HO_287003 HO_294003 HO_323003 HO328 BK279 BK286 BK293 BK322 HB BK330 GW330 GE330 NB279_330 NB330_279 NB286_330 NB330_286 NB293_330 NB330_293 NB322_330 NB330_322; clear hb hbox hg; have hnb137 := NB330_279.out; have hnc137 := NB279_330.out; have hnb138 := NB330_286.out; have hnc138 := NB286_330.out; have hnb139 := NB330_293.out; have hnc139 := NB293_330.out; have hnb140 := NB330_322.out; have hnc140 := NB322_330.out; have hcz141_0 := bc BK330 0 rfl; have hcz141_1 := bc BK330 1 rfl; have hcz141_2 := bc BK330 2 rfl; have hcz141_3 := bc BK330 3 rfl; have hfz141_0 := blk_frozen BK330.out 0; have hfz141_1 := blk_frozen BK330.out 1; have hfz141_2 := blk_frozen BK330.out 2; have hfz141_3 := blk_frozen BK330.out 3; obtain ⟨Ao142, co142, eo142⟩ := Kd.R_slice HO328.out; subst eo142; have hcz143_0 := bc BK279 0 rfl; have hcz143_1 := bc BK279 1 rfl; have hcz143_2 := bc BK279 2 rfl; have hcz143_3 := bc BK279 3 rfl; have hfz143_0 := blk_frozen BK279.out 0; have hfz143_1 := blk_frozen BK279.out 1; have hfz143_2 := blk_frozen BK279.out 2; have hfz143_3 := blk_frozen BK279.out 3) | ((with_reducible refine gate_callee (f := 13) rfl ?_); refine goesL_ (some 186) rfl rfl Try.func13 (by kernel_rfl) rfl #[.agg #[.int .i64 t273, .int .i64 t274, .int .i64 t275, .slice Ao103 x280003_4.length co103], .int .i64 a4, .int .i64 a5, .int .i64 (wrap64 ((wrap64 (t273 - a4)) + 1)), .int .i64 1] rfl ga ?_; (with_reducible refine (mat_Matrix_Cut.calls kj99 t273 t274 t275 _ _ x280003_4 a4 a5 (wrap64 ((wrap64 (t273 - a4)) + 1)) 1 t331 t332 t333 t334 t337 _ ?side1 ?side2 A129.out).mono ?_); (case side1 => refine (Kd.R_reads' (e := 30) (base := w.heap.size) (ok := fun k_ => ((some k_ ≠ (u287003 : Value).ownBlock ∧ (some k_ ≠ (u294003 : Value).ownBlock ∧ some k_ ≠ (.slice Ao115 t318.length co115 : Value).ownBlock)) ∧ some k_ ≠ (.slice Ao142 t326.length co142 : Value).ownBlock)) (n := x280003_4.length) (c := co103) ?_).2.2; exact (by (with_reducible repeat (first | apply Kd.R_alloc | apply Kd.R_drewN | apply Kd.R_drew)); exact (Kd.R_mono (Kd.R_far (p := ⟨gb330, 3, none⟩) (Kd.R_far (p := ⟨gb330, 2, none⟩) (Kd.R_far (p := ⟨gb330, 1, none⟩) (Kd.R_far (p := ⟨gb330, 0, none⟩) (Kd.R_types HO_280003.out BK330.out (by decide)) (fun _ hk => hk.2) (.int .i64 t323)) (fun _ hk => hk.2) (.int .i64 t324)) (fun _ hk => hk.2) (.int .i64 t325)) (fun _ hk => hk.2) (.slice Ao142 t326.length co142)) (fun _ h_ => h_.1)))); (case side2 => exact (Kd.R_reads' HO_280003.out).2.1); rintro e w144 ⟨v335, rfl, ho0, hb⟩; refine ⟨_, rfl, ?_⟩; refine ax12 (Kd.R_elder' (by (with_reducible repeat (first | apply Kd.R_alloc | apply Kd.R_drewN | apply Kd.R_drew)); exact (Kd.R_mono (Kd.R_far (p := ⟨gb330, 3, none⟩) (Kd.R_far (p := ⟨gb330, 2, none⟩) (Kd.R_far (p := ⟨gb330, 1, none⟩) (Kd.R_far (p := ⟨gb330, 0, none⟩) (Kd.R_types HO_280003.out BK330.out (by decide)) (fun _ hk => hk.2) (.int .i64 t323)) (fun _ hk => hk.2) (.int .i64 t324)) (fun _ hk => hk.2) (.int .i64 t325)) (fun _ hk => hk.2) (.slice Ao142 t326.length co142)) (fun _ h_ => h_.1))) (Kd.R_base ho0) hb) (Kd.R_elder' (by (with_reducible repeat (first | apply Kd.R_alloc | apply Kd.R_drewN | apply Kd.R_drew)); exact (Kd.R_mono (Kd.R_far (p := ⟨gb330, 3, none⟩) (Kd.R_far (p := ⟨gb330, 2, none⟩) (Kd.R_far (p := ⟨gb330, 1, none⟩) (Kd.R_far (p := ⟨gb330, 0, none⟩) (Kd.R_types HO_287003.out BK330.out (by decide)) (fun _ hk => hk.2) (.int .i64 t323)) (fun _ hk => hk.2) (.int .i64 t324)) (fun _ hk => hk.2) (.int .i64 t325)) (fun _ hk => hk.2) (.slice Ao142 t326.length co142)) (fun _ h_ => h_.1))) (Kd.R_base ho0) hb) (Kd.R_elder' (by (with_reducible repeat (first | apply Kd.R_alloc | apply Kd.R_drewN | apply Kd.R_drew)); exact (Kd.R_mono (Kd.R_far (p := ⟨gb330, 3, none⟩) (Kd.R_far (p := ⟨gb330, 2, none⟩) (Kd.R_far (p := ⟨gb330, 1, none⟩) (Kd.R_far (p := ⟨gb330, 0, none⟩) (Kd.R_types HO_294003.out BK330.out (by decide)) (fun _ hk => hk.2) (.int .i64 t323)) (fun _ hk => hk.2) (.int .i64 t324)) (fun _ hk => hk.2) (.int .i64 t325)) (fun _ hk => hk.2) (.slice Ao142 t326.length co142)) (fun _ h_ => h_.1))) (Kd.R_base ho0) hb) (Kd.R_elder' (by (with_reducible repeat (first | apply Kd.R_alloc | apply Kd.R_drewN | apply Kd.R_drew)); exact (Kd.R_mono (Kd.R_far (p := ⟨gb330, 3, none⟩) (Kd.R_far (p := ⟨gb330, 2, none⟩) (Kd.R_far (p := ⟨gb330, 1, none⟩) (Kd.R_far (p := ⟨gb330, 0, none⟩) (Kd.R_types HO_323003.out BK330.out (by decide)) (fun _ hk => hk.2) (.int .i64 t323)) (fun _ hk => hk.2) (.int .i64 t324)) (fun _ hk => hk.2) (.int .i64 t325)) (fun _ hk => hk.2) (.slice Ao142 t326.length co142)) (fun _ h_ => h_.1))) (Kd.R_base ho0) hb) (Kd.R_elder' (by (with_reducible repeat (first | apply Kd.R_alloc | apply Kd.R_drewN | apply Kd.R_drew)); exact (Kd.R_mono (Kd.R_far (p := ⟨gb330, 3, none⟩) (Kd.R_far (p := ⟨gb330, 2, none⟩) (Kd.R_far (p := ⟨gb330, 1, none⟩) (Kd.R_far (p := ⟨gb330, 0, none⟩) (Kd.R_types HO328.out BK330.out (by decide)) (fun _ hk => hk.2) (.int .i64 t323)) (fun _ hk => hk.2) (.int .i64 t324)) (fun _ hk => hk.2) (.int .i64 t325)) (fun _ hk => hk.2) (.slice Ao142 t326.length co142)) (fun _ h_ => h_.1))) (Kd.R_base ho0) hb) (Kd.R_lower (Kd.R_new' (Kd.R_new' (Kd.R_new' (Kd.R_new' (Kd.R_new' ho0 (Kd.R_lt (by (with_reducible repeat (first | apply Kd.R_alloc | apply Kd.R_drewN | apply Kd.R_drew)); exact (Kd.R_mono (Kd.R_far (p := ⟨gb330, 3, none⟩) (Kd.R_far (p := ⟨gb330, 2, none⟩) (Kd.R_far (p := ⟨gb330, 1, none⟩) (Kd.R_far (p := ⟨gb330, 0, none⟩) (Kd.R_types HO_280003.out BK330.out (by decide)) (fun _ hk => hk.2) (.int .i64 t323)) (fun _ hk => hk.2) (.int .i64 t324)) (fun _ hk => hk.2) (.int .i64 t325)) (fun _ hk => hk.2) (.slice Ao142 t326.length co142)) (fun _ h_ => h_.1))))) (Kd.R_lt (by (with_reducible repeat (first | apply Kd.R_alloc | apply Kd.R_drewN | apply Kd.R_drew)); exact (Kd.R_mono (Kd.R_far (p := ⟨gb330, 3, none⟩) (Kd.R_far (p := ⟨gb330, 2, none⟩) (Kd.R_far (p := ⟨gb330, 1, none⟩) (Kd.R_far (p := ⟨gb330, 0, none⟩) (Kd.R_types HO_287003.out BK330.out (by decide)) (fun _ hk => hk.2) (.int .i64 t323)) (fun _ hk => hk.2) (.int .i64 t324)) (fun _ hk => hk.2) (.int .i64 t325)) (fun _ hk => hk.2) (.slice Ao142 t326.length co142)) (fun _ h_ => h_.1))))) (Kd.R_lt (by (with_reducible repeat (first | apply Kd.R_alloc | apply Kd.R_drewN | apply Kd.R_drew)); exact (Kd.R_mono (Kd.R_far (p := ⟨gb330, 3, none⟩) (Kd.R_far (p := ⟨gb330, 2, none⟩) (Kd.R_far (p := ⟨gb330, 1, none⟩) (Kd.R_far (p := ⟨gb330, 0, none⟩) (Kd.R_types HO_294003.out BK330.out (by decide)) (fun _ hk => hk.2) (.int .i64 t323)) (fun _ hk => hk.2) (.int .i64 t324)) (fun _ hk => hk.2) (.int .i64 t325)) (fun _ hk => hk.2) (.slice Ao142 t326.length co142)) (fun _ h_ => h_.1))))) (Kd.R_lt (by (with_reducible repeat (first | apply Kd.R_alloc | apply Kd.R_drewN | apply Kd.R_drew)); exact (Kd.R_mono (Kd.R_far (p := ⟨gb330, 3, none⟩) (Kd.R_far (p := ⟨gb330, 2, none⟩) (Kd.R_far (p := ⟨gb330, 1, none⟩) (Kd.R_far (p := ⟨gb330, 0, none⟩) (Kd.R_types HO_323003.out BK330.out (by decide)) (fun _ hk => hk.2) (.int .i64 t323)) (fun _ hk => hk.2) (.int .i64 t324)) (fun _ hk => hk.2) (.int .i64 t325)) (fun _ hk => hk.2) (.slice Ao142 t326.length co142)) (fun _ h_ => h_.1))))) (Kd.R_lt (by (with_reducible repeat (first | apply Kd.R_alloc | apply Kd.R_drewN | apply Kd.R_drew)); exact (Kd.R_mono (Kd.R_far (p := ⟨gb330, 3, none⟩) (Kd.R_far (p := ⟨gb330, 2, none⟩) (Kd.R_far (p := ⟨gb330, 1, none⟩) (Kd.R_far (p := ⟨gb330, 0, none⟩) (Kd.R_types HO328.out BK330.out (by decide)) (fun _ hk => hk.2) (.int .i64 t323)) (fun _ hk => hk.2) (.int .i64 t324)) (fun _ hk => hk.2) (.int .i64 t325)) (fun _ hk => hk.2) (.slice Ao142 t326.length co142)) (fun _ h_ => h_.1))))) (below_size bes)) (blk_below (g := gb279) (o := .cells #[.int .i64 t273, .int .i64 t274, .int .i64 t275, .slice Ao103 x280003_4.length co103] 25 (0, 0)) (by (with_reducible repeat (first | refine blk_drewN ?_ _ | refine blk_drew ?_ | refine blk_alloc ?_ _)); refine blk_far ?_ NB279_330.out _; (with_reducible repeat (first | refine blk_drewN ?_ _ | refine blk_drew ?_ | refine blk_alloc ?_ _)); refine blk_far ?_ NB279_330.out _; (with_reducible repeat (first | refine blk_drewN ?_ _ | refine blk_drew ?_ | refine blk_alloc ?_ _)); refine blk_far ?_ NB279_330.out _; (with_reducible repeat (first | refine blk_drewN ?_ _ | refine blk_drew ?_ | refine blk_alloc ?_ _)); refine blk_far ?_ NB279_330.out _; (with_reducible repeat (first | refine blk_drewN ?_ _ | refine blk_drew ?_ | refine blk_alloc ?_ _)); exact BK279.out) hb) (blk_below (g := gb286) (o := .cells #[.int .i64 t280, .int .i64 t281, .int .i64 t282, u287003] 25 (0, 0)) (by (with_reducible repeat (first | refine blk_drewN ?_ _ | refine blk_drew ?_ | refine blk_alloc ?_ _)); refine blk_far ?_ NB286_330.out _; (with_reducible repeat (first | refine blk_drewN ?_ _ | refine blk_drew ?_ | refine blk_alloc ?_ _)); refine blk_far ?_ NB286_330.out _; (with_reducible repeat (first | refine blk_drewN ?_ _ | refine blk_drew ?_ | refine blk_alloc ?_ _)); refine blk_far ?_ NB286_330.out _; (with_reducible repeat (first | refine blk_drewN ?_ _ | refine blk_drew ?_ | refine blk_alloc ?_ _)); refine blk_far ?_ NB286_330.out _; (with_reducible repeat (first | refine blk_drewN ?_ _ | refine blk_drew ?_ | refine blk_alloc ?_ _)); exact BK286.out) hb) (blk_below (g := gb293) (o := .cells #[.int .i64 t287, .int .i64 t288, .int .i64 t289, u294003] 25 (0, 0)) (by (with_reducible repeat (first | refine blk_drewN ?_ _ | refine blk_drew ?_ | refine blk_alloc ?_ _)); refine blk_far ?_ NB293_330.out _; (with_reducible repeat (first | refine blk_drewN ?_ _ | refine blk_drew ?_ | refine blk_alloc ?_ _)); refine blk_far ?_ NB293_330.out _; (with_reducible repeat (first | refine blk_drewN ?_ _ | refine blk_drew ?_ | refine blk_alloc ?_ _)); refine blk_far ?_ NB293_330.out _; (with_reducible repeat (first | refine blk_drewN ?_ _ | refine blk_drew ?_ | refine blk_alloc ?_ _)); refine blk_far ?_ NB293_330.out _; (with_reducible repeat (first | refine blk_drewN ?_ _ | refine blk_drew ?_ | refine blk_alloc ?_ _)); exact BK293.out) hb) (blk_below (g := gb322) (o := .cells #[.int .i64 t315, .int .i64 t316, .int .i64 t317, .slice Ao115 t318.length co115] 25 (0, 0)) (by (with_reducible repeat (first | refine blk_drewN ?_ _ | refine blk_drew ?_ | refine blk_alloc ?_ _)); refine blk_far ?_ NB322_330.out _; (with_reducible repeat (first | refine blk_drewN ?_ _ | refine blk_drew ?_ | refine blk_alloc ?_ _)); refine blk_far ?_ NB322_330.out _; (with_reducible repeat (first | refine blk_drewN ?_ _ | refine blk_drew ?_ | refine blk_alloc ?_ _)); refine blk_far ?_ NB322_330.out _; (with_reducible repeat (first | refine blk_drewN ?_ _ | refine blk_drew ?_ | refine blk_alloc ?_ _)); refine blk_far ?_ NB322_330.out _; (with_reducible repeat (first | refine blk_drewN ?_ _ | refine blk_drew ?_ | refine blk_alloc ?_ _)); exact BK322.out) hb) (blk_below (g := gb330) (o := .cells #[.int .i64 t323, .int .i64 t324, .int .i64 t325, .slice Ao142 t326.length co142] 25 (0, 0)) (by (with_reducible repeat (first | refine blk_drewN ?_ _ | refine blk_drew ?_ | refine blk_alloc ?_ _)); refine blk_put (cs := #[.int .i64 t323, .int .i64 t324, .int .i64 t325, .slice none 0 0]) ?_ 3 _ rfl; (with_reducible repeat (first | refine blk_drewN ?_ _ | refine blk_drew ?_ | refine blk_alloc ?_ _)); refine blk_put (cs := #[.int .i64 t323, .int .i64 t324, .int .i64 0, .slice none 0 0]) ?_ 2 _ rfl; (with_reducible repeat (first | refine blk_drewN ?_ _ | refine blk_drew ?_ | refine blk_alloc ?_ _)); refine blk_put (cs := #[.int .i64 t323, .int .i64 0, .int .i64 0, .slice none 0 0]) ?_ 1 _ rfl; (with_reducible repeat (first | refine blk_drewN ?_ _ | refine blk_drew ?_ | refine blk_alloc ?_ _)); refine blk_put (cs := #[.int .i64 0, .int .i64 0, .int .i64 0, .slice none 0 0]) ?_ 0 _ rfl; (with_reducible repeat (first | refine blk_drewN ?_ _ | refine blk_drew ?_ | refine blk_alloc ?_ _)); exact BK330.out) hb) (below_step bes hb) ?_; clear HO_280003; clear HO_287003; clear HO_294003; clear HO_323003; clear HO328; clear BK279; clear BK286; clear BK293; clear BK322; clear BK330; clear HB; intro HO_280003 HO_287003 HO_294003 HO_323003 HO328 HO336 BK279 BK286 BK293 BK322 BK330 HB; (try clear hb); (try clear ho0)) | ((with_reducible refine gate_dst (N := 24) rfl ?_); refine gbox (N := 24) (cs := #[.int .i64 0, .int .i64 0, .int .i64 0, .slice none 0 0]) (t := 25) ?_; intro gb338 hg w145 hbox hb; refine ax25 (Kd.R_below (kr HO_280003) hb) (Kd.R_below (kr HO_287003) hb) (Kd.R_below (kr HO_294003) hb) (Kd.R_below (kr HO_323003) hb) (Kd.R_below (kr HO328) hb) (Kd.R_below (kr HO336) hb) (bb BK279 hb) (bb BK286 hb) (bb BK293 hb) (bb BK322 hb) (bb BK330 hb) (below_step bes hb) hbox ((ge hg : w.heap.size ≤ gb338)) ((ge hg : w.heap.size ≤ gb338)) (nl hg BK279) (ng hg BK279) (nl hg BK286) (ng hg BK286) (nl hg BK293) (ng hg BK293) (nl hg BK322) (ng hg BK322) (nl hg BK330) (ng hg BK330) ?_; clear HO_280003; clear HO_287003; clear HO_294003; clear HO_323003; clear HO328; clear HO336; clear BK279; clear BK286; clear BK293; clear BK322; clear BK330; clear HB; intro HO_280003 HO_287003 HO_294003 HO_323003 HO328 HO336 BK279 BK286 BK293 BK322 BK330 HB BK338 GW338 GE338 NB279_338 NB338_279 NB286_338 NB338_286 NB293_338 NB338_293 NB322_338 NB338_322 NB330_338 NB338_330; clear hb hbox hg; have hnb146 := NB338_279.out; have hnc146 := NB279_338.out; have hnb147 := NB338_286.out; have hnc147 := NB286_338.out; have hnb148 := NB338_293.out; have hnc148 := NB293_338.out; have hnb149 := NB338_322.out; have hnc149 := NB322_338.out; have hnb150 := NB338_330.out; have hnc150 := NB330_338.out; have hcz151_0 := bc BK338 0 rfl; have hcz151_1 := bc BK338 1 rfl; have hcz151_2 := bc BK338 2 rfl; have hcz151_3 := bc BK338 3 rfl; have hfz151_0 := blk_frozen BK338.out 0; have hfz151_1 := blk_frozen BK338.out 1; have hfz151_2 := blk_frozen BK338.out 2; have hfz151_3 := blk_frozen BK338.out 3; obtain ⟨Ao152, co152, eo152⟩ := Kd.R_slice HO336.out; subst eo152))
                 (try simp only [Act.put, sa0, sa1, sa2])
                 go_cut [207] (fun v207 wc => ∃ (kq : Nat) (x207_129 : Bool), v207 = .bool x207_129 ∧ Aside0 (gimballaw09_MatCopies.j6 kq a4 a5 x207_129 t273 t274 t275 x280003_4 t323 t324 t325 t326 = some r) ∧ Aside0 (kq ≤ kj99) ∧ Aside0 (Kd.R (Kd.int .u64) 30 wc w.heap.size (fun k_ => some k_ ≠ (u287003 : Value).ownBlock ∧ some k_ ≠ (u294003 : Value).ownBlock ∧ some k_ ≠ ((.slice Ao115 t318.length co115) : Value).ownBlock ∧ some k_ ≠ ((.slice Ao142 t326.length co142) : Value).ownBlock ∧ some k_ ≠ ((.slice Ao152 t334.length co152) : Value).ownBlock) (.slice Ao103 x280003_4.length co103) x280003_4) ∧ Aside0 (Kd.R (Kd.int .u64) 30 wc w.heap.size (fun k_ => some k_ ≠ ((.slice Ao103 x280003_4.length co103) : Value).ownBlock ∧ some k_ ≠ (u294003 : Value).ownBlock ∧ some k_ ≠ ((.slice Ao115 t318.length co115) : Value).ownBlock ∧ some k_ ≠ ((.slice Ao142 t326.length co142) : Value).ownBlock ∧ some k_ ≠ ((.slice Ao152 t334.length co152) : Value).ownBlock) u287003 x287003_4) ∧ Aside0 (Kd.R (Kd.int .u64) 30 wc w.heap.size (fun k_ => some k_ ≠ ((.slice Ao103 x280003_4.length co103) : Value).ownBlock ∧ some k_ ≠ (u287003 : Value).ownBlock ∧ some k_ ≠ ((.slice Ao115 t318.length co115) : Value).ownBlock ∧ some k_ ≠ ((.slice Ao142 t326.length co142) : Value).ownBlock ∧ some k_ ≠ ((.slice Ao152 t334.length co152) : Value).ownBlock) u294003 x294003_4) ∧ Aside0 (Kd.R (Kd.int .u64) 30 wc w.heap.size (fun k_ => some k_ ≠ ((.slice Ao103 x280003_4.length co103) : Value).ownBlock ∧ some k_ ≠ (u287003 : Value).ownBlock ∧ some k_ ≠ (u294003 : Value).ownBlock ∧ some k_ ≠ ((.slice Ao142 t326.length co142) : Value).ownBlock ∧ some k_ ≠ ((.slice Ao152 t334.length co152) : Value).ownBlock) (.slice Ao115 t318.length co115) t318) ∧ Aside0 (Kd.R (Kd.int .u64) 30 wc w.heap.size (fun k_ => some k_ ≠ ((.slice Ao103 x280003_4.length co103) : Value).ownBlock ∧ some k_ ≠ (u287003 : Value).ownBlock ∧ some k_ ≠ (u294003 : Value).ownBlock ∧ some k_ ≠ ((.slice Ao115 t318.length co115) : Value).ownBlock ∧ some k_ ≠ ((.slice Ao152 t334.length co152) : Value).ownBlock) (.slice Ao142 t326.length co142) t326) ∧ Aside0 (Kd.R (Kd.int .u64) 30 wc w.heap.size (fun k_ => some k_ ≠ ((.slice Ao103 x280003_4.length co103) : Value).ownBlock ∧ some k_ ≠ (u287003 : Value).ownBlock ∧ some k_ ≠ (u294003 : Value).ownBlock ∧ some k_ ≠ ((.slice Ao115 t318.length co115) : Value).ownBlock ∧ some k_ ≠ ((.slice Ao142 t326.length co142) : Value).ownBlock) (.slice Ao152 t334.length co152) t334) ∧ Aside0 (wc.heap[gb279]? = some (.cells #[.int .i64 t273, .int .i64 t274, .int .i64 t275, (.slice Ao103 x280003_4.length co103)] 25 (0, 0))) ∧ Aside0 (wc.heap[gb286]? = some (.cells #[.int .i64 t280, .int .i64 t281, .int .i64 t282, u287003] 25 (0, 0))) ∧ Aside0 (wc.heap[gb293]? = some (.cells #[.int .i64 t287, .int .i64 t288, .int .i64 t289, u294003] 25 (0, 0))) ∧ Aside0 (wc.heap[gb322]? = some (.cells #[.int .i64 t315, .int .i64 t316, .int .i64 t317, (.slice Ao115 t318.length co115)] 25 (0, 0))) ∧ Aside0 (wc.heap[gb330]? = some (.cells #[.int .i64 t323, .int .i64 t324, .int .i64 t325, (.slice Ao142 t326.length co142)] 25 (0, 0))) ∧ Aside0 (wc.heap[gb338]? = some (.cells #[.int .i64 t331, .int .i64 t332, .int .i64 t333, (.slice Ao152 t334.length co152)] 25 (0, 0))) ∧ Aside0 (Below w.heap.size w wc))
                 case first => as_aux_lemma =>
                  have H := HC130.out
                  clear HC130
                  by_cases c153 : t321 = 0
                  rotate_left
                  ·
                   rw [if_neg c153] at H
                   have c153b0 : (t321 == 0) = false := beq_eq_false_iff_ne.mpr c153
                   have c153b1 : (t321 != 0) = true := bne_iff_ne.mpr c153
                   (first | rw [c153b0] | (simp only [i64_w, i32_w]; rw [c153b0]) | skip)
                   rw [hLW] at H
                   exact absurd H (by cases kj99 <;> simp [gimballaw09_MatCopies.j6])
                  rw [if_pos c153] at H
                  have c153b0 : (t321 == 0) = true := beq_iff_eq.mpr c153
                  have c153b1 : (t321 != 0) = false := bne_eq_false_iff_eq.mpr c153
                  clear c153
                  (first | rw [c153b0] | (simp only [i64_w, i32_w]; rw [c153b0]) | skip)
                  by_cases c154 : t329 = 0
                  rotate_left
                  ·
                   rw [if_neg c154] at H
                   have c154b0 : (t329 == 0) = false := beq_eq_false_iff_ne.mpr c154
                   have c154b1 : (t329 != 0) = true := bne_iff_ne.mpr c154
                   rw [hLW] at H
                   exact absurd H (by cases kj99 <;> simp [gimballaw09_MatCopies.j6])
                  rw [if_pos c154] at H
                  have c154b0 : (t329 == 0) = true := beq_iff_eq.mpr c154
                  have c154b1 : (t329 != 0) = false := bne_eq_false_iff_eq.mpr c154
                  clear c154
                  by_cases c155 : t337 = 4
                  rotate_left
                  ·
                   rw [if_neg c155] at H
                   have c155b0 : (t337 == 4) = false := beq_eq_false_iff_ne.mpr c155
                   have c155b1 : (t337 != 4) = true := bne_iff_ne.mpr c155
                   rw [hLW] at H
                   exact absurd H (by cases kj99 <;> simp [gimballaw09_MatCopies.j6])
                  rw [if_pos c155] at H
                  have c155b0 : (t337 == 4) = true := beq_iff_eq.mpr c155
                  have c155b1 : (t337 != 4) = false := bne_eq_false_iff_eq.mpr c155
                  clear c155
                  obtain ⟨t339, A1560, H⟩ := Option.bind_eq_some_iff.mp H
                  (try dsimp -simprocs only at H)
                  have A156 := Aside0.mk A1560
                  clear A1560
                  obtain ⟨t340, A1570, H⟩ := Option.bind_eq_some_iff.mp H
                  (try dsimp -simprocs only at H)
                  have A157 := Aside0.mk A1570
                  clear A1570
                  have H' := Aside0.mk H
                  clear H
                  try go_wp2
                  have n0_ : Aside0 (Kd.R (Kd.int .u64) 30 ((((w145.setCell ⟨gb338, 0, none⟩ (.int .i64 t331)).setCell ⟨gb338, 1, none⟩ (.int .i64 t332)).setCell ⟨gb338, 2, none⟩ (.int .i64 t333)).setCell ⟨gb338, 3, none⟩ (.slice Ao152 t334.length co152)) w.heap.size (fun k_ => some k_ ≠ (u287003 : Value).ownBlock ∧ some k_ ≠ (u294003 : Value).ownBlock ∧ some k_ ≠ (.slice Ao115 t318.length co115 : Value).ownBlock ∧ some k_ ≠ (.slice Ao142 t326.length co142 : Value).ownBlock ∧ some k_ ≠ (.slice Ao152 t334.length co152 : Value).ownBlock) (.slice Ao103 x280003_4.length co103) x280003_4) := ⟨by (with_reducible repeat (first | apply Kd.R_alloc | apply Kd.R_drewN | apply Kd.R_drew)); exact Kd.R_mono (Kd.R_far (p := ⟨gb338, 3, none⟩) (Kd.R_far (p := ⟨gb338, 2, none⟩) (Kd.R_far (p := ⟨gb338, 1, none⟩) (Kd.R_far (p := ⟨gb338, 0, none⟩) (Kd.R_types HO_280003.out BK338.out (by decide)) (fun _ hk => hk.2) (.int .i64 t331)) (fun _ hk => hk.2) (.int .i64 t332)) (fun _ hk => hk.2) (.int .i64 t333)) (fun _ hk => hk.2) (.slice Ao152 t334.length co152)) (fun _ hk => ⟨hk.1.1.1.1, ⟨hk.1.1.1.2.1, ⟨hk.1.1.1.2.2, ⟨hk.1.1.2, hk.1.2⟩⟩⟩⟩)⟩
                  have n1_ : Aside0 (Kd.R (Kd.int .u64) 30 ((((w145.setCell ⟨gb338, 0, none⟩ (.int .i64 t331)).setCell ⟨gb338, 1, none⟩ (.int .i64 t332)).setCell ⟨gb338, 2, none⟩ (.int .i64 t333)).setCell ⟨gb338, 3, none⟩ (.slice Ao152 t334.length co152)) w.heap.size (fun k_ => some k_ ≠ (.slice Ao103 x280003_4.length co103 : Value).ownBlock ∧ some k_ ≠ (u294003 : Value).ownBlock ∧ some k_ ≠ (.slice Ao115 t318.length co115 : Value).ownBlock ∧ some k_ ≠ (.slice Ao142 t326.length co142 : Value).ownBlock ∧ some k_ ≠ (.slice Ao152 t334.length co152 : Value).ownBlock) u287003 x287003_4) := ⟨by (with_reducible repeat (first | apply Kd.R_alloc | apply Kd.R_drewN | apply Kd.R_drew)); exact Kd.R_mono (Kd.R_far (p := ⟨gb338, 3, none⟩) (Kd.R_far (p := ⟨gb338, 2, none⟩) (Kd.R_far (p := ⟨gb338, 1, none⟩) (Kd.R_far (p := ⟨gb338, 0, none⟩) (Kd.R_types HO_287003.out BK338.out (by decide)) (fun _ hk => hk.2) (.int .i64 t331)) (fun _ hk => hk.2) (.int .i64 t332)) (fun _ hk => hk.2) (.int .i64 t333)) (fun _ hk => hk.2) (.slice Ao152 t334.length co152)) (fun _ hk => ⟨hk.1.1.1.1, ⟨hk.1.1.1.2.1, ⟨hk.1.1.1.2.2, ⟨hk.1.1.2, hk.1.2⟩⟩⟩⟩)⟩
                  have n2_ : Aside0 (Kd.R (Kd.int .u64) 30 ((((w145.setCell ⟨gb338, 0, none⟩ (.int .i64 t331)).setCell ⟨gb338, 1, none⟩ (.int .i64 t332)).setCell ⟨gb338, 2, none⟩ (.int .i64 t333)).setCell ⟨gb338, 3, none⟩ (.slice Ao152 t334.length co152)) w.heap.size (fun k_ => some k_ ≠ (.slice Ao103 x280003_4.length co103 : Value).ownBlock ∧ some k_ ≠ (u287003 : Value).ownBlock ∧ some k_ ≠ (.slice Ao115 t318.length co115 : Value).ownBlock ∧ some k_ ≠ (.slice Ao142 t326.length co142 : Value).ownBlock ∧ some k_ ≠ (.slice Ao152 t334.length co152 : Value).ownBlock) u294003 x294003_4) := ⟨by (with_reducible repeat (first | apply Kd.R_alloc | apply Kd.R_drewN | apply Kd.R_drew)); exact Kd.R_mono (Kd.R_far (p := ⟨gb338, 3, none⟩) (Kd.R_far (p := ⟨gb338, 2, none⟩) (Kd.R_far (p := ⟨gb338, 1, none⟩) (Kd.R_far (p := ⟨gb338, 0, none⟩) (Kd.R_types HO_294003.out BK338.out (by decide)) (fun _ hk => hk.2) (.int .i64 t331)) (fun _ hk => hk.2) (.int .i64 t332)) (fun _ hk => hk.2) (.int .i64 t333)) (fun _ hk => hk.2) (.slice Ao152 t334.length co152)) (fun _ hk => ⟨hk.1.1.1.1, ⟨hk.1.1.1.2.1, ⟨hk.1.1.1.2.2, ⟨hk.1.1.2, hk.1.2⟩⟩⟩⟩)⟩
                  have n3_ : Aside0 (Kd.R (Kd.int .u64) 30 ((((w145.setCell ⟨gb338, 0, none⟩ (.int .i64 t331)).setCell ⟨gb338, 1, none⟩ (.int .i64 t332)).setCell ⟨gb338, 2, none⟩ (.int .i64 t333)).setCell ⟨gb338, 3, none⟩ (.slice Ao152 t334.length co152)) w.heap.size (fun k_ => some k_ ≠ (.slice Ao103 x280003_4.length co103 : Value).ownBlock ∧ some k_ ≠ (u287003 : Value).ownBlock ∧ some k_ ≠ (u294003 : Value).ownBlock ∧ some k_ ≠ (.slice Ao142 t326.length co142 : Value).ownBlock ∧ some k_ ≠ (.slice Ao152 t334.length co152 : Value).ownBlock) (.slice Ao115 t318.length co115) t318) := ⟨by (with_reducible repeat (first | apply Kd.R_alloc | apply Kd.R_drewN | apply Kd.R_drew)); exact Kd.R_mono (Kd.R_far (p := ⟨gb338, 3, none⟩) (Kd.R_far (p := ⟨gb338, 2, none⟩) (Kd.R_far (p := ⟨gb338, 1, none⟩) (Kd.R_far (p := ⟨gb338, 0, none⟩) (Kd.R_types HO_323003.out BK338.out (by decide)) (fun _ hk => hk.2) (.int .i64 t331)) (fun _ hk => hk.2) (.int .i64 t332)) (fun _ hk => hk.2) (.int .i64 t333)) (fun _ hk => hk.2) (.slice Ao152 t334.length co152)) (fun _ hk => ⟨hk.1.1.1.1, ⟨hk.1.1.1.2.1, ⟨hk.1.1.1.2.2, ⟨hk.1.1.2, hk.1.2⟩⟩⟩⟩)⟩
                  have n4_ : Aside0 (Kd.R (Kd.int .u64) 30 ((((w145.setCell ⟨gb338, 0, none⟩ (.int .i64 t331)).setCell ⟨gb338, 1, none⟩ (.int .i64 t332)).setCell ⟨gb338, 2, none⟩ (.int .i64 t333)).setCell ⟨gb338, 3, none⟩ (.slice Ao152 t334.length co152)) w.heap.size (fun k_ => some k_ ≠ (.slice Ao103 x280003_4.length co103 : Value).ownBlock ∧ some k_ ≠ (u287003 : Value).ownBlock ∧ some k_ ≠ (u294003 : Value).ownBlock ∧ some k_ ≠ (.slice Ao115 t318.length co115 : Value).ownBlock ∧ some k_ ≠ (.slice Ao152 t334.length co152 : Value).ownBlock) (.slice Ao142 t326.length co142) t326) := ⟨by (with_reducible repeat (first | apply Kd.R_alloc | apply Kd.R_drewN | apply Kd.R_drew)); exact Kd.R_mono (Kd.R_far (p := ⟨gb338, 3, none⟩) (Kd.R_far (p := ⟨gb338, 2, none⟩) (Kd.R_far (p := ⟨gb338, 1, none⟩) (Kd.R_far (p := ⟨gb338, 0, none⟩) (Kd.R_types HO328.out BK338.out (by decide)) (fun _ hk => hk.2) (.int .i64 t331)) (fun _ hk => hk.2) (.int .i64 t332)) (fun _ hk => hk.2) (.int .i64 t333)) (fun _ hk => hk.2) (.slice Ao152 t334.length co152)) (fun _ hk => ⟨hk.1.1.1.1.1.2, ⟨hk.1.1.1.1.2, ⟨hk.1.1.1.2, ⟨hk.1.1.2, hk.1.2⟩⟩⟩⟩)⟩
                  have n5_ : Aside0 (Kd.R (Kd.int .u64) 30 ((((w145.setCell ⟨gb338, 0, none⟩ (.int .i64 t331)).setCell ⟨gb338, 1, none⟩ (.int .i64 t332)).setCell ⟨gb338, 2, none⟩ (.int .i64 t333)).setCell ⟨gb338, 3, none⟩ (.slice Ao152 t334.length co152)) w.heap.size (fun k_ => some k_ ≠ (.slice Ao103 x280003_4.length co103 : Value).ownBlock ∧ some k_ ≠ (u287003 : Value).ownBlock ∧ some k_ ≠ (u294003 : Value).ownBlock ∧ some k_ ≠ (.slice Ao115 t318.length co115 : Value).ownBlock ∧ some k_ ≠ (.slice Ao142 t326.length co142 : Value).ownBlock) (.slice Ao152 t334.length co152) t334) := ⟨by (with_reducible repeat (first | apply Kd.R_alloc | apply Kd.R_drewN | apply Kd.R_drew)); exact Kd.R_mono (Kd.R_far (p := ⟨gb338, 3, none⟩) (Kd.R_far (p := ⟨gb338, 2, none⟩) (Kd.R_far (p := ⟨gb338, 1, none⟩) (Kd.R_far (p := ⟨gb338, 0, none⟩) (Kd.R_types HO336.out BK338.out (by decide)) (fun _ hk => hk.2) (.int .i64 t331)) (fun _ hk => hk.2) (.int .i64 t332)) (fun _ hk => hk.2) (.int .i64 t333)) (fun _ hk => hk.2) (.slice Ao152 t334.length co152)) (fun _ hk => ⟨hk.1.1.1.1.1.2, ⟨hk.1.1.1.1.2, ⟨hk.1.1.1.2, ⟨hk.1.1.2, hk.1.2⟩⟩⟩⟩)⟩
                  have n6_ : Aside0 (((((w145.setCell ⟨gb338, 0, none⟩ (.int .i64 t331)).setCell ⟨gb338, 1, none⟩ (.int .i64 t332)).setCell ⟨gb338, 2, none⟩ (.int .i64 t333)).setCell ⟨gb338, 3, none⟩ (.slice Ao152 t334.length co152)).heap[gb279]? = some (.cells #[.int .i64 t273, .int .i64 t274, .int .i64 t275, .slice Ao103 x280003_4.length co103] 25 (0, 0))) := ⟨by (with_reducible repeat (first | refine blk_drewN ?_ _ | refine blk_drew ?_ | refine blk_alloc ?_ _)); refine blk_far ?_ NB279_338.out _; (with_reducible repeat (first | refine blk_drewN ?_ _ | refine blk_drew ?_ | refine blk_alloc ?_ _)); refine blk_far ?_ NB279_338.out _; (with_reducible repeat (first | refine blk_drewN ?_ _ | refine blk_drew ?_ | refine blk_alloc ?_ _)); refine blk_far ?_ NB279_338.out _; (with_reducible repeat (first | refine blk_drewN ?_ _ | refine blk_drew ?_ | refine blk_alloc ?_ _)); refine blk_far ?_ NB279_338.out _; (with_reducible repeat (first | refine blk_drewN ?_ _ | refine blk_drew ?_ | refine blk_alloc ?_ _)); exact BK279.out⟩
                  have n7_ : Aside0 (((((w145.setCell ⟨gb338, 0, none⟩ (.int .i64 t331)).setCell ⟨gb338, 1, none⟩ (.int .i64 t332)).setCell ⟨gb338, 2, none⟩ (.int .i64 t333)).setCell ⟨gb338, 3, none⟩ (.slice Ao152 t334.length co152)).heap[gb286]? = some (.cells #[.int .i64 t280, .int .i64 t281, .int .i64 t282, u287003] 25 (0, 0))) := ⟨by (with_reducible repeat (first | refine blk_drewN ?_ _ | refine blk_drew ?_ | refine blk_alloc ?_ _)); refine blk_far ?_ NB286_338.out _; (with_reducible repeat (first | refine blk_drewN ?_ _ | refine blk_drew ?_ | refine blk_alloc ?_ _)); refine blk_far ?_ NB286_338.out _; (with_reducible repeat (first | refine blk_drewN ?_ _ | refine blk_drew ?_ | refine blk_alloc ?_ _)); refine blk_far ?_ NB286_338.out _; (with_reducible repeat (first | refine blk_drewN ?_ _ | refine blk_drew ?_ | refine blk_alloc ?_ _)); refine blk_far ?_ NB286_338.out _; (with_reducible repeat (first | refine blk_drewN ?_ _ | refine blk_drew ?_ | refine blk_alloc ?_ _)); exact BK286.out⟩
                  have n8_ : Aside0 (((((w145.setCell ⟨gb338, 0, none⟩ (.int .i64 t331)).setCell ⟨gb338, 1, none⟩ (.int .i64 t332)).setCell ⟨gb338, 2, none⟩ (.int .i64 t333)).setCell ⟨gb338, 3, none⟩ (.slice Ao152 t334.length co152)).heap[gb293]? = some (.cells #[.int .i64 t287, .int .i64 t288, .int .i64 t289, u294003] 25 (0, 0))) := ⟨by (with_reducible repeat (first | refine blk_drewN ?_ _ | refine blk_drew ?_ | refine blk_alloc ?_ _)); refine blk_far ?_ NB293_338.out _; (with_reducible repeat (first | refine blk_drewN ?_ _ | refine blk_drew ?_ | refine blk_alloc ?_ _)); refine blk_far ?_ NB293_338.out _; (with_reducible repeat (first | refine blk_drewN ?_ _ | refine blk_drew ?_ | refine blk_alloc ?_ _)); refine blk_far ?_ NB293_338.out _; (with_reducible repeat (first | refine blk_drewN ?_ _ | refine blk_drew ?_ | refine blk_alloc ?_ _)); refine blk_far ?_ NB293_338.out _; (with_reducible repeat (first | refine blk_drewN ?_ _ | refine blk_drew ?_ | refine blk_alloc ?_ _)); exact BK293.out⟩
                  have n9_ : Aside0 (((((w145.setCell ⟨gb338, 0, none⟩ (.int .i64 t331)).setCell ⟨gb338, 1, none⟩ (.int .i64 t332)).setCell ⟨gb338, 2, none⟩ (.int .i64 t333)).setCell ⟨gb338, 3, none⟩ (.slice Ao152 t334.length co152)).heap[gb322]? = some (.cells #[.int .i64 t315, .int .i64 t316, .int .i64 t317, .slice Ao115 t318.length co115] 25 (0, 0))) := ⟨by (with_reducible repeat (first | refine blk_drewN ?_ _ | refine blk_drew ?_ | refine blk_alloc ?_ _)); refine blk_far ?_ NB322_338.out _; (with_reducible repeat (first | refine blk_drewN ?_ _ | refine blk_drew ?_ | refine blk_alloc ?_ _)); refine blk_far ?_ NB322_338.out _; (with_reducible repeat (first | refine blk_drewN ?_ _ | refine blk_drew ?_ | refine blk_alloc ?_ _)); refine blk_far ?_ NB322_338.out _; (with_reducible repeat (first | refine blk_drewN ?_ _ | refine blk_drew ?_ | refine blk_alloc ?_ _)); refine blk_far ?_ NB322_338.out _; (with_reducible repeat (first | refine blk_drewN ?_ _ | refine blk_drew ?_ | refine blk_alloc ?_ _)); exact BK322.out⟩
                  have n10_ : Aside0 (((((w145.setCell ⟨gb338, 0, none⟩ (.int .i64 t331)).setCell ⟨gb338, 1, none⟩ (.int .i64 t332)).setCell ⟨gb338, 2, none⟩ (.int .i64 t333)).setCell ⟨gb338, 3, none⟩ (.slice Ao152 t334.length co152)).heap[gb330]? = some (.cells #[.int .i64 t323, .int .i64 t324, .int .i64 t325, .slice Ao142 t326.length co142] 25 (0, 0))) := ⟨by (with_reducible repeat (first | refine blk_drewN ?_ _ | refine blk_drew ?_ | refine blk_alloc ?_ _)); refine blk_far ?_ NB330_338.out _; (with_reducible repeat (first | refine blk_drewN ?_ _ | refine blk_drew ?_ | refine blk_alloc ?_ _)); refine blk_far ?_ NB330_338.out _; (with_reducible repeat (first | refine blk_drewN ?_ _ | refine blk_drew ?_ | refine blk_alloc ?_ _)); refine blk_far ?_ NB330_338.out _; (with_reducible repeat (first | refine blk_drewN ?_ _ | refine blk_drew ?_ | refine blk_alloc ?_ _)); refine blk_far ?_ NB330_338.out _; (with_reducible repeat (first | refine blk_drewN ?_ _ | refine blk_drew ?_ | refine blk_alloc ?_ _)); exact BK330.out⟩
                  have n11_ : Aside0 (((((w145.setCell ⟨gb338, 0, none⟩ (.int .i64 t331)).setCell ⟨gb338, 1, none⟩ (.int .i64 t332)).setCell ⟨gb338, 2, none⟩ (.int .i64 t333)).setCell ⟨gb338, 3, none⟩ (.slice Ao152 t334.length co152)).heap[gb338]? = some (.cells #[.int .i64 t331, .int .i64 t332, .int .i64 t333, .slice Ao152 t334.length co152] 25 (0, 0))) := ⟨by (with_reducible repeat (first | refine blk_drewN ?_ _ | refine blk_drew ?_ | refine blk_alloc ?_ _)); refine blk_put (cs := #[.int .i64 t331, .int .i64 t332, .int .i64 t333, .slice none 0 0]) ?_ 3 _ rfl; (with_reducible repeat (first | refine blk_drewN ?_ _ | refine blk_drew ?_ | refine blk_alloc ?_ _)); refine blk_put (cs := #[.int .i64 t331, .int .i64 t332, .int .i64 0, .slice none 0 0]) ?_ 2 _ rfl; (with_reducible repeat (first | refine blk_drewN ?_ _ | refine blk_drew ?_ | refine blk_alloc ?_ _)); refine blk_put (cs := #[.int .i64 t331, .int .i64 0, .int .i64 0, .slice none 0 0]) ?_ 1 _ rfl; (with_reducible repeat (first | refine blk_drewN ?_ _ | refine blk_drew ?_ | refine blk_alloc ?_ _)); refine blk_put (cs := #[.int .i64 0, .int .i64 0, .int .i64 0, .slice none 0 0]) ?_ 0 _ rfl; (with_reducible repeat (first | refine blk_drewN ?_ _ | refine blk_drew ?_ | refine blk_alloc ?_ _)); exact BK338.out⟩
                  have n12_ : Aside0 (Below w.heap.size w ((((w145.setCell ⟨gb338, 0, none⟩ (.int .i64 t331)).setCell ⟨gb338, 1, none⟩ (.int .i64 t332)).setCell ⟨gb338, 2, none⟩ (.int .i64 t333)).setCell ⟨gb338, 3, none⟩ (.slice Ao152 t334.length co152))) := ⟨bes⟩
                  (try clear HO_280003)
                  (try clear HO_287003)
                  (try clear HO_294003)
                  (try clear HO_323003)
                  (try clear HO328)
                  (try clear HO336)
                  (try clear BK279)
                  (try clear BK286)
                  (try clear BK293)
                  (try clear BK322)
                  (try clear BK330)
                  (try clear BK338)
                  (try clear HB)
                  generalize ((((w145.setCell ⟨gb338, 0, none⟩ (.int .i64 t331)).setCell ⟨gb338, 1, none⟩ (.int .i64 t332)).setCell ⟨gb338, 2, none⟩ (.int .i64 t333)).setCell ⟨gb338, 3, none⟩ (.slice Ao152 t334.length co152)) = w158 at n0_ n1_ n2_ n3_ n4_ n5_ n6_ n7_ n8_ n9_ n10_ n11_ n12_ ⊢
                  have HO_280003 := n0_
                  have HO_287003 := n1_
                  have HO_294003 := n2_
                  have HO_323003 := n3_
                  have HO328 := n4_
                  have HO336 := n5_
                  have BK279 := n6_
                  have BK286 := n7_
                  have BK293 := n8_
                  have BK322 := n9_
                  have BK330 := n10_
                  have BK338 := n11_
                  have HB := n12_
                  clear n0_ n1_ n2_ n3_ n4_ n5_ n6_ n7_ n8_ n9_ n10_ n11_ n12_
                  refine ax13 (Kd.R_drew HO_280003.out) (Kd.R_drew HO_287003.out) (Kd.R_drew HO_294003.out) (Kd.R_drew HO_323003.out) (Kd.R_drew HO328.out) (Kd.R_drew HO336.out) (blk_drew BK279.out) (blk_drew BK286.out) (blk_drew BK293.out) (blk_drew BK322.out) (blk_drew BK330.out) (blk_drew BK338.out) (below_drew1 HB.out) ?_
                  clear HO_280003 HO_287003 HO_294003 HO_323003 HO328 HO336 BK279 BK286 BK293 BK322 BK330 BK338 HB
                  intro HO_280003 HO_287003 HO_294003 HO_323003 HO328 HO336 BK279 BK286 BK293 BK322 BK330 BK338 HB
                  refine start_ (n := 19) (S := fun w' => w'.cell? ⟨gb322, 0, none⟩ = some (.int .i64 t315) ∧ w'.cell? ⟨gb322, 1, none⟩ = some (.int .i64 t316) ∧ w'.cell? ⟨gb322, 2, none⟩ = some (.int .i64 t317) ∧ w'.cell? ⟨gb322, 3, none⟩ = some (.slice Ao115 t318.length co115) ∧ w'.cell? ⟨gb279, 0, none⟩ = some (.int .i64 t273) ∧ w'.cell? ⟨gb279, 1, none⟩ = some (.int .i64 t274) ∧ w'.cell? ⟨gb279, 2, none⟩ = some (.int .i64 t275) ∧ w'.cell? ⟨gb279, 3, none⟩ = some (.slice Ao103 x280003_4.length co103)) (ds := []) #[false, false, false, false, false, false, false, false, false, false, false, false, false, false, false, false, false, false, false] (by kernel_rfl) rfl rfl ⟨(blk_cell BK322.out 0).trans rfl, (blk_cell BK322.out 1).trans rfl, (blk_cell BK322.out 2).trans rfl, (blk_cell BK322.out 3).trans rfl, (blk_cell BK279.out 0).trans rfl, (blk_cell BK279.out 1).trans rfl, (blk_cell BK279.out 2).trans rfl, (blk_cell BK279.out 3).trans rfl⟩ (fun hHeld => ?_); refine with_tabW gimballaw09_MatCopies.tab35 gimballaw09_MatCopies.bits35 (fun HT_ HW_ => ?_)
                  generalize w158.drew = w159 at HO_280003 HO_287003 HO_294003 HO_323003 HO328 HO336 BK279 BK286 BK293 BK322 BK330 BK338 HB hHeld ⊢
                  refine pure_ (i := 0) (N := some 189) (v := ?_) (a' := ?_) #[true, false, false, false, false, false, false, false, false, false, false, false, false, false, false, false, false, false, false] rfl rfl (any_of HT_.out (by kernel_rfl)) (fun _ _ _ h => h) (Or.inl ⟨by rfl, ?_⟩) ?_ ?_
                  rotate_left
                  ·
                   intro w'
                   go_simp
                   with_reducible rfl
                  rotate_left
                  ·
                   simp only [Act.put, sa0, sa1, sa2, i64_w, i32_w]
                   rfl
                  refine pure_ (i := 1) (N := some 190) (v := ?_) (a' := ?_) #[true, true, false, false, false, false, false, false, false, false, false, false, false, false, false, false, false, false, false] rfl rfl (any_of HT_.out (by kernel_rfl)) (fun _ _ _ h => h) (Or.inl ⟨by rfl, ?_⟩) ?_ ?_
                  rotate_left
                  ·
                   intro w'
                   go_simp
                   with_reducible rfl
                  rotate_left
                  ·
                   simp only [Act.put, sa0, sa1, sa2, i64_w, i32_w]
                   rfl
                  refine pure_ (i := 2) (N := some 191) (v := ?_) (a' := ?_) #[true, true, true, false, false, false, false, false, false, false, false, false, false, false, false, false, false, false, false] rfl rfl (any_of HT_.out (by kernel_rfl)) (fun _ _ _ h => h) (Or.inl ⟨by rfl, ?_⟩) ?_ ?_
                  rotate_left
                  ·
                   intro w'
                   go_simp
                   with_reducible rfl
                  rotate_left
                  ·
                   simp only [Act.put, sa0, sa1, sa2, i64_w, i32_w]
                   rfl
                  refine pure_ (i := 3) (N := some 192) (v := ?_) (a' := ?_) #[true, true, true, true, false, false, false, false, false, false, false, false, false, false, false, false, false, false, false] rfl rfl (any_of HT_.out (by kernel_rfl)) (fun _ _ _ h => h) (Or.inl ⟨by rfl, ?_⟩) ?_ ?_
                  rotate_left
                  ·
                   intro w'
                   go_simp
                   with_reducible rfl
                  rotate_left
                  ·
                   simp only [Act.put, sa0, sa1, sa2, i64_w, i32_w]
                   rfl
                  refine pure_ (i := 4) (N := some 193) (v := ?_) (a' := ?_) #[true, true, true, true, true, false, false, false, false, false, false, false, false, false, false, false, false, false, false] rfl rfl (any_of HT_.out (by kernel_rfl)) (fun _ _ _ h => h) (Or.inl ⟨by rfl, ?_⟩) ?_ ?_
                  rotate_left
                  ·
                   intro w'
                   go_simp
                   with_reducible rfl
                  rotate_left
                  ·
                   simp only [Act.put, sa0, sa1, sa2, i64_w, i32_w]
                   rfl
                  refine pure_ (i := 5) (N := some 194) (v := ?_) (a' := ?_) #[true, true, true, true, true, true, false, false, false, false, false, false, false, false, false, false, false, false, false] rfl rfl (any_of HT_.out (by kernel_rfl)) (fun _ _ _ h => h) (Or.inl ⟨by rfl, ?_⟩) ?_ ?_
                  rotate_left
                  ·
                   intro w'
                   go_simp
                   with_reducible rfl
                  rotate_left
                  ·
                   simp only [Act.put, sa0, sa1, sa2, i64_w, i32_w]
                   rfl
                  refine pure_ (i := 6) (N := some 195) (v := ?_) (a' := ?_) #[true, true, true, true, true, true, true, false, false, false, false, false, false, false, false, false, false, false, false] rfl rfl (any_of HT_.out (by kernel_rfl)) (fun _ _ _ h => h) (Or.inl ⟨by rfl, ?_⟩) ?_ ?_
                  rotate_left
                  ·
                   intro w'
                   go_simp
                   with_reducible rfl
                  rotate_left
                  ·
                   simp only [Act.put, sa0, sa1, sa2, i64_w, i32_w]
                   rfl
                  refine pure_ (i := 7) (N := some 196) (v := ?_) (a' := ?_) #[true, true, true, true, true, true, true, true, false, false, false, false, false, false, false, false, false, false, false] rfl rfl (any_of HT_.out (by kernel_rfl)) (fun _ _ _ h => h) (Or.inl ⟨by rfl, ?_⟩) ?_ ?_
                  rotate_left
                  ·
                   intro w'
                   go_simp
                   with_reducible rfl
                  rotate_left
                  ·
                   simp only [Act.put, sa0, sa1, sa2, i64_w, i32_w]
                   rfl
                  refine pure_ (i := 8) (N := some 197) (v := ?_) (a' := ?_) #[true, true, true, true, true, true, true, true, true, false, false, false, false, false, false, false, false, false, false] rfl rfl (any_of HT_.out (by kernel_rfl)) (fun _ _ _ h => h) (Or.inl ⟨by rfl, ?_⟩) ?_ ?_
                  rotate_left
                  ·
                   intro w'
                   go_simp
                   with_reducible rfl
                  rotate_left
                  ·
                   simp only [Act.put, sa0, sa1, sa2, i64_w, i32_w]
                   rfl
                  refine pure_ (i := 9) (N := some 198) (v := ?_) (a' := ?_) #[true, true, true, true, true, true, true, true, true, true, false, false, false, false, false, false, false, false, false] rfl rfl (any_of HT_.out (by kernel_rfl)) (fun _ _ _ h => h) (Or.inl ⟨by rfl, ?_⟩) ?_ ?_
                  rotate_left
                  ·
                   intro w'
                   go_simp
                   with_reducible rfl
                  rotate_left
                  ·
                   simp only [Act.put, sa0, sa1, sa2, i64_w, i32_w]
                   rfl
                  refine pure_ (i := 10) (N := some 199) (v := ?_) (a' := ?_) #[true, true, true, true, true, true, true, true, true, true, true, false, false, false, false, false, false, false, false] rfl rfl (any_of HT_.out (by kernel_rfl)) (fun _ _ _ h => h) (Or.inl ⟨by rfl, ?_⟩) ?_ ?_
                  rotate_left
                  ·
                   intro w'
                   go_simp
                   with_reducible rfl
                  rotate_left
                  ·
                   simp only [Act.put, sa0, sa1, sa2, i64_w, i32_w]
                   rfl
                  refine pure_ (i := 14) (N := some 203) (v := ?_) (a' := ?_) #[true, true, true, true, true, true, true, true, true, true, true, false, false, false, true, false, false, false, false] rfl rfl (any_of HT_.out (by kernel_rfl)) (fun _ _ _ h => h) (Or.inl ⟨by rfl, ?_⟩) ?_ ?_
                  rotate_left
                  ·
                   intro w'
                   go_simp
                   with_reducible rfl
                  rotate_left
                  ·
                   simp only [Act.put, sa0, sa1, sa2, i64_w, i32_w]
                   rfl
                  refine pure_ (i := 15) (N := some 204) (v := ?_) (a' := ?_) #[true, true, true, true, true, true, true, true, true, true, true, false, false, false, true, true, false, false, false] rfl rfl (any_of HT_.out (by kernel_rfl)) (fun _ _ _ h => h) (Or.inl ⟨by rfl, ?_⟩) ?_ ?_
                  rotate_left
                  ·
                   intro w'
                   go_simp
                   with_reducible rfl
                  rotate_left
                  ·
                   simp only [Act.put, sa0, sa1, sa2, i64_w, i32_w]
                   rfl
                  refine take_ (i := 11) (N := some 200) (v := ?_) (a' := ?_) #[true, true, true, true, true, true, true, true, true, true, true, true, false, false, true, true, false, false, false] rfl rfl (take_ofW HT_.out HW_.out (by kernel_rfl)) (fun _ _ _ h => h) (Or.inl ⟨by rfl, ?_⟩) hHeld ?_ ?_
                  rotate_left
                  ·
                   rintro w' ⟨s0, s1, s2, s3, s4, s5, s6, s7⟩
                   go_simp
                   with_reducible rfl
                  rotate_left
                  ·
                   simp only [Act.put, sa0, sa1, sa2, i64_w, i32_w]
                   rfl
                  refine take_ (i := 13) (N := some 202) (v := ?_) (a' := ?_) #[true, true, true, true, true, true, true, true, true, true, true, true, false, true, true, true, false, false, false] rfl rfl (take_ofW HT_.out HW_.out (by kernel_rfl)) (fun _ _ _ h => h) (Or.inl ⟨by rfl, ?_⟩) hHeld ?_ ?_
                  rotate_left
                  ·
                   rintro w' ⟨s0, s1, s2, s3, s4, s5, s6, s7⟩
                   go_simp
                   with_reducible rfl
                  rotate_left
                  ·
                   simp only [Act.put, sa0, sa1, sa2, i64_w, i32_w]
                   rfl
                  refine one_ (i := 12) (N := some 201) #[true, true, true, true, true, true, true, true, true, true, true, true, true, true, true, true, false, false, false] rfl rfl (one_of HT_.out (by kernel_rfl)) (by decide) (fun K hK => ?_)
                  refine goes_ Try.func11 (by kernel_rfl) rfl #[.agg #[.int .i64 t315, .int .i64 t316, .int .i64 t317, .slice Ao115 t318.length co115], .int .i64 0, .int .i64 0] (by rfl) rfl rfl ga ?_
                  with_reducible refine (mat_Matrix_At.calls t315 t316 t317 _ _ t318 0 0 t339 _ ?side1 ?side2 A156.out).mono ?_
                  (case side1 => exact ks HO_323003)
                  (case side2 => exact (Kd.R_reads' HO_323003.out).2.1)
                  rintro e w160 ⟨rfl, hb⟩
                  refine ⟨_, rfl, ?_⟩
                  refine ax13 (Kd.R_below (kr HO_280003) hb) (Kd.R_below (kr HO_287003) hb) (Kd.R_below (kr HO_294003) hb) (Kd.R_below (kr HO_323003) hb) (Kd.R_below (kr HO328) hb) (Kd.R_below (kr HO336) hb) (bb BK279 hb) (bb BK286 hb) (bb BK293 hb) (bb BK322 hb) (bb BK330 hb) (bb BK338 hb) (below_step bes hb) ?_
                  clear HO_280003 HO_287003 HO_294003 HO_323003 HO328 HO336 BK279 BK286 BK293 BK322 BK330 BK338 HB
                  intro HO_280003 HO_287003 HO_294003 HO_323003 HO328 HO336 BK279 BK286 BK293 BK322 BK330 BK338 HB
                  (try clear hb)
                  (try clear hb2)
                  (try clear hk)
                  (try clear hi)
                  refine hK.out _ _ ⟨(blk_cell BK322.out 0).trans rfl, (blk_cell BK322.out 1).trans rfl, (blk_cell BK322.out 2).trans rfl, (blk_cell BK322.out 3).trans rfl, (blk_cell BK279.out 0).trans rfl, (blk_cell BK279.out 1).trans rfl, (blk_cell BK279.out 2).trans rfl, (blk_cell BK279.out 3).trans rfl⟩ (fun hHeld => ?_)
                  clear hK K
                  refine norm_ (a' := ?_) ?_ ?_
                  rotate_left
                  ·
                   show Act.put _ (some 201) _ = _
                   simp only [Act.put, sa0, sa1, sa2, i64_w, i32_w]
                   rfl
                  refine one_ (i := 16) (N := some 205) #[true, true, true, true, true, true, true, true, true, true, true, true, true, true, true, true, true, false, false] rfl rfl (one_of HT_.out (by kernel_rfl)) (by decide) (fun K hK => ?_)
                  refine goes_ Try.func11 (by kernel_rfl) rfl #[.agg #[.int .i64 t273, .int .i64 t274, .int .i64 t275, .slice Ao103 x280003_4.length co103], .int .i64 a4, .int .i64 a5] (by rfl) rfl rfl ga ?_
                  with_reducible refine (mat_Matrix_At.calls t273 t274 t275 _ _ x280003_4 a4 a5 t340 _ ?side1 ?side2 A157.out).mono ?_
                  (case side1 => exact ks HO_280003)
                  (case side2 => exact (Kd.R_reads' HO_280003.out).2.1)
                  rintro e w161 ⟨rfl, hb⟩
                  refine ⟨_, rfl, ?_⟩
                  refine ax13 (Kd.R_below (kr HO_280003) hb) (Kd.R_below (kr HO_287003) hb) (Kd.R_below (kr HO_294003) hb) (Kd.R_below (kr HO_323003) hb) (Kd.R_below (kr HO328) hb) (Kd.R_below (kr HO336) hb) (bb BK279 hb) (bb BK286 hb) (bb BK293 hb) (bb BK322 hb) (bb BK330 hb) (bb BK338 hb) (below_step bes hb) ?_
                  clear HO_280003 HO_287003 HO_294003 HO_323003 HO328 HO336 BK279 BK286 BK293 BK322 BK330 BK338 HB
                  intro HO_280003 HO_287003 HO_294003 HO_323003 HO328 HO336 BK279 BK286 BK293 BK322 BK330 BK338 HB
                  (try clear hb)
                  (try clear hb2)
                  (try clear hk)
                  (try clear hi)
                  refine hK.out _ _ ⟨(blk_cell BK322.out 0).trans rfl, (blk_cell BK322.out 1).trans rfl, (blk_cell BK322.out 2).trans rfl, (blk_cell BK322.out 3).trans rfl, (blk_cell BK279.out 0).trans rfl, (blk_cell BK279.out 1).trans rfl, (blk_cell BK279.out 2).trans rfl, (blk_cell BK279.out 3).trans rfl⟩ (fun hHeld => ?_)
                  clear hK K
                  refine norm_ (a' := ?_) ?_ ?_
                  rotate_left
                  ·
                   show Act.put _ (some 205) _ = _
                   simp only [Act.put, sa0, sa1, sa2, i64_w, i32_w]
                   rfl
                  refine pure_ (i := 17) (N := some 206) (v := ?_) (a' := ?_) #[true, true, true, true, true, true, true, true, true, true, true, true, true, true, true, true, true, true, false] rfl rfl (any_of HT_.out (by kernel_rfl)) (fun _ _ _ h => h) (Or.inl ⟨by rfl, ?_⟩) ?_ ?_
                  rotate_left
                  ·
                   intro w'
                   go_simp
                   with_reducible rfl
                  rotate_left
                  ·
                   simp only [Act.put, sa0, sa1, sa2, i64_w, i32_w]
                   rfl
                  refine pure_ (i := 18) (N := some 207) (v := ?_) (a' := ?_) #[true, true, true, true, true, true, true, true, true, true, true, true, true, true, true, true, true, true, true] rfl rfl (any_of HT_.out (by kernel_rfl)) (fun _ _ _ h => h) (Or.inl ⟨by rfl, ?_⟩) ?_ ?_
                  rotate_left
                  ·
                   intro w'
                   go_simp
                   with_reducible rfl
                  rotate_left
                  ·
                   simp only [Act.put, sa0, sa1, sa2, i64_w, i32_w]
                   rfl
                  refine done_ (done_of HT_.out (by kernel_rfl)) ?_
                  try go_wp2
                  go_meet
                  case rel => exact ⟨_, ((t339 != t340)), (by first | rfl | (simp; done) | (simp [*]; done)), H', ⟨by have := HJ13.out; have := HK2.out; have := HK3.out; have := HK4.out; have := HJ99.out; first | omega | exact Nat.le_refl _⟩, ⟨kr HO_280003⟩, ⟨kr HO_287003⟩, ⟨kr HO_294003⟩, ⟨kr HO_323003⟩, ⟨kr HO328⟩, ⟨kr HO336⟩, ⟨kb BK279⟩, ⟨kb BK286⟩, ⟨kb BK293⟩, ⟨kb BK322⟩, ⟨kb BK330⟩, ⟨kb BK338⟩, ⟨bes⟩⟩
                 case rest => as_aux_lemma =>
                  clear HC130
                  try clear c1
                  try clear p2
                  try clear c6
                  try clear p6
                  try clear c7
                  try clear p7
                  try clear q7
                  try clear hx7
                  try clear hf7
                  try clear c8
                  try clear c9
                  try clear p9
                  try clear q9
                  try clear hx9
                  try clear hf9
                  try clear c10
                  try clear c11
                  try clear c12
                  try clear c13
                  try clear c14
                  try clear c15
                  try clear c60
                  try clear c61
                  try clear p64
                  try clear c66
                  try clear c67
                  try clear c69
                  try clear c70
                  try clear c72
                  try clear c74
                  try clear c74b0
                  try clear c75
                  try clear c75b0
                  try clear c76
                  try clear c76b0
                  try clear p77
                  try clear q77
                  try clear hx77
                  try clear hf77
                  try clear c78
                  try clear c79
                  try clear c83
                  try clear c84
                  try clear c87
                  try clear c87b0
                  try clear c88
                  try clear c88b0
                  try clear c89
                  try clear c89b0
                  try clear p90
                  try clear q90
                  try clear hx90
                  try clear hf90
                  try clear c91
                  try clear c92
                  try clear c98
                  try clear c106
                  try clear c107
                  try clear c111
                  try clear c112
                  try clear c113
                  try clear c116
                  try clear c116b0
                  try clear c117
                  try clear c117b0
                  try clear c118
                  try clear c118b0
                  try clear c119
                  try clear c120
                  try clear c121
                  try clear c123
                  try clear c124
                  try clear c125
                  try clear c127
                  try clear c131
                  try clear c132
                  try clear c133
                  try clear c137
                  try clear c138
                  try clear c139
                  try clear c140
                  try clear c146
                  try clear c147
                  try clear c148
                  try clear c149
                  try clear c150
                  try clear c153
                  try clear c153b0
                  try clear c153b1
                  try clear c154
                  try clear c154b0
                  try clear c154b1
                  try clear c155
                  try clear c155b0
                  try clear c155b1
                  try clear hcz108_0
                  try clear hcz108_1
                  try clear hcz108_2
                  try clear hcz108_3
                  try clear hcz114_0
                  try clear hcz114_1
                  try clear hcz114_2
                  try clear hcz114_3
                  try clear hcz122_0
                  try clear hcz122_1
                  try clear hcz122_2
                  try clear hcz122_3
                  try clear hcz126_0
                  try clear hcz126_1
                  try clear hcz126_2
                  try clear hcz126_3
                  try clear hcz134_0
                  try clear hcz134_1
                  try clear hcz134_2
                  try clear hcz134_3
                  try clear hcz141_0
                  try clear hcz141_1
                  try clear hcz141_2
                  try clear hcz141_3
                  try clear hcz143_0
                  try clear hcz143_1
                  try clear hcz143_2
                  try clear hcz143_3
                  try clear hcz151_0
                  try clear hcz151_1
                  try clear hcz151_2
                  try clear hcz151_3
                  try clear hcz55_0
                  try clear hcz55_1
                  try clear hcz55_2
                  try clear hcz55_3
                  try clear hcz62_0
                  try clear hcz62_1
                  try clear hcz62_2
                  try clear hcz62_3
                  try clear hcz68_0
                  try clear hcz68_1
                  try clear hcz68_2
                  try clear hcz68_3
                  try clear hcz71_0
                  try clear hcz71_1
                  try clear hcz71_2
                  try clear hcz71_3
                  try clear hcz73_0
                  try clear hcz73_1
                  try clear hcz73_2
                  try clear hcz73_3
                  try clear hcz80_0
                  try clear hcz80_1
                  try clear hcz80_2
                  try clear hcz80_3
                  try clear hcz85_0
                  try clear hcz85_1
                  try clear hcz85_2
                  try clear hcz85_3
                  try clear hcz93_0
                  try clear hcz93_1
                  try clear hcz93_2
                  try clear hcz93_3
                  try clear hfz108_0
                  try clear hfz108_1
                  try clear hfz108_2
                  try clear hfz108_3
                  try clear hfz114_0
                  try clear hfz114_1
                  try clear hfz114_2
                  try clear hfz114_3
                  try clear hfz122_0
                  try clear hfz122_1
                  try clear hfz122_2
                  try clear hfz122_3
                  try clear hfz126_0
                  try clear hfz126_1
                  try clear hfz126_2
                  try clear hfz126_3
                  try clear hfz134_0
                  try clear hfz134_1
                  try clear hfz134_2
                  try clear hfz134_3
                  try clear hfz141_0
                  try clear hfz141_1
                  try clear hfz141_2
                  try clear hfz141_3
                  try clear hfz143_0
                  try clear hfz143_1
                  try clear hfz143_2
                  try clear hfz143_3
                  try clear hfz151_0
                  try clear hfz151_1
                  try clear hfz151_2
                  try clear hfz151_3
                  try clear hfz55_0
                  try clear hfz55_1
                  try clear hfz55_2
                  try clear hfz55_3
                  try clear hfz62_0
                  try clear hfz62_1
                  try clear hfz62_2
                  try clear hfz62_3
                  try clear hfz68_0
                  try clear hfz68_1
                  try clear hfz68_2
                  try clear hfz68_3
                  try clear hfz71_0
                  try clear hfz71_1
                  try clear hfz71_2
                  try clear hfz71_3
                  try clear hfz73_0
                  try clear hfz73_1
                  try clear hfz73_2
                  try clear hfz73_3
                  try clear hfz80_0
                  try clear hfz80_1
                  try clear hfz80_2
                  try clear hfz80_3
                  try clear hfz85_0
                  try clear hfz85_1
                  try clear hfz85_2
                  try clear hfz85_3
                  try clear hfz93_0
                  try clear hfz93_1
                  try clear hfz93_2
                  try clear hfz93_3
                  try clear hx77_0
                  try clear hx90_0
                  try clear p2
                  try clear p6
                  try clear p64
                  try clear p7
                  try clear p77
                  try clear p90
                  try clear q7
                  try clear q77
                  try clear q90
                  obtain ⟨kq, x207_129, rfl, HA, HJ129, HO_280003, HO_287003, HO_294003, HO_323003, HO_331003, HO_339003, BK279, BK286, BK293, BK322, BK330, BK338, HB⟩ := hcut
                  cases kq with
                  | zero => exact absurd HA.out (by simp [gimballaw09_MatCopies.j6])
                  | succ kj129 =>
                   have H := HA.out
                   clear HA
                   simp only [gimballaw09_MatCopies.j6] at H
                   by_cases c162 : x207_129 = true
                   ·
                    subst c162
                    rw [if_pos rfl] at H
                    rw [hLW] at H
                    exact absurd H (by simp)
                   ·
                    replace c162 := Bool.eq_false_iff.mpr c162
                    subst c162
                    rw [if_neg (show ¬ (false = true) by decide)] at H
                    have H' := Aside0.mk H
                    clear H
                    go_wp2
                    go_loopg [26] kj129 (fun kq v26 w' => ∃ (x26_7 : Int), v26 = .int .i64 x26_7 ∧ Aside0 (gimballaw09_MatCopies.l4 kq a4 a5 x26_7 t273 t274 t275 x280003_4 t323 t324 t325 t326 = some r) ∧ Aside0 (kq ≤ kj129) ∧ Aside0 (Kd.R (Kd.int .u64) 30 w' w.heap.size (fun k_ => some k_ ≠ (u287003 : Value).ownBlock ∧ some k_ ≠ (u294003 : Value).ownBlock ∧ some k_ ≠ ((.slice Ao115 t318.length co115) : Value).ownBlock ∧ some k_ ≠ ((.slice Ao142 t326.length co142) : Value).ownBlock ∧ some k_ ≠ ((.slice Ao152 t334.length co152) : Value).ownBlock) (.slice Ao103 x280003_4.length co103) x280003_4) ∧ Aside0 (Kd.R (Kd.int .u64) 30 w' w.heap.size (fun k_ => some k_ ≠ ((.slice Ao103 x280003_4.length co103) : Value).ownBlock ∧ some k_ ≠ (u294003 : Value).ownBlock ∧ some k_ ≠ ((.slice Ao115 t318.length co115) : Value).ownBlock ∧ some k_ ≠ ((.slice Ao142 t326.length co142) : Value).ownBlock ∧ some k_ ≠ ((.slice Ao152 t334.length co152) : Value).ownBlock) u287003 x287003_4) ∧ Aside0 (Kd.R (Kd.int .u64) 30 w' w.heap.size (fun k_ => some k_ ≠ ((.slice Ao103 x280003_4.length co103) : Value).ownBlock ∧ some k_ ≠ (u287003 : Value).ownBlock ∧ some k_ ≠ ((.slice Ao115 t318.length co115) : Value).ownBlock ∧ some k_ ≠ ((.slice Ao142 t326.length co142) : Value).ownBlock ∧ some k_ ≠ ((.slice Ao152 t334.length co152) : Value).ownBlock) u294003 x294003_4) ∧ Aside0 (Kd.R (Kd.int .u64) 30 w' w.heap.size (fun k_ => some k_ ≠ ((.slice Ao103 x280003_4.length co103) : Value).ownBlock ∧ some k_ ≠ (u287003 : Value).ownBlock ∧ some k_ ≠ (u294003 : Value).ownBlock ∧ some k_ ≠ ((.slice Ao142 t326.length co142) : Value).ownBlock ∧ some k_ ≠ ((.slice Ao152 t334.length co152) : Value).ownBlock) (.slice Ao115 t318.length co115) t318) ∧ Aside0 (Kd.R (Kd.int .u64) 30 w' w.heap.size (fun k_ => some k_ ≠ ((.slice Ao103 x280003_4.length co103) : Value).ownBlock ∧ some k_ ≠ (u287003 : Value).ownBlock ∧ some k_ ≠ (u294003 : Value).ownBlock ∧ some k_ ≠ ((.slice Ao115 t318.length co115) : Value).ownBlock ∧ some k_ ≠ ((.slice Ao152 t334.length co152) : Value).ownBlock) (.slice Ao142 t326.length co142) t326) ∧ Aside0 (Kd.R (Kd.int .u64) 30 w' w.heap.size (fun k_ => some k_ ≠ ((.slice Ao103 x280003_4.length co103) : Value).ownBlock ∧ some k_ ≠ (u287003 : Value).ownBlock ∧ some k_ ≠ (u294003 : Value).ownBlock ∧ some k_ ≠ ((.slice Ao115 t318.length co115) : Value).ownBlock ∧ some k_ ≠ ((.slice Ao142 t326.length co142) : Value).ownBlock) (.slice Ao152 t334.length co152) t334) ∧ Aside0 (w'.heap[gb279]? = some (.cells #[.int .i64 t273, .int .i64 t274, .int .i64 t275, (.slice Ao103 x280003_4.length co103)] 25 (0, 0))) ∧ Aside0 (w'.heap[gb286]? = some (.cells #[.int .i64 t280, .int .i64 t281, .int .i64 t282, u287003] 25 (0, 0))) ∧ Aside0 (w'.heap[gb293]? = some (.cells #[.int .i64 t287, .int .i64 t288, .int .i64 t289, u294003] 25 (0, 0))) ∧ Aside0 (w'.heap[gb322]? = some (.cells #[.int .i64 t315, .int .i64 t316, .int .i64 t317, (.slice Ao115 t318.length co115)] 25 (0, 0))) ∧ Aside0 (w'.heap[gb330]? = some (.cells #[.int .i64 t323, .int .i64 t324, .int .i64 t325, (.slice Ao142 t326.length co142)] 25 (0, 0))) ∧ Aside0 (w'.heap[gb338]? = some (.cells #[.int .i64 t331, .int .i64 t332, .int .i64 t333, (.slice Ao152 t334.length co152)] 25 (0, 0))) ∧ Aside0 (Below w.heap.size w w'))
                    case atStart => exact ⟨(0), (by first | rfl | (simp; done) | (simp [*]; done)), H', ⟨Nat.le_refl _⟩, ⟨kr HO_280003⟩, ⟨kr HO_287003⟩, ⟨kr HO_294003⟩, ⟨kr HO_323003⟩, ⟨kr HO_331003⟩, ⟨kr HO_339003⟩, ⟨kb BK279⟩, ⟨kb BK286⟩, ⟨kb BK293⟩, ⟨kb BK322⟩, ⟨kb BK330⟩, ⟨kb BK338⟩, ⟨bes⟩⟩
                    case round =>
                     clear H'
                     try clear c1
                     try clear p2
                     try clear c6
                     try clear p6
                     try clear c7
                     try clear p7
                     try clear q7
                     try clear hx7
                     try clear hf7
                     try clear c8
                     try clear c9
                     try clear p9
                     try clear q9
                     try clear hx9
                     try clear hf9
                     try clear c10
                     try clear c11
                     try clear c12
                     try clear c13
                     try clear c14
                     try clear c15
                     try clear c16
                     try clear c60
                     try clear c61
                     try clear p64
                     try clear c66
                     try clear c67
                     try clear c69
                     try clear c70
                     try clear c72
                     try clear c74
                     try clear c74b0
                     try clear c75
                     try clear c75b0
                     try clear c76
                     try clear c76b0
                     try clear p77
                     try clear q77
                     try clear hx77
                     try clear hf77
                     try clear c78
                     try clear c79
                     try clear c83
                     try clear c84
                     try clear c87
                     try clear c87b0
                     try clear c88
                     try clear c88b0
                     try clear c89
                     try clear c89b0
                     try clear p90
                     try clear q90
                     try clear hx90
                     try clear hf90
                     try clear c91
                     try clear c92
                     try clear c98
                     try clear c106
                     try clear c107
                     try clear c111
                     try clear c112
                     try clear c113
                     try clear c116
                     try clear c116b0
                     try clear c117
                     try clear c117b0
                     try clear c118
                     try clear c118b0
                     try clear c119
                     try clear c120
                     try clear c121
                     try clear c123
                     try clear c124
                     try clear c125
                     try clear c127
                     try clear c131
                     try clear c132
                     try clear c133
                     try clear c137
                     try clear c138
                     try clear c139
                     try clear c140
                     try clear c146
                     try clear c147
                     try clear c148
                     try clear c149
                     try clear c150
                     try clear c153
                     try clear c153b0
                     try clear c153b1
                     try clear c154
                     try clear c154b0
                     try clear c154b1
                     try clear c155
                     try clear c155b0
                     try clear c155b1
                     try clear c162
                     try clear hcz108_0
                     try clear hcz108_1
                     try clear hcz108_2
                     try clear hcz108_3
                     try clear hcz114_0
                     try clear hcz114_1
                     try clear hcz114_2
                     try clear hcz114_3
                     try clear hcz122_0
                     try clear hcz122_1
                     try clear hcz122_2
                     try clear hcz122_3
                     try clear hcz126_0
                     try clear hcz126_1
                     try clear hcz126_2
                     try clear hcz126_3
                     try clear hcz134_0
                     try clear hcz134_1
                     try clear hcz134_2
                     try clear hcz134_3
                     try clear hcz141_0
                     try clear hcz141_1
                     try clear hcz141_2
                     try clear hcz141_3
                     try clear hcz143_0
                     try clear hcz143_1
                     try clear hcz143_2
                     try clear hcz143_3
                     try clear hcz151_0
                     try clear hcz151_1
                     try clear hcz151_2
                     try clear hcz151_3
                     try clear hcz55_0
                     try clear hcz55_1
                     try clear hcz55_2
                     try clear hcz55_3
                     try clear hcz62_0
                     try clear hcz62_1
                     try clear hcz62_2
                     try clear hcz62_3
                     try clear hcz68_0
                     try clear hcz68_1
                     try clear hcz68_2
                     try clear hcz68_3
                     try clear hcz71_0
                     try clear hcz71_1
                     try clear hcz71_2
                     try clear hcz71_3
                     try clear hcz73_0
                     try clear hcz73_1
                     try clear hcz73_2
                     try clear hcz73_3
                     try clear hcz80_0
                     try clear hcz80_1
                     try clear hcz80_2
                     try clear hcz80_3
                     try clear hcz85_0
                     try clear hcz85_1
                     try clear hcz85_2
                     try clear hcz85_3
                     try clear hcz93_0
                     try clear hcz93_1
                     try clear hcz93_2
                     try clear hcz93_3
                     try clear hfz108_0
                     try clear hfz108_1
                     try clear hfz108_2
                     try clear hfz108_3
                     try clear hfz114_0
                     try clear hfz114_1
                     try clear hfz114_2
                     try clear hfz114_3
                     try clear hfz122_0
                     try clear hfz122_1
                     try clear hfz122_2
                     try clear hfz122_3
                     try clear hfz126_0
                     try clear hfz126_1
                     try clear hfz126_2
                     try clear hfz126_3
                     try clear hfz134_0
                     try clear hfz134_1
                     try clear hfz134_2
                     try clear hfz134_3
                     try clear hfz141_0
                     try clear hfz141_1
                     try clear hfz141_2
                     try clear hfz141_3
                     try clear hfz143_0
                     try clear hfz143_1
                     try clear hfz143_2
                     try clear hfz143_3
                     try clear hfz151_0
                     try clear hfz151_1
                     try clear hfz151_2
                     try clear hfz151_3
                     try clear hfz55_0
                     try clear hfz55_1
                     try clear hfz55_2
                     try clear hfz55_3
                     try clear hfz62_0
                     try clear hfz62_1
                     try clear hfz62_2
                     try clear hfz62_3
                     try clear hfz68_0
                     try clear hfz68_1
                     try clear hfz68_2
                     try clear hfz68_3
                     try clear hfz71_0
                     try clear hfz71_1
                     try clear hfz71_2
                     try clear hfz71_3
                     try clear hfz73_0
                     try clear hfz73_1
                     try clear hfz73_2
                     try clear hfz73_3
                     try clear hfz80_0
                     try clear hfz80_1
                     try clear hfz80_2
                     try clear hfz80_3
                     try clear hfz85_0
                     try clear hfz85_1
                     try clear hfz85_2
                     try clear hfz85_3
                     try clear hfz93_0
                     try clear hfz93_1
                     try clear hfz93_2
                     try clear hfz93_3
                     try clear hx77_0
                     try clear hx90_0
                     try clear p2
                     try clear p6
                     try clear p64
                     try clear p7
                     try clear p77
                     try clear p9
                     try clear p90
                     try clear q7
                     try clear q77
                     try clear q9
                     try clear q90
                     obtain ⟨x26_7, rfl, HA, HK7, HO_280003, HO_287003, HO_294003, HO_323003, HO_331003, HO_339003, BK279, BK286, BK293, BK322, BK330, BK338, HB⟩ := hrel
                     cases gk with
                     | zero => exact absurd HA.out (by simp [gimballaw09_MatCopies.l4])
                     | succ k7 =>
                      have H := HA.out
                      clear HA
                      simp only [gimballaw09_MatCopies.l4] at H
                      by_cases c163 : x26_7 < t323
                      ·
                       rw [if_pos c163] at H
                       have c163b0 : decide (x26_7 < t323) = true := decide_eq_true c163
                       clear c163
                       have H' := Aside0.mk H
                       clear H
                       have hnb164 := NB330_279.out
                       have hnc164 := NB279_330.out
                       have hnb165 := NB330_286.out
                       have hnc165 := NB286_330.out
                       have hnb166 := NB330_293.out
                       have hnc166 := NB293_330.out
                       have hnb167 := NB330_322.out
                       have hnc167 := NB322_330.out
                       have hnb168 := NB330_338.out
                       have hnc168 := NB338_330.out
                       have hcz169_0 := bc BK330 0 rfl
                       have hcz169_1 := bc BK330 1 rfl
                       have hcz169_2 := bc BK330 2 rfl
                       have hcz169_3 := bc BK330 3 rfl
                       have hfz169_0 := blk_frozen BK330.out 0
                       have hfz169_1 := blk_frozen BK330.out 1
                       have hfz169_2 := blk_frozen BK330.out 2
                       have hfz169_3 := blk_frozen BK330.out 3
                       go_wp2
                       go_loopg [27] k7 (fun kq v27 w' => ∃ (x27_8 : Int), v27 = .int .i64 x27_8 ∧ Aside0 (gimballaw09_MatCopies.l5 kq a4 a5 x26_7 x27_8 t273 t274 t275 x280003_4 t323 t324 t325 t326 = some r) ∧ Aside0 (kq ≤ k7) ∧ Aside0 (Kd.R (Kd.int .u64) 30 w' w.heap.size (fun k_ => some k_ ≠ (u287003 : Value).ownBlock ∧ some k_ ≠ (u294003 : Value).ownBlock ∧ some k_ ≠ ((.slice Ao115 t318.length co115) : Value).ownBlock ∧ some k_ ≠ ((.slice Ao142 t326.length co142) : Value).ownBlock ∧ some k_ ≠ ((.slice Ao152 t334.length co152) : Value).ownBlock) (.slice Ao103 x280003_4.length co103) x280003_4) ∧ Aside0 (Kd.R (Kd.int .u64) 30 w' w.heap.size (fun k_ => some k_ ≠ ((.slice Ao103 x280003_4.length co103) : Value).ownBlock ∧ some k_ ≠ (u294003 : Value).ownBlock ∧ some k_ ≠ ((.slice Ao115 t318.length co115) : Value).ownBlock ∧ some k_ ≠ ((.slice Ao142 t326.length co142) : Value).ownBlock ∧ some k_ ≠ ((.slice Ao152 t334.length co152) : Value).ownBlock) u287003 x287003_4) ∧ Aside0 (Kd.R (Kd.int .u64) 30 w' w.heap.size (fun k_ => some k_ ≠ ((.slice Ao103 x280003_4.length co103) : Value).ownBlock ∧ some k_ ≠ (u287003 : Value).ownBlock ∧ some k_ ≠ ((.slice Ao115 t318.length co115) : Value).ownBlock ∧ some k_ ≠ ((.slice Ao142 t326.length co142) : Value).ownBlock ∧ some k_ ≠ ((.slice Ao152 t334.length co152) : Value).ownBlock) u294003 x294003_4) ∧ Aside0 (Kd.R (Kd.int .u64) 30 w' w.heap.size (fun k_ => some k_ ≠ ((.slice Ao103 x280003_4.length co103) : Value).ownBlock ∧ some k_ ≠ (u287003 : Value).ownBlock ∧ some k_ ≠ (u294003 : Value).ownBlock ∧ some k_ ≠ ((.slice Ao142 t326.length co142) : Value).ownBlock ∧ some k_ ≠ ((.slice Ao152 t334.length co152) : Value).ownBlock) (.slice Ao115 t318.length co115) t318) ∧ Aside0 (Kd.R (Kd.int .u64) 30 w' w.heap.size (fun k_ => some k_ ≠ ((.slice Ao103 x280003_4.length co103) : Value).ownBlock ∧ some k_ ≠ (u287003 : Value).ownBlock ∧ some k_ ≠ (u294003 : Value).ownBlock ∧ some k_ ≠ ((.slice Ao115 t318.length co115) : Value).ownBlock ∧ some k_ ≠ ((.slice Ao152 t334.length co152) : Value).ownBlock) (.slice Ao142 t326.length co142) t326) ∧ Aside0 (Kd.R (Kd.int .u64) 30 w' w.heap.size (fun k_ => some k_ ≠ ((.slice Ao103 x280003_4.length co103) : Value).ownBlock ∧ some k_ ≠ (u287003 : Value).ownBlock ∧ some k_ ≠ (u294003 : Value).ownBlock ∧ some k_ ≠ ((.slice Ao115 t318.length co115) : Value).ownBlock ∧ some k_ ≠ ((.slice Ao142 t326.length co142) : Value).ownBlock) (.slice Ao152 t334.length co152) t334) ∧ Aside0 (w'.heap[gb279]? = some (.cells #[.int .i64 t273, .int .i64 t274, .int .i64 t275, (.slice Ao103 x280003_4.length co103)] 25 (0, 0))) ∧ Aside0 (w'.heap[gb286]? = some (.cells #[.int .i64 t280, .int .i64 t281, .int .i64 t282, u287003] 25 (0, 0))) ∧ Aside0 (w'.heap[gb293]? = some (.cells #[.int .i64 t287, .int .i64 t288, .int .i64 t289, u294003] 25 (0, 0))) ∧ Aside0 (w'.heap[gb322]? = some (.cells #[.int .i64 t315, .int .i64 t316, .int .i64 t317, (.slice Ao115 t318.length co115)] 25 (0, 0))) ∧ Aside0 (w'.heap[gb330]? = some (.cells #[.int .i64 t323, .int .i64 t324, .int .i64 t325, (.slice Ao142 t326.length co142)] 25 (0, 0))) ∧ Aside0 (w'.heap[gb338]? = some (.cells #[.int .i64 t331, .int .i64 t332, .int .i64 t333, (.slice Ao152 t334.length co152)] 25 (0, 0))) ∧ Aside0 (Below w.heap.size w w'))
                       case atStart => exact ⟨(0), (by first | rfl | (simp; done) | (simp [*]; done)), H', ⟨Nat.le_refl _⟩, ⟨kr HO_280003⟩, ⟨kr HO_287003⟩, ⟨kr HO_294003⟩, ⟨kr HO_323003⟩, ⟨kr HO_331003⟩, ⟨kr HO_339003⟩, ⟨kb BK279⟩, ⟨kb BK286⟩, ⟨kb BK293⟩, ⟨kb BK322⟩, ⟨kb BK330⟩, ⟨kb BK338⟩, ⟨bes⟩⟩
                       case round =>
                        clear H'
                        try clear c1
                        try clear p2
                        try clear c6
                        try clear p6
                        try clear c7
                        try clear p7
                        try clear q7
                        try clear hx7
                        try clear hf7
                        try clear c8
                        try clear c9
                        try clear p9
                        try clear q9
                        try clear hx9
                        try clear hf9
                        try clear c10
                        try clear c11
                        try clear c12
                        try clear c13
                        try clear c14
                        try clear c15
                        try clear c16
                        try clear c60
                        try clear c61
                        try clear p64
                        try clear c66
                        try clear c67
                        try clear c69
                        try clear c70
                        try clear c72
                        try clear c74
                        try clear c74b0
                        try clear c75
                        try clear c75b0
                        try clear c76
                        try clear c76b0
                        try clear p77
                        try clear q77
                        try clear hx77
                        try clear hf77
                        try clear c78
                        try clear c79
                        try clear c83
                        try clear c84
                        try clear c87
                        try clear c87b0
                        try clear c88
                        try clear c88b0
                        try clear c89
                        try clear c89b0
                        try clear p90
                        try clear q90
                        try clear hx90
                        try clear hf90
                        try clear c91
                        try clear c92
                        try clear c98
                        try clear c106
                        try clear c107
                        try clear c111
                        try clear c112
                        try clear c113
                        try clear c116
                        try clear c116b0
                        try clear c117
                        try clear c117b0
                        try clear c118
                        try clear c118b0
                        try clear c119
                        try clear c120
                        try clear c121
                        try clear c123
                        try clear c124
                        try clear c125
                        try clear c127
                        try clear c131
                        try clear c132
                        try clear c133
                        try clear c137
                        try clear c138
                        try clear c139
                        try clear c140
                        try clear c146
                        try clear c147
                        try clear c148
                        try clear c149
                        try clear c150
                        try clear c153
                        try clear c153b0
                        try clear c153b1
                        try clear c154
                        try clear c154b0
                        try clear c154b1
                        try clear c155
                        try clear c155b0
                        try clear c155b1
                        try clear c162
                        try clear c163
                        try clear c163b0
                        try clear c164
                        try clear c165
                        try clear c166
                        try clear c167
                        try clear c168
                        try clear hcz108_0
                        try clear hcz108_1
                        try clear hcz108_2
                        try clear hcz108_3
                        try clear hcz114_0
                        try clear hcz114_1
                        try clear hcz114_2
                        try clear hcz114_3
                        try clear hcz122_0
                        try clear hcz122_1
                        try clear hcz122_2
                        try clear hcz122_3
                        try clear hcz126_0
                        try clear hcz126_1
                        try clear hcz126_2
                        try clear hcz126_3
                        try clear hcz134_0
                        try clear hcz134_1
                        try clear hcz134_2
                        try clear hcz134_3
                        try clear hcz141_0
                        try clear hcz141_1
                        try clear hcz141_2
                        try clear hcz141_3
                        try clear hcz143_0
                        try clear hcz143_1
                        try clear hcz143_2
                        try clear hcz143_3
                        try clear hcz151_0
                        try clear hcz151_1
                        try clear hcz151_2
                        try clear hcz151_3
                        try clear hcz169_0
                        try clear hcz169_1
                        try clear hcz169_2
                        try clear hcz169_3
                        try clear hcz55_0
                        try clear hcz55_1
                        try clear hcz55_2
                        try clear hcz55_3
                        try clear hcz62_0
                        try clear hcz62_1
                        try clear hcz62_2
                        try clear hcz62_3
                        try clear hcz68_0
                        try clear hcz68_1
                        try clear hcz68_2
                        try clear hcz68_3
                        try clear hcz71_0
                        try clear hcz71_1
                        try clear hcz71_2
                        try clear hcz71_3
                        try clear hcz73_0
                        try clear hcz73_1
                        try clear hcz73_2
                        try clear hcz73_3
                        try clear hcz80_0
                        try clear hcz80_1
                        try clear hcz80_2
                        try clear hcz80_3
                        try clear hcz85_0
                        try clear hcz85_1
                        try clear hcz85_2
                        try clear hcz85_3
                        try clear hcz93_0
                        try clear hcz93_1
                        try clear hcz93_2
                        try clear hcz93_3
                        try clear hfz108_0
                        try clear hfz108_1
                        try clear hfz108_2
                        try clear hfz108_3
                        try clear hfz114_0
                        try clear hfz114_1
                        try clear hfz114_2
                        try clear hfz114_3
                        try clear hfz122_0
                        try clear hfz122_1
                        try clear hfz122_2
                        try clear hfz122_3
                        try clear hfz126_0
                        try clear hfz126_1
                        try clear hfz126_2
                        try clear hfz126_3
                        try clear hfz134_0
                        try clear hfz134_1
                        try clear hfz134_2
                        try clear hfz134_3
                        try clear hfz141_0
                        try clear hfz141_1
                        try clear hfz141_2
                        try clear hfz141_3
                        try clear hfz143_0
                        try clear hfz143_1
                        try clear hfz143_2
                        try clear hfz143_3
                        try clear hfz151_0
                        try clear hfz151_1
                        try clear hfz151_2
                        try clear hfz151_3
                        try clear hfz169_0
                        try clear hfz169_1
                        try clear hfz169_2
                        try clear hfz169_3
                        try clear hfz55_0
                        try clear hfz55_1
                        try clear hfz55_2
                        try clear hfz55_3
                        try clear hfz62_0
                        try clear hfz62_1
                        try clear hfz62_2
                        try clear hfz62_3
                        try clear hfz68_0
                        try clear hfz68_1
                        try clear hfz68_2
                        try clear hfz68_3
                        try clear hfz71_0
                        try clear hfz71_1
                        try clear hfz71_2
                        try clear hfz71_3
                        try clear hfz73_0
                        try clear hfz73_1
                        try clear hfz73_2
                        try clear hfz73_3
                        try clear hfz80_0
                        try clear hfz80_1
                        try clear hfz80_2
                        try clear hfz80_3
                        try clear hfz85_0
                        try clear hfz85_1
                        try clear hfz85_2
                        try clear hfz85_3
                        try clear hfz93_0
                        try clear hfz93_1
                        try clear hfz93_2
                        try clear hfz93_3
                        try clear hx77_0
                        try clear hx90_0
                        try clear p2
                        try clear p6
                        try clear p64
                        try clear p7
                        try clear p77
                        try clear p9
                        try clear p90
                        try clear q7
                        try clear q77
                        try clear q9
                        try clear q90
                        obtain ⟨x27_8, rfl, HA, HK8, HO_280003, HO_287003, HO_294003, HO_323003, HO_331003, HO_339003, BK279, BK286, BK293, BK322, BK330, BK338, HB⟩ := hrel
                        cases gk with
                        | zero => exact absurd HA.out (by simp [gimballaw09_MatCopies.l5])
                        | succ k8 =>
                         have H := HA.out
                         clear HA
                         simp only [gimballaw09_MatCopies.l5] at H
                         by_cases c170 : x27_8 < t324
                         ·
                          rw [if_pos c170] at H
                          have c170b0 : decide (x27_8 < t324) = true := decide_eq_true c170
                          clear c170
                          obtain ⟨t341, A1710, H⟩ := Option.bind_eq_some_iff.mp H
                          (try dsimp -simprocs only at H)
                          have A171 := Aside0.mk A1710
                          clear A1710
                          obtain ⟨t342, A1720, H⟩ := Option.bind_eq_some_iff.mp H
                          (try dsimp -simprocs only at H)
                          have A172 := Aside0.mk A1720
                          clear A1720
                          by_cases c173 : t341 = t342
                          rotate_left
                          ·
                           rw [if_neg c173] at H
                           have c173b0 : (t341 == t342) = false := beq_eq_false_iff_ne.mpr c173
                           have c173b1 : (t341 != t342) = true := bne_iff_ne.mpr c173
                           rw [hLW] at H
                           exact absurd H (by simp)
                          rw [if_pos c173] at H
                          have c173b0 : (t341 == t342) = true := beq_iff_eq.mpr c173
                          have c173b1 : (t341 != t342) = false := bne_eq_false_iff_eq.mpr c173
                          clear c173
                          have H' := Aside0.mk H
                          clear H
                          have hnb174 := NB330_279.out
                          have hnc174 := NB279_330.out
                          have hnb175 := NB330_286.out
                          have hnc175 := NB286_330.out
                          have hnb176 := NB330_293.out
                          have hnc176 := NB293_330.out
                          have hnb177 := NB330_322.out
                          have hnc177 := NB322_330.out
                          have hnb178 := NB330_338.out
                          have hnc178 := NB338_330.out
                          have hcz179_0 := bc BK330 0 rfl
                          have hcz179_1 := bc BK330 1 rfl
                          have hcz179_2 := bc BK330 2 rfl
                          have hcz179_3 := bc BK330 3 rfl
                          have hfz179_0 := blk_frozen BK330.out 0
                          have hfz179_1 := blk_frozen BK330.out 1
                          have hfz179_2 := blk_frozen BK330.out 2
                          have hfz179_3 := blk_frozen BK330.out 3
                          try go_wp2
                          refine ax13 (Kd.R_drew HO_280003.out) (Kd.R_drew HO_287003.out) (Kd.R_drew HO_294003.out) (Kd.R_drew HO_323003.out) (Kd.R_drew HO_331003.out) (Kd.R_drew HO_339003.out) (blk_drew BK279.out) (blk_drew BK286.out) (blk_drew BK293.out) (blk_drew BK322.out) (blk_drew BK330.out) (blk_drew BK338.out) (below_drew1 HB.out) ?_
                          clear HO_280003 HO_287003 HO_294003 HO_323003 HO_331003 HO_339003 BK279 BK286 BK293 BK322 BK330 BK338 HB
                          intro HO_280003 HO_287003 HO_294003 HO_323003 HO_331003 HO_339003 BK279 BK286 BK293 BK322 BK330 BK338 HB
                          refine start_ (n := 13) (S := fun w' => w'.cell? ⟨gb330, 0, none⟩ = some (.int .i64 t323) ∧ w'.cell? ⟨gb330, 1, none⟩ = some (.int .i64 t324) ∧ w'.cell? ⟨gb330, 2, none⟩ = some (.int .i64 t325) ∧ w'.cell? ⟨gb330, 3, none⟩ = some (.slice Ao142 t326.length co142) ∧ w'.cell? ⟨gb279, 0, none⟩ = some (.int .i64 t273) ∧ w'.cell? ⟨gb279, 1, none⟩ = some (.int .i64 t274) ∧ w'.cell? ⟨gb279, 2, none⟩ = some (.int .i64 t275) ∧ w'.cell? ⟨gb279, 3, none⟩ = some (.slice Ao103 x280003_4.length co103)) (ds := []) #[false, false, false, false, false, false, false, false, false, false, false, false, false] (by kernel_rfl) rfl rfl ⟨(blk_cell BK330.out 0).trans rfl, (blk_cell BK330.out 1).trans rfl, (blk_cell BK330.out 2).trans rfl, (blk_cell BK330.out 3).trans rfl, (blk_cell BK279.out 0).trans rfl, (blk_cell BK279.out 1).trans rfl, (blk_cell BK279.out 2).trans rfl, (blk_cell BK279.out 3).trans rfl⟩ (fun hHeld => ?_); refine with_tabW gimballaw09_MatCopies.tab43 gimballaw09_MatCopies.bits43 (fun HT_ HW_ => ?_)
                          generalize wr.drew = w180 at HO_280003 HO_287003 HO_294003 HO_323003 HO_331003 HO_339003 BK279 BK286 BK293 BK322 BK330 BK338 HB hHeld ⊢
                          refine pure_ (i := 1) (N := some 221) (v := ?_) (a' := ?_) #[false, true, false, false, false, false, false, false, false, false, false, false, false] rfl rfl (any_of HT_.out (by kernel_rfl)) (fun _ _ _ h => h) (Or.inl ⟨by rfl, ?_⟩) ?_ ?_
                          rotate_left
                          ·
                           intro w'
                           go_simp
                           with_reducible rfl
                          rotate_left
                          ·
                           simp only [Act.put, sa0, sa1, sa2, i64_w, i32_w]
                           rfl
                          refine pure_ (i := 2) (N := some 222) (v := ?_) (a' := ?_) #[false, true, true, false, false, false, false, false, false, false, false, false, false] rfl rfl (any_of HT_.out (by kernel_rfl)) (fun _ _ _ h => h) (Or.inl ⟨by rfl, ?_⟩) ?_ ?_
                          rotate_left
                          ·
                           intro w'
                           go_simp
                           with_reducible rfl
                          rotate_left
                          ·
                           simp only [Act.put, sa0, sa1, sa2, i64_w, i32_w]
                           rfl
                          refine pure_ (i := 5) (N := some 225) (v := ?_) (a' := ?_) #[false, true, true, false, false, true, false, false, false, false, false, false, false] rfl rfl (any_of HT_.out (by kernel_rfl)) (fun _ _ _ h => h) (Or.inl ⟨by rfl, ?_⟩) ?_ ?_
                          rotate_left
                          ·
                           intro w'
                           go_simp
                           with_reducible rfl
                          rotate_left
                          ·
                           simp only [Act.put, sa0, sa1, sa2, i64_w, i32_w]
                           rfl
                          refine pure_ (i := 6) (N := some 226) (v := ?_) (a' := ?_) #[false, true, true, false, false, true, true, false, false, false, false, false, false] rfl rfl (any_of HT_.out (by kernel_rfl)) (fun _ _ _ h => h) (Or.inl ⟨by rfl, ?_⟩) ?_ ?_
                          rotate_left
                          ·
                           intro w'
                           go_simp
                           with_reducible rfl
                          rotate_left
                          ·
                           simp only [Act.put, sa0, sa1, sa2, i64_w, i32_w]
                           rfl
                          refine pure_ (i := 7) (N := some 227) (v := ?_) (a' := ?_) #[false, true, true, false, false, true, true, true, false, false, false, false, false] rfl rfl (any_of HT_.out (by kernel_rfl)) (fun _ _ _ h => h) (Or.inl ⟨by rfl, ?_⟩) ?_ ?_
                          rotate_left
                          ·
                           intro w'
                           go_simp
                           with_reducible rfl
                          rotate_left
                          ·
                           simp only [Act.put, sa0, sa1, sa2, i64_w, i32_w]
                           rfl
                          refine pure_ (i := 8) (N := some 228) (v := ?_) (a' := ?_) #[false, true, true, false, false, true, true, true, true, false, false, false, false] rfl rfl (any_of HT_.out (by kernel_rfl)) (fun _ _ _ h => h) (Or.inl ⟨by rfl, ?_⟩) ?_ ?_
                          rotate_left
                          ·
                           intro w'
                           go_simp
                           with_reducible rfl
                          rotate_left
                          ·
                           simp only [Act.put, sa0, sa1, sa2, i64_w, i32_w]
                           rfl
                          refine pure_ (i := 9) (N := some 229) (v := ?_) (a' := ?_) #[false, true, true, false, false, true, true, true, true, true, false, false, false] rfl rfl (any_of HT_.out (by kernel_rfl)) (fun _ _ _ h => h) (Or.inl ⟨by rfl, ?_⟩) ?_ ?_
                          rotate_left
                          ·
                           intro w'
                           go_simp
                           with_reducible rfl
                          rotate_left
                          ·
                           simp only [Act.put, sa0, sa1, sa2, i64_w, i32_w]
                           rfl
                          refine pure_ (i := 10) (N := some 230) (v := ?_) (a' := ?_) #[false, true, true, false, false, true, true, true, true, true, true, false, false] rfl rfl (any_of HT_.out (by kernel_rfl)) (fun _ _ _ h => h) (Or.inl ⟨by rfl, ?_⟩) ?_ ?_
                          rotate_left
                          ·
                           intro w'
                           go_simp
                           with_reducible rfl
                          rotate_left
                          ·
                           simp only [Act.put, sa0, sa1, sa2, i64_w, i32_w]
                           rfl
                          refine take_ (i := 0) (N := some 220) (v := ?_) (a' := ?_) #[true, true, true, false, false, true, true, true, true, true, true, false, false] rfl rfl (take_ofW HT_.out HW_.out (by kernel_rfl)) (fun _ _ _ h => h) (Or.inl ⟨by rfl, ?_⟩) hHeld ?_ ?_
                          rotate_left
                          ·
                           rintro w' ⟨s0, s1, s2, s3, s4, s5, s6, s7⟩
                           go_simp
                           with_reducible rfl
                          rotate_left
                          ·
                           simp only [Act.put, sa0, sa1, sa2, i64_w, i32_w]
                           rfl
                          refine take_ (i := 4) (N := some 224) (v := ?_) (a' := ?_) #[true, true, true, false, true, true, true, true, true, true, true, false, false] rfl rfl (take_ofW HT_.out HW_.out (by kernel_rfl)) (fun _ _ _ h => h) (Or.inl ⟨by rfl, ?_⟩) hHeld ?_ ?_
                          rotate_left
                          ·
                           rintro w' ⟨s0, s1, s2, s3, s4, s5, s6, s7⟩
                           go_simp
                           with_reducible rfl
                          rotate_left
                          ·
                           simp only [Act.put, sa0, sa1, sa2, i64_w, i32_w]
                           rfl
                          refine one_ (i := 3) (N := some 223) #[true, true, true, true, true, true, true, true, true, true, true, false, false] rfl rfl (one_of HT_.out (by kernel_rfl)) (by decide) (fun K hK => ?_)
                          refine goes_ Try.func11 (by kernel_rfl) rfl #[.agg #[.int .i64 t323, .int .i64 t324, .int .i64 t325, .slice Ao142 t326.length co142], .int .i64 x26_7, .int .i64 x27_8] (by rfl) rfl rfl ga ?_
                          with_reducible refine (mat_Matrix_At.calls t323 t324 t325 _ _ t326 x26_7 x27_8 t341 _ ?side1 ?side2 A171.out).mono ?_
                          (case side1 => exact ks HO_331003)
                          (case side2 => exact (Kd.R_reads' HO_331003.out).2.1)
                          rintro e w181 ⟨rfl, hb⟩
                          refine ⟨_, rfl, ?_⟩
                          refine ax13 (Kd.R_below (kr HO_280003) hb) (Kd.R_below (kr HO_287003) hb) (Kd.R_below (kr HO_294003) hb) (Kd.R_below (kr HO_323003) hb) (Kd.R_below (kr HO_331003) hb) (Kd.R_below (kr HO_339003) hb) (bb BK279 hb) (bb BK286 hb) (bb BK293 hb) (bb BK322 hb) (bb BK330 hb) (bb BK338 hb) (below_step bes hb) ?_
                          clear HO_280003 HO_287003 HO_294003 HO_323003 HO_331003 HO_339003 BK279 BK286 BK293 BK322 BK330 BK338 HB
                          intro HO_280003 HO_287003 HO_294003 HO_323003 HO_331003 HO_339003 BK279 BK286 BK293 BK322 BK330 BK338 HB
                          (try clear hb)
                          (try clear hb2)
                          (try clear hk)
                          (try clear hi)
                          refine hK.out _ _ ⟨(blk_cell BK330.out 0).trans rfl, (blk_cell BK330.out 1).trans rfl, (blk_cell BK330.out 2).trans rfl, (blk_cell BK330.out 3).trans rfl, (blk_cell BK279.out 0).trans rfl, (blk_cell BK279.out 1).trans rfl, (blk_cell BK279.out 2).trans rfl, (blk_cell BK279.out 3).trans rfl⟩ (fun hHeld => ?_)
                          clear hK K
                          refine norm_ (a' := ?_) ?_ ?_
                          rotate_left
                          ·
                           show Act.put _ (some 223) _ = _
                           simp only [Act.put, sa0, sa1, sa2, i64_w, i32_w]
                           rfl
                          refine one_ (i := 11) (N := some 231) #[true, true, true, true, true, true, true, true, true, true, true, true, false] rfl rfl (one_of HT_.out (by kernel_rfl)) (by decide) (fun K hK => ?_)
                          refine goes_ Try.func11 (by kernel_rfl) rfl #[.agg #[.int .i64 t273, .int .i64 t274, .int .i64 t275, .slice Ao103 x280003_4.length co103], .int .i64 (wrap64 (a4 + x26_7)), .int .i64 (wrap64 (a5 + x27_8))] (by rfl) rfl rfl ga ?_
                          with_reducible refine (mat_Matrix_At.calls t273 t274 t275 _ _ x280003_4 (wrap64 (a4 + x26_7)) (wrap64 (a5 + x27_8)) t342 _ ?side1 ?side2 A172.out).mono ?_
                          (case side1 => exact ks HO_280003)
                          (case side2 => exact (Kd.R_reads' HO_280003.out).2.1)
                          rintro e w182 ⟨rfl, hb⟩
                          refine ⟨_, rfl, ?_⟩
                          refine ax13 (Kd.R_below (kr HO_280003) hb) (Kd.R_below (kr HO_287003) hb) (Kd.R_below (kr HO_294003) hb) (Kd.R_below (kr HO_323003) hb) (Kd.R_below (kr HO_331003) hb) (Kd.R_below (kr HO_339003) hb) (bb BK279 hb) (bb BK286 hb) (bb BK293 hb) (bb BK322 hb) (bb BK330 hb) (bb BK338 hb) (below_step bes hb) ?_
                          clear HO_280003 HO_287003 HO_294003 HO_323003 HO_331003 HO_339003 BK279 BK286 BK293 BK322 BK330 BK338 HB
                          intro HO_280003 HO_287003 HO_294003 HO_323003 HO_331003 HO_339003 BK279 BK286 BK293 BK322 BK330 BK338 HB
                          (try clear hb)
                          (try clear hb2)
                          (try clear hk)
                          (try clear hi)
                          refine hK.out _ _ ⟨(blk_cell BK330.out 0).trans rfl, (blk_cell BK330.out 1).trans rfl, (blk_cell BK330.out 2).trans rfl, (blk_cell BK330.out 3).trans rfl, (blk_cell BK279.out 0).trans rfl, (blk_cell BK279.out 1).trans rfl, (blk_cell BK279.out 2).trans rfl, (blk_cell BK279.out 3).trans rfl⟩ (fun hHeld => ?_)
                          clear hK K
                          refine norm_ (a' := ?_) ?_ ?_
                          rotate_left
                          ·
                           show Act.put _ (some 231) _ = _
                           simp only [Act.put, sa0, sa1, sa2, i64_w, i32_w]
                           rfl
                          refine pure_ (i := 12) (N := some 232) (v := ?_) (a' := ?_) #[true, true, true, true, true, true, true, true, true, true, true, true, true] rfl rfl (any_of HT_.out (by kernel_rfl)) (fun _ _ _ h => h) (Or.inl ⟨by rfl, ?_⟩) ?_ ?_
                          rotate_left
                          ·
                           intro w'
                           go_simp
                           with_reducible rfl
                          rotate_left
                          ·
                           simp only [Act.put, sa0, sa1, sa2, i64_w, i32_w]
                           rfl
                          refine done_ (done_of HT_.out (by kernel_rfl)) ?_
                          try go_wp2
                          go_roundg k8
                          case measure => have := HJ13.out; have := HK2.out; have := HK3.out; have := HK4.out; have := HJ99.out; have := HJ129.out; have := HK7.out; have := HK8.out; omega
                          case rel => exact ⟨(wrap64 (x27_8 + 1)), (by first | rfl | (simp; done) | (simp [*]; done)), H', ⟨by have := HJ13.out; have := HK2.out; have := HK3.out; have := HK4.out; have := HJ99.out; have := HJ129.out; have := HK7.out; have := HK8.out; omega⟩, ⟨kr HO_280003⟩, ⟨kr HO_287003⟩, ⟨kr HO_294003⟩, ⟨kr HO_323003⟩, ⟨kr HO_331003⟩, ⟨kr HO_339003⟩, ⟨kb BK279⟩, ⟨kb BK286⟩, ⟨kb BK293⟩, ⟨kb BK322⟩, ⟨kb BK330⟩, ⟨kb BK338⟩, ⟨bes⟩⟩
                         ·
                          rw [if_neg c170] at H
                          have c170b0 : decide (x27_8 < t324) = false := decide_eq_false c170
                          clear c170
                          have H' := Aside0.mk H
                          clear H
                          have hnb183 := NB330_279.out
                          have hnc183 := NB279_330.out
                          have hnb184 := NB330_286.out
                          have hnc184 := NB286_330.out
                          have hnb185 := NB330_293.out
                          have hnc185 := NB293_330.out
                          have hnb186 := NB330_322.out
                          have hnc186 := NB322_330.out
                          have hnb187 := NB330_338.out
                          have hnc187 := NB338_330.out
                          have hcz188_0 := bc BK330 0 rfl
                          have hcz188_1 := bc BK330 1 rfl
                          have hcz188_2 := bc BK330 2 rfl
                          have hcz188_3 := bc BK330 3 rfl
                          have hfz188_0 := blk_frozen BK330.out 0
                          have hfz188_1 := blk_frozen BK330.out 1
                          have hfz188_2 := blk_frozen BK330.out 2
                          have hfz188_3 := blk_frozen BK330.out 3
                          go_wp2
                          go_roundg k8
                          case measure => have := HJ13.out; have := HK2.out; have := HK3.out; have := HK4.out; have := HJ99.out; have := HJ129.out; have := HK7.out; have := HK8.out; omega
                          case rel => exact ⟨(wrap64 (x26_7 + 1)), (by first | rfl | (simp; done) | (simp [*]; done)), H', ⟨by have := HJ13.out; have := HK2.out; have := HK3.out; have := HK4.out; have := HJ99.out; have := HJ129.out; have := HK7.out; have := HK8.out; omega⟩, ⟨kr HO_280003⟩, ⟨kr HO_287003⟩, ⟨kr HO_294003⟩, ⟨kr HO_323003⟩, ⟨kr HO_331003⟩, ⟨kr HO_339003⟩, ⟨kb BK279⟩, ⟨kb BK286⟩, ⟨kb BK293⟩, ⟨kb BK322⟩, ⟨kb BK330⟩, ⟨kb BK338⟩, ⟨bes⟩⟩
                      ·
                       rw [if_neg c163] at H
                       have c163b0 : decide (x26_7 < t323) = false := decide_eq_false c163
                       clear c163
                       obtain rfl := Option.some.inj H
                       have hnb189 := NB330_279.out
                       have hnc189 := NB279_330.out
                       have hnb190 := NB330_286.out
                       have hnc190 := NB286_330.out
                       have hnb191 := NB330_293.out
                       have hnc191 := NB293_330.out
                       have hnb192 := NB330_322.out
                       have hnc192 := NB322_330.out
                       have hnb193 := NB330_338.out
                       have hnc193 := NB338_330.out
                       have hcz194_0 := bc BK330 0 rfl
                       have hcz194_1 := bc BK330 1 rfl
                       have hcz194_2 := bc BK330 2 rfl
                       have hcz194_3 := bc BK330 3 rfl
                       have hfz194_0 := blk_frozen BK330.out 0
                       have hfz194_1 := blk_frozen BK330.out 1
                       have hfz194_2 := blk_frozen BK330.out 2
                       have hfz194_3 := blk_frozen BK330.out 3
                       go_wp2
                       go_ret
                       exact ⟨er, bes⟩
/-- THE ONE PURE STATEMENT of gimballaw09_MatCopies: yours. -/
def gimballaw09_MatCopies.Pure : Prop := ∀ (a0 : Int) (a1 : Int) (a2 : Int) (l3 : List Int) (a4 : Int) (a5 : Int), (Lit.int .i64 a0).wf = true → (Lit.int .i64 a1).wf = true → (Lit.int .i64 a2).wf = true → l3.length ≤ maxLen → l3.length * 8 ≤ 140737488351232 → (∀ x ∈ l3, (Lit.int .u64 x).wf = true) → (Lit.int .i64 a4).wf = true → (Lit.int .i64 a5).wf = true → ∃ k, gimballaw09_MatCopies.f k a0 a1 a2 l3 a4 a5 = some true
theorem gimballaw09_MatCopies.walk (P : gimballaw09_MatCopies.Pure) (a0 : Int) (a1 : Int) (a2 : Int) (a3 : Option Addr) (len3 cap3 : Nat) (z3 : List Int) (a4 : Int) (a5 : Int) (w : World) (w0 : (Lit.int .i64 a0).wf = true) (w1 : (Lit.int .i64 a1).wf = true) (w2 : (Lit.int .i64 a2).wf = true) (w3 : (a3 = none ∧ len3 = 0 ∧ cap3 = 0 ∧ z3 = []) ∨ ∃ x, a3 = some x ∧ len3 ≤ cap3 ∧ cap3 ≤ maxLen ∧ z3.length = cap3 ∧ (∀ i, i < z3.length → w.cell? (x.add i) = some (.int .u64 (z3.getD i 0))) ∧ ∀ n ∈ z3, (Lit.int .u64 n).wf = true) (y3 : len3 * 8 ≤ 140737488351232) (w4 : (Lit.int .i64 a4).wf = true) (w5 : (Lit.int .i64 a5).wf = true) :
  Calls Try.prog 5 #[.int .i64 a0, .int .i64 a1, .int .i64 a2, .slice a3 len3 cap3, .int .i64 a4, .int .i64 a5] w fun e w' => e = .returned (.bool true) ∧ Below w.heap.size w w' := by
 obtain ⟨l3, rfl, hr3, hm3, hw3, hc3⟩ := ReadsInt.ofRowC w3
 obtain ⟨k, h⟩ := P a0 a1 a2 l3 a4 a5 w0 w1 w2 hm3 y3 hw3 w4 w5
 refine (gimballaw09_MatCopies.calls k a0 a1 a2 _ _ l3 a4 a5 true w (Kd.C_of_reads (d := (0 : Int)) (h1 := fun _ => rfl) hr3) hc3 rfl h).mono ?_
 rintro e w' ⟨rfl, hd⟩
 exact ⟨rfl, hd⟩

end Go.Proofs.Ytenegelkbfmjkaa.F
